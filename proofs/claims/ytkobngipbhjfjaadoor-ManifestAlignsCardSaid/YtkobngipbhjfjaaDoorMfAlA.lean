/-
  append of one piece onto a row that the call owns; small with its blocks; a state of ManifestAligns.
-/
import Derived.Test.YtkobngipbhjfjaaDoorMfAlP
import Derived.Test.YtkobngipbhjfjaaDoorMfCopy
import Derived.Test.YtkobngipbhjfjaaDoorMfR3
namespace Go.Proofs.YtkobngipbhjfjaaDoor
open Go.RowKit

theorem wpList_app_pc {ops : Array Oper} {rest : List Oper} {o : Oper} {a : Act} {Q : Exit → Act → World → Prop} (w : World) (hgd : o.guard = none) (s x : Operand)
    (ho : o.op = .call { callee := .builtin .append, args := #[s, x], argTypes := #[33, 33] })
    (B : Nat) (v : Value) (l : List Pc) (y : Pc) (hs : a.eval s = v) (hx : a.eval x = .slice (some ⟨w.heap.size, 0, none⟩) 1 1) (hown : PcsOwn w B v l) (hB : B ≤ w.heap.size) (hl : l.length < 1048576)
    (h : ∀ v' w', PcsOwn w' B v' (l ++ [y]) → Mod (fun j => v.ownBlock = some j) w w' → (∀ (W : World) (S : Nat → Prop), W.heap.size ≤ B → Mod S W w → Mod S W w') → (∀ g, v'.ownBlock = some g → v.ownBlock = some g ∨ w.heap.size ≤ g) → wpList Tryd.prog ops Q rest (a.put o.dst v') w') :
    wpList Tryd.prog ops Q (o :: rest) a (w.alloc (.cells (pcV y).toArray 32)) := by
  obtain ⟨i0, hi0, hz0, hz1, hz2⟩ := info_parts pc_info
  refine wpList_append_src _ hgd s x 33 ho B 32 i0 _ 3 32 Tryd.underlying33 hi0 hz0 hz1 hz2 rfl (by omega) v l.length (l.flatMap pcV) hs (own_mod hown ((Mod.refl (fun _ => False) w).alloc _) (fun _ _ h => h)) (some ⟨w.heap.size, 0, none⟩) 1 1 (pcV y) hx (Src.new w 32 (pcV y)) (fun h => by cases h) (pcV_one y) (by unfold maxLen; omega) (by omega) (by simp; omega) ?_
  intro v' w' h1 h2 h3
  have hM : Mod (fun j => v.ownBlock = some j) w w' := ((Mod.refl _ _).alloc _).grown h2 (fun k hk => .inl hk)
  refine h v' w' ?_ hM (fun W S hW hS => hS.into hM (fun i e => .inr (Nat.le_trans hW (World.ownsRow.lt hown i e).1))) ?_
  · unfold PcsOwn
    rw [List.length_append, List.length_singleton, List.flatMap_append, List.flatMap_singleton]
    exact h1
  · intro g hg
    rcases h3 with h3 | h3
    · exact .inl (h3 ▸ hg)
    · rw [h3] at hg
      injection hg with hg
      exact .inr (by simp at hg; omega)
theorem step_app_pc {ops : Array Oper} {o : Oper} {a : Act} {K : Act → World → Prop} {Q : Exit → Act → World → Prop} {E : Prop} (w : World) (hgd : o.guard = none) (s x : Operand)
    (ho : o.op = .call { callee := .builtin .append, args := #[s, x], argTypes := #[33, 33] })
    (B : Nat) (v : Value) (l : List Pc) (y : Pc) (hs : a.eval s = v) (hx : a.eval x = .slice (some ⟨w.heap.size, 0, none⟩) 1 1) (hown : PcsOwn w B v l) (hB : B ≤ w.heap.size) (hl : l.length < 1048576)
    (h : ∀ v' w', PcsOwn w' B v' (l ++ [y]) → Mod (fun j => v.ownBlock = some j) w w' → (∀ (W : World) (S : Nat → Prop), W.heap.size ≤ B → Mod S W w → Mod S W w') → (∀ g, v'.ownBlock = some g → v.ownBlock = some g ∨ w.heap.size ≤ g) → K (a.put o.dst v') w') :
    if Region.wanted o (yielded ops a.tmps) = true then Oper.wp Tryd.prog o a (w.alloc (.cells (pcV y).toArray 32)) K Q else E := by
  obtain ⟨i0, hi0, hz0, hz1, hz2⟩ := info_parts pc_info
  refine step_append_src _ hgd s x 33 ho B 32 i0 _ 3 32 Tryd.underlying33 hi0 hz0 hz1 hz2 rfl (by omega) v l.length (l.flatMap pcV) hs (own_mod hown ((Mod.refl (fun _ => False) w).alloc _) (fun _ _ h => h)) (some ⟨w.heap.size, 0, none⟩) 1 1 (pcV y) hx (Src.new w 32 (pcV y)) (fun h => by cases h) (pcV_one y) (by unfold maxLen; omega) (by omega) (by simp; omega) ?_
  intro v' w' h1 h2 h3
  have hM : Mod (fun j => v.ownBlock = some j) w w' := ((Mod.refl _ _).alloc _).grown h2 (fun k hk => .inl hk)
  refine h v' w' ?_ hM (fun W S hW hS => hS.into hM (fun i e => .inr (Nat.le_trans hW (World.ownsRow.lt hown i e).1))) ?_
  · unfold PcsOwn
    rw [List.length_append, List.length_singleton, List.flatMap_append, List.flatMap_singleton]
    exact h1
  · intro g hg
    rcases h3 with h3 | h3
    · exact .inl (h3 ▸ hg)
    · rw [h3] at hg
      injection hg with hg
      exact .inr (by simp at hg; omega)
set_option maxRecDepth 100000 in
set_option maxHeartbeats 4000000 in
theorem pSmallB (w : World) : Calls Tryd.prog 23 #[] w fun e w' => e = .returned (.agg (mfV smallM (some ⟨w.heap.size + 1 + 1, 0, none⟩) 1 1).toArray) ∧ Blk w' (w.heap.size + 1 + 1) 35 (lsV smallL (some ⟨w.heap.size + 1, 0, none⟩) 1 1).toArray ∧ w'.heap.size = w.heap.size + 3 ∧ Mod (fun _ => False) w w' := by
  go_enter Tryd.func23, Tryd.ntmps23
  go_wp2_with fail
  have hr := ((Blk.new w 24 #[.int .i64 30, .int .i64 1, .slice (some ⟨w.heap.size + 1 + 1, 0, none⟩) 1 1]).alloc (.cells (pcV smallP).toArray 32)).alloc (.cells (lsV smallL (some ⟨w.heap.size + 1, 0, none⟩) 1 1).toArray 35)
  have hl := Blk.new ((w.alloc (.cells #[.int .i64 30, .int .i64 1, .slice (some ⟨w.heap.size + 1 + 1, 0, none⟩) 1 1] 24)).alloc (.cells (pcV smallP).toArray 32)) 35 (lsV smallL (some ⟨w.heap.size + 1, 0, none⟩) 1 1).toArray
  rw [World.size_alloc, World.size_alloc] at hl
  exact bodyPost_ret (v := .agg (mfV smallM (some ⟨w.heap.size + 1 + 1, 0, none⟩) 1 1).toArray) (results_cell_row rfl _ _ w.heap.size 24 _ (0, 0) _ rfl hr Tryd.underlying24 rfl (by kernel_rfl)) rfl ⟨rfl, hl, by simp, (((Mod.refl (fun _ => False) w).alloc _).alloc _).alloc _⟩
structure AgSt (w : World) (mb nb : Nat) (mc rc : Array Value) (v u : Value) (fs : List Int) (wr : World) : Prop where
  hi : PcsOwn wr w.heap.size v (pcsFrom kHi 0 fs)
  lo : PcsOwn wr w.heap.size u (pcsFrom kLo 0 fs)
  mblk : Blk wr mb 24 mc
  rblk : Blk wr (w.heap.size + 1 + 1) 35 rc
  nblk : Blk wr nb 35 (lsU (loL []) u).toArray
  apart : ∀ g, v.ownBlock = some g → u.ownBlock ≠ some g
  old : Mod (fun _ => False) w wr
theorem AgSt.quiet {w wr w' : World} {mb nb : Nat} {mc rc : Array Value} {v u : Value} {fs : List Int} (h : AgSt w mb nb mc rc v u fs wr) (hm : Mod (fun _ => False) wr w') : AgSt w mb nb mc rc v u fs w' :=
  ⟨own_mod h.hi hm (fun _ _ h => h), own_mod h.lo hm (fun _ _ h => h), h.mblk.keep hm (fun h => h), h.rblk.keep hm (fun h => h), h.nblk.keep hm (fun h => h), h.apart, h.old.trans hm⟩
end Go.Proofs.YtkobngipbhjfjaaDoor
