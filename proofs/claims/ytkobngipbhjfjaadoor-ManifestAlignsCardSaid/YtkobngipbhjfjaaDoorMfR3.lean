/-
  Rows of strings that a call owns; the reference's again and Paths, walked. Written by gen_r3.py.
-/
import Derived.Test.YtkobngipbhjfjaaDoorMfR2
import Derived.Test.YtkobngipbhjfjaaDoorMfLine
import Derived.Test.YtkobngipbhjfjaaDoorMfSame
import Derived.Test.YtkobngipbhjfjaaDoorMfStep
namespace Go.Proofs.YtkobngipbhjfjaaDoor
open Go.RowKit

theorem str_info : (Tryd.prog.info? 9).map (fun i => (i.zero, i.size, i.bytes)) = some (some (.string (strOf [])), 1, 16) := by kernel_rfl
def StrsOwn (w : World) (B : Nat) (v : Value) (l : List Str) : Prop := w.ownsRow B 9 1 v l.length (strsV l)
theorem StrsOwn.mod {S : Nat → Prop} {w w' : World} {B : Nat} {v : Value} {l : List Str} (h : StrsOwn w B v l) (hm : Mod S w w') (hS : ∀ g, v.ownBlock = some g → ¬ S g) : StrsOwn w' B v l := own_mod h hm hS
theorem StrsOwn.quiet {w w' : World} {B : Nat} {v : Value} {l : List Str} (h : StrsOwn w B v l) (hm : Mod (fun _ => False) w w') : StrsOwn w' B v l := own_mod h hm (fun _ _ h => h)
theorem StrsOwn.nil (w : World) (B : Nat) : StrsOwn w B (.slice none 0 0) [] := World.ownsRow_nil _ _ _ _
theorem StrsOwn.at_ {w : World} {B n c : Nat} {A : Option Addr} {l : List Str} (h : StrsOwn w B (.slice A n c) l) {i : Nat} {s : Str} (hi : l[i]? = some s) : ∃ g, A = some ⟨g, 0, none⟩ ∧ w.cell? ⟨g, i, none⟩ = some (.string (strOf s)) := by
  have hlt := (List.getElem?_eq_some_iff.1 hi).1
  obtain ⟨g, cap, cur, hv, hg, hb, _⟩ := own_some h (by omega)
  injection hv with hA h1 h2
  subst hA
  refine ⟨g, rfl, ?_⟩
  have hrow : w.ownsRow B 9 1 (.slice (some ⟨g, 0, none⟩) l.length c) l.length (strsV l) := by have := h; unfold StrsOwn at this; rw [h1] at this; exact this
  refine own_cell hrow ?_
  unfold strsV
  rw [List.getElem?_map, hi]
  rfl
theorem StrsOwn.len {w : World} {B n c : Nat} {A : Option Addr} {l : List Str} (h : StrsOwn w B (.slice A n c) l) : l.length = n := by
  rcases h.2 with ⟨hv, h0⟩ | ⟨g, cap, cur, hv, _⟩
  · injection hv with _ h1
    omega
  · injection hv with _ h1
    exact h1.symm
theorem wpList_app_str {ops : Array Oper} {rest : List Oper} {o : Oper} {a : Act} {Q : Exit → Act → World → Prop} (w : World) (hgd : o.guard = none) (s x : Operand)
    (ho : o.op = .call { callee := .builtin .append, args := #[s, x], argTypes := #[58, 58] })
    (B : Nat) (v : Value) (l : List Str) (y : Str) (hs : a.eval s = v) (hx : a.eval x = .slice (some ⟨w.heap.size, 0, none⟩) 1 1) (hown : StrsOwn w B v l) (hB : B ≤ w.heap.size) (hl : l.length < 1048576)
    (h : ∀ v' w', StrsOwn w' B v' (l ++ [y]) → Mod (fun j => v.ownBlock = some j) w w' → (∀ (W : World) (S : Nat → Prop), W.heap.size ≤ B → Mod S W w → Mod S W w') → (∀ g, v'.ownBlock = some g → v.ownBlock = some g ∨ w.heap.size ≤ g) → wpList Tryd.prog ops Q rest (a.put o.dst v') w') :
    wpList Tryd.prog ops Q (o :: rest) a (w.alloc (.cells #[.string (strOf y)] 9)) := by
  obtain ⟨i0, hi0, hz0, hz1, hz2⟩ := info_parts str_info
  refine wpList_append_src _ hgd s x 58 ho B 9 i0 _ 1 16 Tryd.underlying58 hi0 hz0 hz1 hz2 rfl (by omega) v l.length (strsV l) hs (own_mod hown ((Mod.refl (fun _ => False) w).alloc _) (fun _ _ h => h)) (some ⟨w.heap.size, 0, none⟩) 1 1 [.string (strOf y)] hx (Src.new w 9 [.string (strOf y)]) (fun h => by cases h) (fun u hu => by rw [List.mem_singleton.1 hu]; rfl) (by unfold maxLen; omega) (by omega) (by simp; omega) ?_
  intro v' w' h1 h2 h3
  have hM : Mod (fun j => v.ownBlock = some j) w w' := ((Mod.refl _ _).alloc _).grown h2 (fun k hk => .inl hk)
  refine h v' w' ?_ hM (fun W S hW hS => hS.into hM (fun i e => .inr (Nat.le_trans hW (hown.lt i e).1))) ?_
  · unfold StrsOwn
    have e1 : (l ++ [y]).length = l.length + 1 := by simp
    have e2 : strsV (l ++ [y]) = strsV l ++ [.string (strOf y)] := by simp [strsV]
    rw [e1, e2]
    exact h1
  · intro g hg
    rcases h3 with h3 | h3
    · exact .inl (h3 ▸ hg)
    · rw [h3] at hg
      injection hg with hg
      exact .inr (by simp at hg; omega)
theorem step_app_str {ops : Array Oper} {o : Oper} {a : Act} {K : Act → World → Prop} {Q : Exit → Act → World → Prop} {E : Prop} (w : World) (hgd : o.guard = none) (s x : Operand)
    (ho : o.op = .call { callee := .builtin .append, args := #[s, x], argTypes := #[58, 58] })
    (B : Nat) (v : Value) (l : List Str) (y : Str) (hs : a.eval s = v) (hx : a.eval x = .slice (some ⟨w.heap.size, 0, none⟩) 1 1) (hown : StrsOwn w B v l) (hB : B ≤ w.heap.size) (hl : l.length < 1048576)
    (h : ∀ v' w', StrsOwn w' B v' (l ++ [y]) → Mod (fun j => v.ownBlock = some j) w w' → (∀ (W : World) (S : Nat → Prop), W.heap.size ≤ B → Mod S W w → Mod S W w') → (∀ g, v'.ownBlock = some g → v.ownBlock = some g ∨ w.heap.size ≤ g) → K (a.put o.dst v') w') :
    if Region.wanted o (yielded ops a.tmps) = true then Oper.wp Tryd.prog o a (w.alloc (.cells #[.string (strOf y)] 9)) K Q else E := by
  obtain ⟨i0, hi0, hz0, hz1, hz2⟩ := info_parts str_info
  refine step_append_src _ hgd s x 58 ho B 9 i0 _ 1 16 Tryd.underlying58 hi0 hz0 hz1 hz2 rfl (by omega) v l.length (strsV l) hs (own_mod hown ((Mod.refl (fun _ => False) w).alloc _) (fun _ _ h => h)) (some ⟨w.heap.size, 0, none⟩) 1 1 [.string (strOf y)] hx (Src.new w 9 [.string (strOf y)]) (fun h => by cases h) (fun u hu => by rw [List.mem_singleton.1 hu]; rfl) (by unfold maxLen; omega) (by omega) (by simp; omega) ?_
  intro v' w' h1 h2 h3
  have hM : Mod (fun j => v.ownBlock = some j) w w' := ((Mod.refl _ _).alloc _).grown h2 (fun k hk => .inl hk)
  refine h v' w' ?_ hM (fun W S hW hS => hS.into hM (fun i e => .inr (Nat.le_trans hW (hown.lt i e).1))) ?_
  · unfold StrsOwn
    have e1 : (l ++ [y]).length = l.length + 1 := by simp
    have e2 : strsV (l ++ [y]) = strsV l ++ [.string (strOf y)] := by simp [strsV]
    rw [e1, e2]
    exact h1
  · intro g hg
    rcases h3 with h3 | h3
    · exact .inl (h3 ▸ hg)
    · rw [h3] at hg
      injection hg with hg
      exact .inr (by simp at hg; omega)
theorem nodup_no {l : List Str} {i k : Nat} {s : Str} (hi : l[i]? = some s) (hk : l[k]? = some s) (h : k < i) : l.Nodup → False := by
  intro hn
  have hlt := (List.getElem?_eq_some_iff.1 hk).1
  have := (List.getElem?_inj hlt hn).1 (hk.trans hi.symm)
  omega
def AgRel (w : World) (l : List Str) (v : Value) (wr : World) : Prop := ∃ i : Nat, i ≤ l.length ∧ v = .int .i64 (i : Int) ∧ (l.take i).Nodup ∧ Mod (fun _ => False) w wr
def AgIn (w : World) (l : List Str) (i : Nat) (s : Str) (v : Value) (wr : World) : Prop := ∃ k : Nat, k ≤ i ∧ v = .int .i64 (k : Int) ∧ (l.take k).contains s = false ∧ Mod (fun _ => False) w wr
theorem contains_snoc {l : List Str} {k : Nat} {x s : Str} (h : (l.take k).contains s = false) (hk : l[k]? = some x) (hx : s ≠ x) : (l.take (k + 1)).contains s = false := by
  rw [take_snoc hk, List.contains_eq_any_beq, List.any_append, ← List.contains_eq_any_beq, h]
  simp [hx]
set_option maxRecDepth 100000 in
set_option maxHeartbeats 4000000 in
theorem rAgain (w : World) (B n c : Nat) (A : Option Addr) (l : List Str) (h : StrsOwn w B (.slice A n c) l) (hl : n ≤ 1048576) : Calls Tryd.prog 33 #[.slice A n c] w fun e w' => e = .returned (.bool (!decide l.Nodup)) ∧ Mod (fun _ => False) w w' := by
  have hln := h.len
  have H := Lib.hid h
  clear h
  go_enter Tryd.func33, Tryd.ntmps33
  go_wp2_with fail
  go_loopw [3] (AgRel w l) (fun s _ => n - (intOf s).toNat)
  case atStart => exact ⟨0, by omega, rfl, by simp, Mod.refl _ _⟩
  case round =>
    rename World => wr
    obtain ⟨i, hi, rfl, hnd, hM⟩ := hrel
    by_cases hin : i < n
    · obtain ⟨s, hs⟩ : ∃ s, l[i]? = some s := ⟨_, List.getElem?_eq_getElem (by omega)⟩
      have d0 : decide ((i : Int) < (n : Int)) = true := decide_eq_true (by omega)
      have HI := Lib.hid (And.intro hnd (And.intro hM hs))
      clear hnd hM hs
      go_wp2_with fail
      go_loopw [4] (AgIn w l i s) (fun v _ => i - (intOf v).toNat)
      case atStart => exact ⟨0, by omega, rfl, by simp, HI.out.2.1⟩
      case round =>
        rename World => wq
        obtain ⟨k, hk, rfl, hck, hM2⟩ := hrel
        by_cases hki : k < i
        · obtain ⟨x, hx⟩ : ∃ x, l[k]? = some x := ⟨_, List.getElem?_eq_getElem (by omega)⟩
          have d1 : decide ((k : Int) < (i : Int)) = true := decide_eq_true (by omega)
          have hkn : k < n := by omega
          obtain ⟨g, hA, q0⟩ := (H.out.quiet (hM2.drew)).at_ HI.out.2.2
          obtain ⟨g', hA', q1⟩ := (H.out.quiet (hM2.drew)).at_ hx
          subst hA
          injection hA' with hA'
          injection hA' with hA'
          subst hA'
          have HK := Lib.hid (And.intro hck (And.intro hM2 hx))
          clear hck hM2 hx
          cases d2 : ((strOf s).toList == (strOf x).toList) with
          | true =>
            have HE := Lib.hid (show s = x by rw [str_beq] at d2; exact of_decide_eq_true d2)
            go_upto_region 7 with (fail)
            refine wp_region_plan [] [] [0, 1, 2, 3, 4, 5, 6, 7, 8] (by kernel_rfl) (by kernel_rfl) (fun _ _ _ d _ h => by cases d <;> exact h) ?_
            iterate 9 (refine plan_still rfl rfl (fun K hK => ?_); go_simp; refine hK _ ?_; clear hK K)
            refine plan_done ?_
            go_wp2_with fail
            go_ret
            refine ⟨?_, HK.out.2.1.drew⟩
            have h1 := HI.out.2.2
            rw [HE.out] at h1
            rw [decide_eq_false (fun hn => nodup_no h1 HK.out.2.2 hki hn)]
            rfl
          | false =>
            have HE := Lib.hid (show s ≠ x by rw [str_beq] at d2; exact of_decide_eq_false d2)
            go_upto_region 7 with (fail)
            refine wp_region_plan [] [] [0, 1, 2, 3, 4, 5, 6, 7, 8] (by kernel_rfl) (by kernel_rfl) (fun _ _ _ d _ h => by cases d <;> exact h) ?_
            iterate 9 (refine plan_still rfl rfl (fun K hK => ?_); go_simp; refine hK _ ?_; clear hK K)
            refine plan_done ?_
            go_wp2_with fail
            go_roundw
            case rel => exact ⟨k + 1, by omega, by go_num, contains_snoc HK.out.1 HK.out.2.2 HE.out, HK.out.2.1.drew⟩
            case measure => simp [intOf]; omega
        · obtain rfl : k = i := by omega
          have d1 : decide ((k : Int) < (k : Int)) = false := decide_eq_false (by omega)
          have HK := Lib.hid (And.intro (nodup_snoc HI.out.1 hck) hM2)
          clear hck hM2
          go_wp2_with fail
          go_roundw
          case rel => exact ⟨k + 1, by omega, by go_num, by rw [take_snoc HI.out.2.2]; exact HK.out.1, HK.out.2⟩
          case measure => simp [intOf]; omega
    · obtain rfl : i = n := by omega
      have d0 : decide ((i : Int) < (i : Int)) = false := decide_eq_false (by omega)
      rw [← hln, List.take_length] at hnd
      have HI := Lib.hid (And.intro hnd hM)
      clear hnd hM
      go_wp2_with fail
      go_ret
      exact ⟨by rw [decide_eq_true HI.out.1]; rfl, HI.out.2⟩
end Go.Proofs.YtkobngipbhjfjaaDoor
