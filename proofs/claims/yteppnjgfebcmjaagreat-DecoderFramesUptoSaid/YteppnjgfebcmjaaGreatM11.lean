/-
  What is known of a world in one word: blocks known whole, all apart; those of the first list may be written.
-/
import Derived.Test.YteppnjgfebcmjaaGreatM0
import Derived.Test.YteppnjgfebcmjaaGreatM10
namespace Go.Proofs.YteppnjgfebcmjaaGreat
open Go.RowKit

structure Ent where
  g : Nat
  t : TypeId
  cs : Array Value

/-- Behind w0 only blocks in S have turned; the blocks of both lists are known whole, no two the same; those of the first list are in S or new. -/
structure Sat (S : Nat → Prop) (w0 w : World) (own old : List Ent) : Prop where
  blk : ∀ e ∈ own ++ old, Blk w e.g e.t e.cs
  nd : ((own ++ old).map (·.g)).Nodup
  mine : ∀ e ∈ own, S e.g ∨ w0.heap.size ≤ e.g
  mod : Mod S w0 w

/-- A store into the block g of a list. -/
inductive Upd (g i : Nat) (u : Value) : List Ent → List Ent → Prop
  | here {t : TypeId} {cs cs' : Array Value} {l : List Ent} (e : cs.setIfInBounds i u = cs') : Upd g i u (⟨g, t, cs⟩ :: l) (⟨g, t, cs'⟩ :: l)
  | there {e : Ent} {l l' : List Ent} (h : Upd g i u l l') : Upd g i u (e :: l) (e :: l')

/-- The block g of a list is known anew. -/
inductive Rep (g : Nat) (t : TypeId) (cs' : Array Value) : List Ent → List Ent → Prop
  | here {t0 : TypeId} {cs : Array Value} {l : List Ent} : Rep g t cs' (⟨g, t0, cs⟩ :: l) (⟨g, t, cs'⟩ :: l)
  | there {e : Ent} {l l' : List Ent} (h : Rep g t cs' l l') : Rep g t cs' (e :: l) (e :: l')
theorem Rep.map {g : Nat} {t : TypeId} {cs' : Array Value} {l l' : List Ent} (h : Rep g t cs' l l') : l'.map (·.g) = l.map (·.g) := by
  induction h with
  | here => rfl
  | there _ ih => simp [ih]
theorem Rep.mem {g : Nat} {t : TypeId} {cs' : Array Value} {l l' : List Ent} (h : Rep g t cs' l l') : ∃ e ∈ l, e.g = g := by
  induction h with
  | here => exact ⟨_, List.mem_cons_self, rfl⟩
  | there _ ih => obtain ⟨e, h1, h2⟩ := ih; exact ⟨e, by simp [h1], h2⟩
theorem Rep.blk {g : Nat} {t : TypeId} {cs' : Array Value} {w w' : World} {l l' : List Ent} (h : Rep g t cs' l l') (hb : ∀ e ∈ l, Blk w e.g e.t e.cs) (hm : Mod (· = g) w w') (hn : (l.map (·.g)).Nodup) (hg : Blk w' g t cs') : ∀ e ∈ l', Blk w' e.g e.t e.cs := by
  induction h with
  | @here t0 cs l =>
    intro e he
    simp only [List.map_cons, List.nodup_cons] at hn
    rcases List.mem_cons.1 he with rfl | he
    · exact hg
    · exact (hb e (by simp [he])).keep hm (fun h => hn.1 (by rw [← show e.g = g from h]; exact List.mem_map.2 ⟨e, he, rfl⟩))
  | @there e0 l l' h ih =>
    intro e he
    simp only [List.map_cons, List.nodup_cons] at hn
    rcases List.mem_cons.1 he with rfl | he
    · obtain ⟨x, hx, hxg⟩ := h.mem
      exact (hb _ (by simp)).keep hm (fun h => hn.1 (by rw [show e.g = g from h, ← hxg]; exact List.mem_map.2 ⟨x, hx, rfl⟩))
    · exact ih (fun e he => hb e (by simp [he])) hn.2 e he
theorem Upd.map {g i : Nat} {u : Value} {l l' : List Ent} (h : Upd g i u l l') : l'.map (·.g) = l.map (·.g) := by
  induction h with
  | here => rfl
  | there _ ih => simp [ih]
theorem Upd.mem {g i : Nat} {u : Value} {l l' : List Ent} (h : Upd g i u l l') : ∃ e ∈ l, e.g = g := by
  induction h with
  | here => exact ⟨_, List.mem_cons_self, rfl⟩
  | there _ ih => obtain ⟨e, h1, h2⟩ := ih; exact ⟨e, by simp [h1], h2⟩
theorem Upd.blk {g i : Nat} {u : Value} {w : World} {l l' : List Ent} (h : Upd g i u l l') (hb : ∀ e ∈ l, Blk w e.g e.t e.cs) (hn : (l.map (·.g)).Nodup) : ∀ e ∈ l', Blk (w.setCell ⟨g, i, none⟩ u) e.g e.t e.cs := by
  induction h with
  | @here t cs cs' l he =>
    intro e hm
    simp only [List.map_cons, List.nodup_cons] at hn
    rcases List.mem_cons.1 hm with rfl | hm
    · exact (hb ⟨g, t, cs⟩ List.mem_cons_self).put he
    · exact (hb e (by simp [hm])).far (fun h => hn.1 (by dsimp at h; rw [← h]; exact List.mem_map.2 ⟨e, hm, rfl⟩)) _
  | @there e0 l l' h ih =>
    intro e hm
    simp only [List.map_cons, List.nodup_cons] at hn
    rcases List.mem_cons.1 hm with rfl | hm
    · obtain ⟨x, hx, hg⟩ := h.mem
      exact (hb _ (by simp)).far (fun h => hn.1 (by dsimp at h; rw [h, ← hg]; exact List.mem_map.2 ⟨x, hx, rfl⟩)) _
    · exact ih (fun e he => hb e (by simp [he])) hn.2 e hm

section
variable {S : Nat → Prop} {w0 w w' : World} {own old own' : List Ent}
theorem Sat.nil (S : Nat → Prop) (w : World) : Sat S w w [] [] := ⟨by simp, by simp, by simp, Mod.refl _ _⟩
/-- A beginning: blocks that are there already, none to be written. -/
theorem Sat.one (S : Nat → Prop) {g : Nat} {t : TypeId} {cs : Array Value} (h : Blk w g t cs) : Sat S w w [] [⟨g, t, cs⟩] := ⟨by simpa using h, by simp, by simp, Mod.refl _ _⟩
theorem Sat.own1 {g : Nat} {t : TypeId} {cs : Array Value} (h : Blk w g t cs) : Sat (· = g) w w [⟨g, t, cs⟩] [] := ⟨by simpa using h, by simp, by simp, Mod.refl _ _⟩
theorem Sat.add_old (h : Sat S w0 w own old) {g : Nat} {t : TypeId} {cs : Array Value} (hb : Blk w g t cs) (hg : ∀ e ∈ own ++ old, e.g ≠ g) : Sat S w0 w own (⟨g, t, cs⟩ :: old) := by
  refine ⟨?_, ?_, h.mine, h.mod⟩
  · intro e he
    rcases List.mem_append.1 he with he | he
    · exact h.blk e (by simp [he])
    · rcases List.mem_cons.1 he with rfl | he
      · exact hb
      · exact h.blk e (by simp [he])
  · have := h.nd
    simp only [List.map_append, List.map_cons, List.nodup_append, List.nodup_cons] at this ⊢
    refine ⟨this.1, ⟨fun hm => ?_, this.2.1⟩, fun a ha b hb' => ?_⟩
    · obtain ⟨e, he, hh⟩ := List.mem_map.1 hm
      exact hg e (by simp [he]) hh
    · rcases List.mem_cons.1 hb' with rfl | hb'
      · obtain ⟨e, he, hh⟩ := List.mem_map.1 ha
        rw [← hh]
        exact hg e (by simp [he])
      · exact this.2.2 a ha b hb'
theorem Sat.add_own (h : Sat S w0 w own old) {g : Nat} {t : TypeId} {cs : Array Value} (hb : Blk w g t cs) (hS : S g ∨ w0.heap.size ≤ g) (hg : ∀ e ∈ own ++ old, e.g ≠ g) : Sat S w0 w (⟨g, t, cs⟩ :: own) old := by
  refine ⟨?_, ?_, ?_, h.mod⟩
  · intro e he
    rcases List.mem_cons.1 he with rfl | he
    · exact hb
    · exact h.blk e he
  · have := h.nd
    simp only [List.cons_append, List.map_cons, List.nodup_cons]
    refine ⟨fun hm => ?_, this⟩
    obtain ⟨e, he, hh⟩ := List.mem_map.1 hm
    exact hg e he hh
  · intro e he
    rcases List.mem_cons.1 he with rfl | he
    · exact hS
    · exact h.mine e he
theorem Sat.alloc (h : Sat S w0 w own old) (t : TypeId) (cs : Array Value) {g : Nat} (hg : w.heap.size = g) : Sat S w0 (w.alloc (.cells cs t)) (⟨g, t, cs⟩ :: own) old := by
  subst hg
  refine ⟨?_, ?_, ?_, h.mod.alloc _⟩
  · intro e he
    rcases List.mem_cons.1 he with rfl | he
    · exact Blk.new _ _ _
    · exact (h.blk e he).alloc _
  · simp only [List.cons_append, List.map_cons, List.nodup_cons]
    refine ⟨fun hm => ?_, h.nd⟩
    obtain ⟨e, he, hh⟩ := List.mem_map.1 hm
    have := (h.blk e he).lt
    omega
  · intro e he
    rcases List.mem_cons.1 he with rfl | he
    · exact .inr h.mod.size
    · exact h.mine e he
theorem Sat.drew (h : Sat S w0 w own old) : Sat S w0 w.drew own old := ⟨fun e he => (h.blk e he).drew, h.nd, h.mine, h.mod.drew⟩
theorem Sat.drewN (h : Sat S w0 w own old) (n : Nat) : Sat S w0 (w.drewN n) own old := ⟨fun e he => (h.blk e he).drewN n, h.nd, h.mine, h.mod.drewN n⟩
theorem Sat.put (h : Sat S w0 w own old) {g i : Nat} {u : Value} (hu : Upd g i u own own') : Sat S w0 (w.setCell ⟨g, i, none⟩ u) own' old := by
  have hn := h.nd
  have hm := hu.map
  have hnl : (own.map (·.g)).Nodup := by
    rw [List.map_append, List.nodup_append] at hn
    exact hn.1
  obtain ⟨x, hx, hg⟩ := hu.mem
  refine ⟨?_, ?_, ?_, h.mod.setCell (p := ⟨g, i, none⟩) (by have := h.mine x hx; rw [hg] at this; exact this) _⟩
  · intro e he
    rcases List.mem_append.1 he with he | he
    · exact hu.blk (fun e he => h.blk e (by simp [he])) hnl e he
    · refine (h.blk e (by simp [he])).far (fun hh => ?_) _
      rw [List.map_append, List.nodup_append] at hn
      exact hn.2.2 x.g (List.mem_map.2 ⟨x, hx, rfl⟩) e.g (List.mem_map.2 ⟨e, he, rfl⟩) (by rw [hg]; exact hh.symm)
  · rw [List.map_append, hm, ← List.map_append]
    exact hn
  · intro e he
    have : e.g ∈ own.map (·.g) := hm ▸ List.mem_map.2 ⟨e, he, rfl⟩
    obtain ⟨y, hy, hh⟩ := List.mem_map.1 this
    rw [← hh]
    exact h.mine y hy
/-- Behind a call that turns nothing that was. -/
theorem Sat.quiet (h : Sat S w0 w own old) (hm : Mod (fun _ => False) w w') : Sat S w0 w' own old :=
  ⟨fun e he => (h.blk e he).keep hm (fun h => h), h.nd, h.mine, h.mod.into hm (fun _ h => h.elim)⟩
/-- The same, the call's effect first: it tells the world ahead. -/
theorem Sat.after (hm : Mod (fun _ => False) w w') (h : Sat S w0 w own old) : Sat S w0 w' own old := h.quiet hm
/-- Behind a call that turns nothing and makes a block. -/
theorem Sat.grew (hm : Mod (fun _ => False) w w') (h : Sat S w0 w own old) {g : Nat} {t : TypeId} {cs : Array Value} (hb : Blk w' g t cs) (hg : w.heap.size ≤ g) : Sat S w0 w' (⟨g, t, cs⟩ :: own) old :=
  (h.quiet hm).add_own hb (.inr (Nat.le_trans h.mod.size hg)) (fun e he => by have := (h.blk e he).lt; omega)
/-- Behind a call that turns blocks of S' alone, none of the lists. -/
theorem Sat.beside {S' : Nat → Prop} (hm : Mod S' w w') (h : Sat S w0 w own old) (hS : ∀ i, S' i → S i ∨ w0.heap.size ≤ i) (hn : ∀ e ∈ own ++ old, ¬ S' e.g) : Sat S w0 w' own old :=
  ⟨fun e he => (h.blk e he).keep hm (hn e he), h.nd, h.mine, h.mod.into hm hS⟩
/-- Behind a call that turns an own block, which is known anew. -/
theorem Sat.turn {g : Nat} {t : TypeId} {cs' : Array Value} (hm : Mod (· = g) w w') (h : Sat S w0 w own old) (hb : Blk w' g t cs') (hr : Rep g t cs' own own') : Sat S w0 w' own' old := by
  have hn := h.nd
  have hmp := hr.map
  obtain ⟨x, hx, hg⟩ := hr.mem
  have hnl : (own.map (·.g)).Nodup := by
    rw [List.map_append, List.nodup_append] at hn
    exact hn.1
  refine ⟨?_, ?_, ?_, h.mod.into hm (fun i hi => by rw [show i = g from hi, ← hg]; exact h.mine x hx)⟩
  · intro e he
    rcases List.mem_append.1 he with he | he
    · exact hr.blk (fun e he => h.blk e (by simp [he])) hm hnl hb e he
    · refine (h.blk e (by simp [he])).keep hm (fun hh => ?_)
      rw [List.map_append, List.nodup_append] at hn
      exact hn.2.2 x.g (List.mem_map.2 ⟨x, hx, rfl⟩) e.g (List.mem_map.2 ⟨e, he, rfl⟩) (by rw [hg]; exact hh.symm)
  · rw [List.map_append, hmp, ← List.map_append]
    exact hn
  · intro e he
    have : e.g ∈ own.map (·.g) := hmp ▸ List.mem_map.2 ⟨e, he, rfl⟩
    obtain ⟨y, hy, hh⟩ := List.mem_map.1 this
    rw [← hh]
    exact h.mine y hy
/-- Fewer blocks. -/
theorem Sat.drop_own {e : Ent} (h : Sat S w0 w (e :: own) old) : Sat S w0 w own old :=
  ⟨fun x hx => h.blk x (by simp only [List.cons_append, List.mem_cons]; exact .inr hx), (by have := h.nd; simp only [List.cons_append, List.map_cons, List.nodup_cons] at this; exact this.2), fun x hx => h.mine x (by simp [hx]), h.mod⟩
/-- The first own block turned by a call: known anew. -/
theorem Sat.renew {e : Ent} {cs : Array Value} (hm : Mod (· = e.g) w w') (h : Sat S w0 w (e :: own) old) (hb : Blk w' e.g e.t cs) : Sat S w0 w' (⟨e.g, e.t, cs⟩ :: own) old := by
  have hn := h.nd
  simp only [List.cons_append, List.map_cons, List.nodup_cons] at hn
  refine ⟨?_, ?_, ?_, h.mod.into hm (fun i hi => by rw [show i = e.g from hi]; exact h.mine e (by simp))⟩
  · intro x hx
    rcases List.mem_cons.1 hx with rfl | hx
    · exact hb
    · exact (h.blk x (by simp only [List.cons_append, List.mem_cons]; exact .inr hx)).keep hm (fun hh => hn.1 (List.mem_map.2 ⟨x, hx, hh⟩))
  · simpa only [List.cons_append, List.map_cons, List.nodup_cons] using hn
  · intro x hx
    rcases List.mem_cons.1 hx with rfl | hx
    · exact h.mine e (by simp)
    · exact h.mine x (by simp [hx])
theorem Sat.own_ (h : Sat S w0 w own old) (k : Nat) {e : Ent} (hk : own[k]? = some e) : Blk w e.g e.t e.cs := h.blk e (List.mem_append.2 (.inl (List.mem_of_getElem? hk)))
theorem Sat.old_ (h : Sat S w0 w own old) (k : Nat) {e : Ent} (hk : old[k]? = some e) : Blk w e.g e.t e.cs := h.blk e (List.mem_append.2 (.inr (List.mem_of_getElem? hk)))
theorem Sat.apart (h : Sat S w0 w own old) (i j : Nat) {a b : Ent} (hi : (own ++ old)[i]? = some a) (hj : (own ++ old)[j]? = some b) (hij : i < j) : a.g ≠ b.g := by
  have hn := h.nd
  rw [List.nodup_iff_pairwise_ne, List.pairwise_iff_getElem] at hn
  obtain ⟨h1, rfl⟩ := List.getElem?_eq_some_iff.1 hi
  obtain ⟨h2, rfl⟩ := List.getElem?_eq_some_iff.1 hj
  have := hn i j (by simpa using h1) (by simpa using h2) hij
  simpa only [List.getElem_map] using this
theorem Sat.low (h : Sat (fun _ => False) w0 w own old) (k : Nat) {e : Ent} (hk : own[k]? = some e) : w0.heap.size ≤ e.g := (h.mine e (List.mem_of_getElem? hk)).resolve_left (fun h => h)
end
end Go.Proofs.YteppnjgfebcmjaaGreat

/-
  The reference's Number; its reader: Open, Get.
-/
namespace Go.Proofs.YteppnjgfebcmjaaGreat
open Go.RowKit

/-- The number of noughts and ones. -/
def numL (l : List UInt8) : Nat := l.foldl (fun v b => 2 * v + b.toNat) 0
theorem numL_take (l : List UInt8) (k : Nat) (hk : k < l.length) : numL (l.take (k + 1)) = 2 * numL (l.take k) + (l.getD k 0).toNat := by
  rw [List.take_succ_eq_append_getElem hk, List.getD_eq_getElem?_getD, List.getElem?_eq_getElem hk]
  simp only [numL, List.foldl_append, List.foldl_cons, List.foldl_nil, Option.getD_some]
theorem numL_lt (l : List UInt8) (h1 : ∀ b ∈ l, b.toNat ≤ 1) : ∀ k, k ≤ l.length → numL (l.take k) < 2 ^ k := by
  intro k
  induction k with
  | zero => intro _; simp [numL]
  | succ k ih =>
    intro hk
    rw [numL_take l k (by omega), Nat.pow_succ]
    have h2 := ih (by omega)
    have h3 : (l.getD k 0).toNat ≤ 1 := by
      rw [List.getD_eq_getElem?_getD, List.getElem?_eq_getElem (show k < l.length by omega)]
      exact h1 _ (List.getElem_mem _)
    omega
def numRel (l : List UInt8) (v i : Value) : Prop := ∃ k : Nat, k ≤ l.length ∧ i = .int .i64 (k : Int) ∧ v = .int .u64 (numL (l.take k) : Int)

set_option maxRecDepth 100000 in
set_option maxHeartbeats 2000000 in
theorem refNumber (w : World) (A : Option Addr) (n c : Nat) (l : List UInt8) (hin : BytesIn w A n c l) (hn : n ≤ 64) (h1 : ∀ b ∈ l, b.toNat ≤ 1) : Calls Tryz.prog 102 #[.slice A n c] w fun e w' => e = .returned (.int .u64 (numL l : Int)) ∧ w = w' := by
  obtain rfl : l.length = n := hin.1
  go_enter Tryz.func102, Tryz.ntmps102
  go_wp2_with fail
  go_loop [3, 4] (numRel l) (fun _ i => l.length - (intOf i).toNat)
  case atStart => exact ⟨0, by omega, rfl, by simp [numL]⟩
  case round =>
    obtain ⟨k, hk, rfl, rfl⟩ := hrel
    by_cases hlt : k < l.length
    · obtain ⟨b, off, hA, hb, hcell⟩ := hin.place (by omega)
      subst hA
      have c1 : w.cell? ⟨b, off + k, none⟩ = some (.int .u8 ((l.getD k 0).toNat : Int)) := hcell k hlt
      clear hcell hin
      have hx : (l.getD k 0).toNat ≤ 1 := by
        rw [List.getD_eq_getElem?_getD, List.getElem?_eq_getElem (show k < l.length by omega)]
        exact h1 _ (List.getElem_mem _)
      have hsucc := numL_take l k hlt
      have hlen := numL_lt l h1 k hk
      have h63 : 2 ^ k ≤ 2 ^ 63 := Nat.pow_le_pow_right (by omega) (by omega)
      have hy : numL (l.take k) < 9223372036854775808 := by simp only [Nat.reducePow] at h63; omega
      generalize (l.getD k 0).toNat = x at *
      generalize numL (l.take k) = y at *
      have d1 : decide ((k : Int) < (l.length : Int)) = true := decide_eq_true (by omega)
      have HH := Lib.hid hsucc
      clear hsucc hlen h63
      go_wp2_with fail
      exact ⟨⟨k + 1, by omega, by go_num, by rw [HH.out]; simp⟩, by simp [intOf]; omega⟩
    · obtain rfl : k = l.length := by omega
      rw [List.take_length]
      go_wp2_with fail
      go_ret
      exact ⟨rfl, rfl⟩
theorem numL_row (l : List UInt8) (a : Nat) : ∀ n, a + n ≤ 8 * l.length → numL (((rowL l).drop a).take n) = numAt l a n := by
  intro n
  induction n with
  | zero => intro _; simp [numL, numAt]
  | succ n ih =>
    intro h
    rw [numL_take _ n (by rw [List.length_drop, rowL_length]; omega), ih (by omega), numAt, ← rowL_get l (a + n) (by omega)]
    congr 2
    rw [List.getD_eq_getElem?_getD, List.getD_eq_getElem?_getD, List.getElem?_drop]
theorem rowL_bits (l : List UInt8) : ∀ b ∈ rowL l, b.toNat ≤ 1 := by
  intro b hb
  obtain ⟨i, hi, rfl⟩ := List.mem_iff_getElem.1 hb
  have h := rowL_get l i (by rw [rowL_length] at hi; exact hi)
  rw [List.getD_eq_getElem?_getD, List.getElem?_eq_getElem hi] at h
  have := bitAt_lt l i
  simp only [Option.getD_some] at h
  omega

/-- A reference's reader in memory. -/
def RRd (w : World) (g : Nat) (l : List UInt8) (I : Nat) : Prop :=
  ∃ A n c B, Blk w g 153 #[.slice A n c, .int .i64 (I : Int)] ∧ Bytes w B (.slice A n c) (rowL l) ∧ I ≤ n ∧ n = 8 * l.length
theorem RRd.quiet {w w' : World} {g : Nat} {l : List UInt8} {I : Nat} (h : RRd w g l I) (hm : Mod (fun _ => False) w w') : RRd w' g l I := by
  obtain ⟨A, n, c, B, h1, h2, h3, h4⟩ := h
  exact ⟨A, n, c, B, h1.keep hm (fun h => h), h2.quiet hm, h3, h4⟩

set_option maxHeartbeats 1000000 in
theorem refOpen (w : World) (A : Option Addr) (n c : Nat) (l : List UInt8) (hin : BytesIn w A n c l) (hn : n ≤ 1048576) : Calls Tryz.prog 46 #[.slice A n c] w fun e w' => ∃ g, e = .returned (.pointer (some ⟨g, 0, none⟩)) ∧ RRd w' g l 0 ∧ w.heap.size ≤ g ∧ Mod (fun _ => False) w w' := by
  go_enter Tryz.func46, Tryz.ntmps46
  go_wp2_with fail
  refine (refRow _ A n c l hin hn).mono ?_
  rintro e w1 ⟨s, rfl, hs, hm⟩
  obtain ⟨A1, c1, rfl⟩ := own_shape hs
  have HH := Lib.hid (And.intro hs hm)
  clear hs hm
  go_wp2_with fail
  go_ret
  have hl : (rowL l).length = 8 * l.length := rowL_length l
  have h1 := HH.out.1
  simp only [hl] at *
  exact ⟨_, rfl, ⟨A1, _, c1, _, Blk.new _ _ _, h1.quiet ((Mod.refl _ _).alloc _), Nat.zero_le _, rfl⟩, HH.out.2.size, HH.out.2.alloc _⟩
end Go.Proofs.YteppnjgfebcmjaaGreat
