/-
  What the encoder puts behind the decoder gets back: blocks, squares, frames, plain.
-/
import Derived.Test.YtmkopcojnibhlaaGreatDoorM36
import Derived.Test.YtmkopcojnibhlaaGreatDoorM38
import Derived.Test.YtmkopcojnibhlaaGreatDoorM41
import Derived.Test.YtmkopcojnibhlaaGreatDoorM42
import Derived.Test.YtmkopcojnibhlaaGreatDoorM43
namespace Go.Proofs.YtmkopcojnibhlaaGreatDoor
open Go.RowKit

/-! ### the order of a block's numbers -/
theorem ord8_inj : ∀ i < 64, ∀ j < 64, (ord8.getD i 0).toNat = (ord8.getD j 0).toNat → i = j := by decide +kernel
theorem ord8_onto : ∀ i < 64, ∃ j, j < 64 ∧ (ord8.getD j 0).toNat = i := by decide +kernel
theorem uns_get (c : List Int) (k : Nat) : k ≤ 64 → ∀ j, j < k → (unsTo c k).getD (ord8.getD j 0).toNat 0 = c.getD j 0 := by
  induction k with
  | zero => intro _ j hj; omega
  | succ k ih =>
    intro hk j hj
    have ho := ord8_facts.2 j (by omega)
    rw [unsTo, getD_set, unsTo_length]
    by_cases e : j = k
    · subst e
      rw [if_pos ⟨rfl, by omega⟩]
    · rw [if_neg (fun h => e (ord8_inj j (by omega) k (by omega) h.1.symm))]
      exact ih (by omega) j (by omega)
theorem sor_get (b : List Int) (k : Nat) : k ≤ 64 → ∀ j, j < k → (sorTo b k).getD j 0 = b.getD (ord8.getD j 0).toNat 0 := by
  induction k with
  | zero => intro _ j hj; omega
  | succ k ih =>
    intro hk j hj
    rw [sorTo, getD_set, sorTo_length]
    by_cases e : j = k
    · subst e
      rw [if_pos ⟨rfl, by omega⟩]
    · rw [if_neg (fun h => e h.1.symm)]
      exact ih (by omega) j (by omega)
theorem ext64 {a b : List Int} (ha : a.length = 64) (hb : b.length = 64) (h : ∀ i, i < 64 → a.getD i 0 = b.getD i 0) : a = b := by
  apply List.ext_getElem (by omega)
  intro i h1 h2
  have := h i (by omega)
  rw [List.getD_eq_getElem?_getD, List.getD_eq_getElem?_getD, List.getElem?_eq_getElem h1, List.getElem?_eq_getElem h2] at this
  exact this
theorem unsort_sort {l : List Int} (hl : l.length = 64) : unsortL (sortL l) = l := by
  refine ext64 (unsTo_length _ _) hl (fun i hi => ?_)
  obtain ⟨j, hj, e⟩ := ord8_onto i hi
  rw [← e]
  unfold unsortL sortL
  rw [uns_get _ 64 (Nat.le_refl _) j hj, sor_get _ 64 (Nat.le_refl _) j hj]

/-! ### a block of levels -/
theorem cnt_tail (L : List Int) (k : Nat) : ∀ j, cntTo L k ≤ j → j < k → L.getD j 0 = 0 := by
  induction k with
  | zero => intro j _ h; omega
  | succ k ih =>
    intro j h1 h2
    unfold cntTo at h1
    split at h1
    · rename_i h0
      by_cases e : j = k
      · rw [e]; exact h0
      · exact ih j h1 (by omega)
    · omega
theorem cnt_last (L : List Int) (k : Nat) : 0 < cntTo L k → L.getD (cntTo L k - 1) 0 ≠ 0 := by
  induction k with
  | zero => intro h; simp [cntTo] at h
  | succ k ih =>
    unfold cntTo
    split
    · exact ih
    · intro _
      simpa using ‹_›
/-- The first i numbers, and nothing behind. -/
def lvPad (L : List Int) (i : Nat) : List Int := L.take i ++ List.replicate (64 - i) 0
theorem pad_set {L : List Int} (hL : L.length = 64) {i : Nat} (hi : i < 64) : (lvPad L i).set i (L.getD i 0) = lvPad L (i + 1) := by
  have hp : ∀ k, k ≤ 64 → (lvPad L k).length = 64 := fun k hk => by simp [lvPad, hL]; omega
  refine ext64 (by rw [List.length_set]; exact hp i (by omega)) (hp _ (by omega)) (fun j hj => ?_)
  have hg : ∀ k, k ≤ 64 → (lvPad L k).getD j 0 = if j < k then L.getD j 0 else 0 := fun k hk => by
    unfold lvPad
    have hk2 : (L.take k).length = k := by rw [List.length_take]; omega
    rw [List.getD_eq_getElem?_getD]
    by_cases h : j < k
    · rw [if_pos h, List.getElem?_append_left (by omega), List.getElem?_take_of_lt h, List.getD_eq_getElem?_getD]
    · rw [if_neg h, List.getElem?_append_right (by omega), List.getElem?_replicate]
      split <;> rfl
  rw [getD_set, hp i (by omega), hg _ (by omega), hg _ (by omega)]
  by_cases e : i = j
  · subst e
    rw [if_pos ⟨rfl, by omega⟩, if_pos (by omega)]
  · rw [if_neg (fun h => e h.1)]
    by_cases h : j < i
    · rw [if_pos h, if_pos (by omega)]
    · rw [if_neg h, if_neg (by omega)]
theorem pad_all {L : List Int} (hL : L.length = 64) : lvPad L (cntTo L 64) = L := by
  have hc := cntTo_le L 64
  refine ext64 (by simp [lvPad, hL]; omega) hL (fun j hj => ?_)
  unfold lvPad
  have hk2 : (L.take (cntTo L 64)).length = cntTo L 64 := by rw [List.length_take]; omega
  rw [List.getD_eq_getElem?_getD]
  by_cases h : j < cntTo L 64
  · rw [List.getElem?_append_left (by omega), List.getElem?_take_of_lt h, List.getD_eq_getElem?_getD]
  · rw [List.getElem?_append_right (by omega), List.getElem?_replicate, cnt_tail L 64 j (by omega) hj]
    split <;> rfl
theorem rt_puts {t : Nat} (ht : t + 1 < 16) {L : List Int} (hL : L.length = 64) (hw : Within 1048576 L) {n : Nat} (hn : n ≤ 64) : ∀ (m i : Nat) (s : Es), i + m = n → EsOk s → Rt s (eputs (t + 1) ((L.take n).drop i) s) (lvTo t m i (lvPad L i)) (lvPad L n) := by
  intro m
  induction m with
  | zero =>
    intro i s h hs
    obtain rfl : i = n := by omega
    have e : (L.take i).drop i = [] := List.drop_eq_nil_of_le (by rw [List.length_take]; omega)
    rw [e]
    exact ⟨hs, fun F hF => ⟨hF, rfl⟩⟩
  | succ m ih =>
    intro i s h hs
    rw [eputs_step (t + 1) L n i s (by omega) (by omega)]
    have r1 := rt_signed hs (t := t + 1) (v := L.getD i 0) ht (by have := hw i; omega)
    have r2 := ih (i + 1) _ (by omega) r1.1
    refine ⟨r2.1, fun F hF => ?_⟩
    obtain ⟨h1, h2⟩ := r2.2 F hF
    obtain ⟨h3, h4⟩ := r1.2 F h1
    refine ⟨h3, ?_⟩
    unfold lvTo
    rw [h4]
    show lvTo t m (i + 1) ((lvPad L i).set i (L.getD i 0)) _ = _
    rw [pad_set hL (by omega)]
    exact h2
theorem rt_block {t : Nat} (ht : t + 1 < 16) {l : List Int} (hl : l.length = 64) (hw : Within 1048576 l) {s : Es} (hs : EsOk s) : Rt s (eblk t l s) (sblock t) l := by
  have hS : (sortL l).length = 64 := sorTo_length _ _
  have hws : Within 1048576 (sortL l) := sorTo_within hw 64
  have hus := unsort_sort hl
  unfold eblk
  generalize sortL l = L at *
  have hc := cntTo_le L 64
  have hlast := cnt_last L 64
  have hpad := pad_all hS
  generalize cntTo L 64 = n at *
  have r1 := rt_num hs (t := t) (v := n) (by omega) (by omega)
  have r2 := rt_puts ht hS hws hc n 0 (enum t n s) (by omega) r1.1
  rw [List.drop_zero, hpad] at r2
  refine ⟨r2.1, fun F hF => ?_⟩
  obtain ⟨h1, h2⟩ := r2.2 F hF
  obtain ⟨h3, h4⟩ := r1.2 F h1
  refine ⟨h3, ?_⟩
  unfold sblock
  rw [h4]
  show (if _ then _ else _) = _
  dsimp only
  rw [if_neg (by omega)]
  have e : lvPad L 0 = List.replicate 64 0 := rfl
  rw [e] at h2
  rw [h2]
  show lvFin _ _ = _
  unfold lvFin
  dsimp only
  rw [if_neg (fun h => hlast h.1 h.2), hus]

/-! ### a block of a square -/
theorem egof_length {kind W H : Nat} {pix apix : List UInt8} {x y pl : Nat} {vx vy : Int} {b : List UInt8} {s : Es} : (egof kind W H pix apix x y pl vx vy b s).1.length = 64 := by
  unfold egof
  split
  · exact guessL_length _ _ _ _ _
  · exact smoved_length _ _ _ _ _ _ _ _
theorem rt_gof {kind W H : Nat} {pix apix : List UInt8} {x y pl : Nat} {vx vy : Int} {b : List UInt8} {s : Es} (hs : EsOk s) :
    Rt s (egof kind W H pix apix x y pl vx vy b s).2 (gof (kind : Int) W H pix apix x y pl vx vy) (egof kind W H pix apix x y pl vx vy b s).1 := by
  by_cases h : kind = 2
  · subst h
    have r := rt_one hs (t := 0) (n := 4) (x := chMode W pix x y b) (by omega) (chMode_lt _ _ _ _ _) (Nat.le_refl _)
    refine ⟨r.1, fun F hF => ?_⟩
    obtain ⟨h1, h2⟩ := r.2 F hF
    refine ⟨h1, ?_⟩
    show sguess W pix x y _ = _
    unfold sguess
    rw [h2]
    rfl
  · unfold egof
    rw [if_neg h]
    refine ⟨hs, fun F hF => ⟨hF, ?_⟩⟩
    unfold gof
    rw [if_neg (by omega)]
theorem sqL_64 (W : Nat) (pix : List UInt8) (x y : Nat) : (sqL W pix x y 8).length = 64 := by rw [sqL_length]
theorem rt_step {d : Dim} {fr ahd : Pix} {kind : Nat} {Q : Int} (hq : 0 ≤ Q ∧ Q ≤ 31) (pl x y : Nat) (vx vy : Int) (f : Pix) {s : Es} (hs : EsOk s) :
    Rt s (eblkS d fr ahd kind Q pl x y vx vy f s).2 (stepB d ahd (kind : Int) Q pl x y vx vy f) (eblkS d fr ahd kind Q pl x y vx vy f s).1 := by
  have r1 := rt_gof (kind := kind) (W := d.wOf pl) (H := d.hOf pl) (pix := f.get pl) (apix := ahd.get pl) (x := x) (y := y) (pl := pl) (vx := vx) (vy := vy) (b := sqL (d.wOf pl) (fr.get pl) x y 8) hs
  have hgl := egof_length (kind := kind) (W := d.wOf pl) (H := d.hOf pl) (pix := f.get pl) (apix := ahd.get pl) (x := x) (y := y) (pl := pl) (vx := vx) (vy := vy) (b := sqL (d.wOf pl) (fr.get pl) x y 8) (s := s)
  have hbl := sqL_64 (d.wOf pl) (fr.get pl) x y
  by_cases h0 : kind = 0
  · have e : eblkS d fr ahd kind Q pl x y vx vy f s = (f.set pl (layTo (d.wOf pl) x y (egof kind (d.wOf pl) (d.hOf pl) (f.get pl) (ahd.get pl) x y pl vx vy (sqL (d.wOf pl) (fr.get pl) x y 8) s).1 (f.get pl) 8), s) := by
      unfold eblkS
      dsimp only
      rw [if_pos h0]
    have e2 : (egof kind (d.wOf pl) (d.hOf pl) (f.get pl) (ahd.get pl) x y pl vx vy (sqL (d.wOf pl) (fr.get pl) x y 8) s).2 = s := by
      unfold egof
      rw [if_neg (by omega)]
    rw [e2] at r1
    rw [e]
    refine ⟨hs, fun F hF => ⟨hF, ?_⟩⟩
    obtain ⟨_, h2⟩ := r1.2 F hF
    unfold stepB
    rw [h2]
    unfold sblk
    show Option.map _ (if _ then _ else _) = _
    rw [if_pos (by omega)]
    rfl
  · have e : eblkS d fr ahd kind Q pl x y vx vy f s = (f.set pl (layTo (d.wOf pl) x y (ebuilt (egof kind (d.wOf pl) (d.hOf pl) (f.get pl) (ahd.get pl) x y pl vx vy (sqL (d.wOf pl) (fr.get pl) x y 8) s).1 (elev (sqL (d.wOf pl) (fr.get pl) x y 8) (egof kind (d.wOf pl) (d.hOf pl) (f.get pl) (ahd.get pl) x y pl vx vy (sqL (d.wOf pl) (fr.get pl) x y 8) s).1 Q) Q) (f.get pl) 8), eblk (if 0 < pl then 4 else 2) (elev (sqL (d.wOf pl) (fr.get pl) x y 8) (egof kind (d.wOf pl) (d.hOf pl) (f.get pl) (ahd.get pl) x y pl vx vy (sqL (d.wOf pl) (fr.get pl) x y 8) s).1 Q) (egof kind (d.wOf pl) (d.hOf pl) (f.get pl) (ahd.get pl) x y pl vx vy (sqL (d.wOf pl) (fr.get pl) x y 8) s).2) := by
      unfold eblkS
      dsimp only
      rw [if_neg h0]
    rw [e]
    unfold stepB
    generalize egof kind (d.wOf pl) (d.hOf pl) (f.get pl) (ahd.get pl) x y pl vx vy (sqL (d.wOf pl) (fr.get pl) x y 8) s = a at *
    generalize sqL (d.wOf pl) (fr.get pl) x y 8 = b at *
    have hel := elev_length (gs := a.1) hbl Q
    have hew := elev_within (gs := a.1) hbl hq
    have hbs := ebuilt_some hbl hgl hq
    generalize elev b a.1 Q = lv at *
    have r2 := rt_block (t := if 0 < pl then 4 else 2) (by split <;> omega) hel (within_mono hew (by omega)) r1.1
    dsimp only
    generalize hnw : layTo (d.wOf pl) x y (ebuilt a.1 lv Q) (f.get pl) 8 = nw
    generalize eblk (if 0 < pl then 4 else 2) lv a.2 = s2 at *
    refine ⟨r2.1, fun F hF => ?_⟩
    obtain ⟨h1, h2⟩ := r2.2 F hF
    obtain ⟨h3, h4⟩ := r1.2 F h1
    refine ⟨h3, ?_⟩
    dsimp only
    rw [h4]
    unfold sblk
    show Option.map _ (if _ then _ else _) = _
    rw [if_neg (by omega)]
    dsimp only
    rw [h2]
    show Option.map _ (Option.map _ (buildL a.1 lv Q)) = _
    rw [hbs, ← hnw]
    rfl

/-! ### a square -/
theorem rt_blocks {d : Dim} {fr ahd : Pix} {kind : Nat} {Q : Int} (hq : 0 ≤ Q ∧ Q ≤ 31) (sx sy : Nat) (vx vy : Int) (f : Pix) (s : Es) : ∀ n, n ≤ 6 → EsOk (eblkTo d fr ahd kind Q sx sy vx vy f s (6 - n)).2 →
    Rt (eblkTo d fr ahd kind Q sx sy vx vy f s (6 - n)).2 (eblkTo d fr ahd kind Q sx sy vx vy f s 6).2 (blkFrom d ahd (kind : Int) Q (16 * sx) (16 * sy) vx vy n (eblkTo d fr ahd kind Q sx sy vx vy f s (6 - n)).1) (eblkTo d fr ahd kind Q sx sy vx vy f s 6).1 := by
  intro n
  induction n with
  | zero => exact fun _ h => ⟨h, fun F hF => ⟨hF, rfl⟩⟩
  | succ n ih =>
    intro hn hs
    have e1 : 6 - n = (5 - n) + 1 := by omega
    have e2 : 6 - (n + 1) = 5 - n := by omega
    rw [e2] at hs ⊢
    have r1 := rt_step (d := d) (fr := fr) (ahd := ahd) (kind := kind) hq (pcP (5 - n)) (pcX (16 * sx) (5 - n)) (pcY (16 * sy) (5 - n)) vx vy (eblkTo d fr ahd kind Q sx sy vx vy f s (5 - n)).1 hs
    have e3 : eblkS d fr ahd kind Q (pcP (5 - n)) (pcX (16 * sx) (5 - n)) (pcY (16 * sy) (5 - n)) vx vy (eblkTo d fr ahd kind Q sx sy vx vy f s (5 - n)).1 (eblkTo d fr ahd kind Q sx sy vx vy f s (5 - n)).2 = eblkTo d fr ahd kind Q sx sy vx vy f s (6 - n) := by
      rw [e1]
      rfl
    rw [e3] at r1
    have r2 := ih (by omega) r1.1
    refine ⟨r2.1, fun F hF => ?_⟩
    obtain ⟨h1, h2⟩ := r2.2 F hF
    obtain ⟨h3, h4⟩ := r1.2 F h1
    refine ⟨h3, ?_⟩
    unfold blkFrom
    rw [h4]
    exact h2
theorem ekind_v (d : Dim) (fr ahd : Pix) (K : Bool) (Q : Int) (sx sy : Nat) : (ekind d fr ahd K Q sx sy).k ≠ 1 → (ekind d fr ahd K Q sx sy).vx = 0 ∧ (ekind d fr ahd K Q sx sy).vy = 0 := by
  unfold ekind
  split
  · exact fun _ => ⟨rfl, rfl⟩
  · unfold kindS
    split
    · exact fun _ => ⟨rfl, rfl⟩
    · split
      · exact fun h => absurd rfl h
      · exact fun _ => ⟨rfl, rfl⟩
theorem rt_kind {K : Bool} {k : Nat} (hk : k < 3) (hK : K = true → k = 2) {s : Es} (hs : EsOk s) : Rt s (ekput K k s) (skind K) k := by
  unfold ekput skind
  by_cases h : K = true
  · simp only [if_pos h]
    refine ⟨hs, fun F hF => ⟨hF, ?_⟩⟩
    rw [hK h]
  · simp only [if_neg h]
    exact rt_one hs (by omega) hk (by omega)
theorem rt_vec {k : Kind} (h1 : -128 ≤ k.vx ∧ k.vx ≤ 128) (h2 : -128 ≤ k.vy ∧ k.vy ≤ 128) (h0 : k.k ≠ 1 → k.vx = 0 ∧ k.vy = 0) {s : Es} (hs : EsOk s) : Rt s (evput k s) (skvec k.k) (k.vx, k.vy) := by
  unfold evput skvec
  by_cases h : k.k = 1
  · simp only [if_pos h]
    have r1 := rt_signed hs (t := 6) (v := k.vx) (by omega) (by omega)
    have r2 := rt_signed r1.1 (t := 7) (v := k.vy) (by omega) (by omega)
    refine ⟨r2.1, fun F hF => ?_⟩
    obtain ⟨k1, k2⟩ := r2.2 F hF
    obtain ⟨k3, k4⟩ := r1.2 F k1
    refine ⟨k3, ?_⟩
    show vecTo 2 (stOf F s) 0 0 = _
    rw [vecTo_2, k4]
    show (if _ then _ else _) = _
    dsimp only
    rw [if_neg (by omega), vecTo_1, k2]
    show (if _ then _ else _) = _
    dsimp only
    rw [if_neg (by omega)]
    rfl
  · simp only [if_neg h]
    refine ⟨hs, fun F hF => ⟨hF, ?_⟩⟩
    rw [(h0 h).1, (h0 h).2]
theorem rt_square {d : Dim} {fr ahd : Pix} {K : Bool} {Q : Int} (hq : 0 ≤ Q ∧ Q ≤ 31) (sx sy : Nat) (f : Pix) {s : Es} (hs : EsOk s) :
    Rt s (esquareS d fr ahd K Q sx sy f s).2 (squareS d ahd K Q (16 * sx) (16 * sy) f) (esquareS d fr ahd K Q sx sy f s).1 := by
  obtain ⟨h1, h2, h3, h4, h5⟩ := ekind_facts d fr ahd K Q sx sy
  have h6 := ekind_v d fr ahd K Q sx sy
  unfold esquareS
  dsimp only
  generalize ekind d fr ahd K Q sx sy = k at *
  have r1 := rt_kind h1 h5 hs
  have r2 := rt_vec h2 h3 h6 r1.1
  have r3 := rt_blocks (d := d) (fr := fr) (ahd := ahd) (kind := k.k) hq sx sy k.vx k.vy f (evput k (ekput K k.k s)) 6 (Nat.le_refl _) r2.1
  refine ⟨r3.1, fun F hF => ?_⟩
  obtain ⟨a1, a2⟩ := r3.2 F hF
  obtain ⟨a3, a4⟩ := r2.2 F a1
  obtain ⟨a5, a6⟩ := r1.2 F a3
  refine ⟨a5, ?_⟩
  unfold squareS
  rw [a6]
  show Option.bind (skvec k.k _) _ = _
  dsimp only
  rw [a4]
  exact a2

/-! ### rows of squares, and what is behind the last one -/
theorem rt_row {d : Dim} {fr ahd : Pix} {K : Bool} {Q : Int} (hq : 0 ≤ Q ∧ Q ≤ 31) (sy : Nat) (a : Pix × Es) (hW : d.W = 16 * (d.W / 16)) : ∀ n, n ≤ d.W / 16 → EsOk (erow d fr ahd K Q sy (d.W / 16 - n) a).2 →
    Rt (erow d fr ahd K Q sy (d.W / 16 - n) a).2 (erow d fr ahd K Q sy (d.W / 16) a).2 (rowS d ahd K Q (16 * sy) n (erow d fr ahd K Q sy (d.W / 16 - n) a).1) (erow d fr ahd K Q sy (d.W / 16) a).1 := by
  intro n
  induction n with
  | zero => exact fun _ h => ⟨h, fun F hF => ⟨hF, rfl⟩⟩
  | succ n ih =>
    intro hn hs
    have e1 : d.W / 16 - n = (d.W / 16 - (n + 1)) + 1 := by omega
    have r1 := rt_square (d := d) (fr := fr) (ahd := ahd) (K := K) hq (d.W / 16 - (n + 1)) sy (erow d fr ahd K Q sy (d.W / 16 - (n + 1)) a).1 hs
    have e3 : esquareS d fr ahd K Q (d.W / 16 - (n + 1)) sy (erow d fr ahd K Q sy (d.W / 16 - (n + 1)) a).1 (erow d fr ahd K Q sy (d.W / 16 - (n + 1)) a).2 = erow d fr ahd K Q sy (d.W / 16 - n) a := by
      rw [e1]
      rfl
    rw [e3] at r1
    have r2 := ih (by omega) r1.1
    refine ⟨r2.1, fun F hF => ?_⟩
    obtain ⟨h1, h2⟩ := r2.2 F hF
    obtain ⟨h3, h4⟩ := r1.2 F h1
    refine ⟨h3, ?_⟩
    unfold rowS
    rw [show d.W - 16 * (n + 1) = 16 * (d.W / 16 - (n + 1)) by omega, h4]
    exact h2
theorem rt_rows {d : Dim} {fr ahd : Pix} {K : Bool} {Q : Int} (hq : 0 ≤ Q ∧ Q ≤ 31) (a : Pix × Es) (hW : d.W = 16 * (d.W / 16)) (hH : d.H = 16 * (d.H / 16)) : ∀ n, n ≤ d.H / 16 → EsOk (erows d fr ahd K Q (d.H / 16 - n) a).2 →
    Rt (erows d fr ahd K Q (d.H / 16 - n) a).2 (erows d fr ahd K Q (d.H / 16) a).2 (rowsS d ahd K Q n (erows d fr ahd K Q (d.H / 16 - n) a).1) (erows d fr ahd K Q (d.H / 16) a).1 := by
  intro n
  induction n with
  | zero => exact fun _ h => ⟨h, fun F hF => ⟨hF, rfl⟩⟩
  | succ n ih =>
    intro hn hs
    have e1 : d.H / 16 - n = (d.H / 16 - (n + 1)) + 1 := by omega
    have r1 := rt_row (d := d) (fr := fr) (ahd := ahd) (K := K) hq (d.H / 16 - (n + 1)) (erows d fr ahd K Q (d.H / 16 - (n + 1)) a) hW (d.W / 16) (Nat.le_refl _) (by rw [Nat.sub_self]; exact hs)
    rw [Nat.sub_self] at r1
    have e3 : erow d fr ahd K Q (d.H / 16 - (n + 1)) (d.W / 16) (erows d fr ahd K Q (d.H / 16 - (n + 1)) a) = erows d fr ahd K Q (d.H / 16 - n) a := by
      rw [e1]
      rfl
    rw [e3] at r1
    have r2 := ih (by omega) r1.1
    refine ⟨r2.1, fun F hF => ?_⟩
    obtain ⟨h1, h2⟩ := r2.2 F hF
    obtain ⟨h3, h4⟩ := r1.2 F h1
    refine ⟨h3, ?_⟩
    unfold rowsS
    rw [show d.H - 16 * (n + 1) = 16 * (d.H / 16 - (n + 1)) by omega]
    have e4 : erow d fr ahd K Q (d.H / 16 - (n + 1)) 0 (erows d fr ahd K Q (d.H / 16 - (n + 1)) a) = erows d fr ahd K Q (d.H / 16 - (n + 1)) a := rfl
    rw [e4] at h4
    rw [h4]
    exact h2
theorem es0_ok : EsOk es0 := ⟨⟨by decide, by decide, by decide⟩, fillB_length 16 (Nat.le_refl _), fill_ok⟩
/-- What a frame's code is decoded to. -/
theorem built_back {d : Dim} (hd : d.Ok) {fr ahd : Pix} {K : Bool} {Q : Int} (hq : 0 ≤ Q ∧ Q ≤ 31) : builtS d ahd K Q (ecode d fr ahd K Q).2.code = some (ecode d fr ahd K Q).1 := by
  have hw := hd.w16
  have hh := hd.h16
  have r := rt_rows (d := d) (fr := fr) (ahd := ahd) (K := K) hq (blankPix d 0, es0) (by omega) (by omega) (d.H / 16) (Nat.le_refl _) (by rw [Nat.sub_self]; exact es0_ok)
  rw [Nat.sub_self] at r
  have hl := erows_len (d := d) (fr := fr) (ahd := ahd) (K := K) hq (d.H / 16) (blankPix d 0, es0)
  have e0 : erows d fr ahd K Q 0 (blankPix d 0, es0) = (blankPix d 0, es0) := rfl
  rw [e0] at r
  have ec : ecode d fr ahd K Q = erows d fr ahd K Q (d.H / 16) (blankPix d 0, es0) := rfl
  rw [← ec] at r hl
  generalize ecode d fr ahd K Q = x at *
  obtain ⟨r1, r2⟩ := r
  have h4 : es0.code.length = 4 := rfl
  have hlen : 4 ≤ x.2.code.length := by have := hl.1; dsimp only at this; omega
  obtain ⟨_, hb⟩ := r2 x.2.code ⟨Nat.le_refl _, by rw [List.take_length]; exact Nat.le_refl _, by rw [List.take_length]; have := r1.code.1; omega⟩
  unfold builtS
  rw [if_neg (by omega)]
  have e1 : stOf x.2.code es0 = ⟨fillB 16, x.2.code.drop 4, be (x.2.code.take 4), 4294967295⟩ := by
    unfold stOf
    show St.mk (fillB 16) (x.2.code.drop 4) (be (x.2.code.take 4) - be [0, 0, 0, 0]) 4294967295 = _
    rw [show be [0, 0, 0, 0] = 0 from rfl, Nat.sub_zero]
  dsimp only at hb
  rw [e1] at hb
  rw [hb]
  show (if _ then _ else _) = _
  rw [if_pos]
  unfold stOf
  dsimp only
  rw [List.drop_length, List.take_length]
  exact ⟨rfl, Nat.sub_self _⟩
end Go.Proofs.YtmkopcojnibhlaaGreatDoor

/-
  What the encoder writes ahead of a code is read back: headers, sequences, whole frames, plain.
-/
namespace Go.Proofs.YtmkopcojnibhlaaGreatDoor
open Go.RowKit

theorem getD_app {l C : List UInt8} {i : Nat} (h : i < l.length) : (l ++ C).getD i 0 = l.getD i 0 := by
  rw [List.getD_eq_getElem?_getD, List.getElem?_append_left h, List.getD_eq_getElem?_getD]
theorem bitAt_app {l C : List UInt8} {i : Nat} (h : i < 8 * l.length) : bitAt (l ++ C) i = bitAt l i := by
  unfold bitAt
  rw [getD_app (by omega)]
theorem numAt_app {l C : List UInt8} {a : Nat} (n : Nat) (h : a + n ≤ 8 * l.length) : numAt (l ++ C) a n = numAt l a n := by
  induction n with
  | zero => rfl
  | succ n ih =>
    unfold numAt
    rw [ih (by omega), bitAt_app (by omega)]
theorem bget_app {l C : List UInt8} {a n : Nat} {r : Nat × Nat} (h : bget l a n = some r) : bget (l ++ C) a n = some r := by
  unfold bget at *
  split at h
  · rw [if_pos (by rw [List.length_append]; omega), numAt_app n (by assumption)]
    exact h
  · cases h
theorem gget_app {l C : List UInt8} {a : Nat} {r : Nat × Nat} (f : Nat) : ∀ n, gget l a n f = some r → gget (l ++ C) a n f = some r := by
  induction f with
  | zero => intro n h; cases h
  | succ f ih =>
    intro n h
    unfold gget at h ⊢
    split at h
    · rename_i h1
      rw [if_pos (by rw [List.length_append]; omega), bitAt_app h1]
      split at h
      · rename_i h2
        rw [if_pos h2]
        exact ih _ h
      · rename_i h2
        rw [if_neg h2]
        split at h
        · rename_i h3
          rw [if_pos (by rw [List.length_append]; omega), numAt_app n (by omega)]
          exact h
        · cases h
    · cases h
theorem alignAt_app {l C : List UInt8} {a a' : Nat} (hl : a ≤ 8 * l.length) (h : alignAt l a = some a') : alignAt (l ++ C) a = some a' := by
  unfold alignAt at *
  split at h
  · rename_i h1
    rw [if_pos h1]
    exact h
  · rename_i h1
    rw [if_neg h1, getD_app (by omega)]
    exact h

/-- A header's parts read, alone. -/
def hdrChk (nu q : Nat) : Bool :=
  let l := hdrB (nu == 0) nu q
  match bget l 0 1 with
  | none => false
  | some (k, a1) =>
    match gget l a1 0 32 with
    | none => false
    | some (n, a2) =>
      match bget l a2 5 with
      | none => false
      | some (p, a3) => decide (((k : Int) == 1) = (nu == 0) ∧ n = nu ∧ p = q ∧ a3 ≤ 8 * l.length ∧ alignAt l a3 = some (8 * l.length))
theorem hdr_all : ∀ nu < 64, ∀ q < 32, hdrChk nu q = true := by decide +kernel
theorem hdr_back {nu q : Nat} (hn : nu < 64) (hq : q < 32) {W H G : Int} (hf : hdrFits (nu == 0) (nu : Int) (q : Int) W H G = true) (C : List UInt8) :
    hdrParse (hdrB (nu == 0) nu q ++ C) W H G = some ((nu == 0, (nu : Int), (q : Int)), 8 * (hdrB (nu == 0) nu q).length) := by
  have h := hdr_all nu hn q hq
  unfold hdrChk at h
  dsimp only at h
  generalize hdrB (nu == 0) nu q = l at *
  unfold hdrParse
  cases h1 : bget l 0 1 with
  | none => rw [h1] at h; cases h
  | some r1 =>
    obtain ⟨k, a1⟩ := r1
    rw [h1] at h
    dsimp only at h
    rw [bget_app h1]
    dsimp only
    cases h2 : gget l a1 0 32 with
    | none => rw [h2] at h; cases h
    | some r2 =>
      obtain ⟨n, a2⟩ := r2
      rw [h2] at h
      dsimp only at h
      rw [gget_app 32 0 h2]
      dsimp only
      cases h3 : bget l a2 5 with
      | none => rw [h3] at h; cases h
      | some r3 =>
        obtain ⟨p, a3⟩ := r3
        rw [h3] at h
        dsimp only at h
        rw [bget_app h3]
        dsimp only
        obtain ⟨e1, rfl, rfl, h4, h5⟩ := of_decide_eq_true h
        rw [e1, if_pos hf, alignAt_app h4 h5]
/-- The frame that a decoder makes of what was coded, if it is where the encoder is. -/
theorem frame_back {d : Dim} (hd : d.Ok) {fr A : Pix} {nu q G : Nat} (hG : 1 ≤ G ∧ G ≤ 64) (hnu : nu < G) (hq : q ≤ 31) {nx : Int} {ah : Option Pix} (hk : nu ≠ 0 → nx = (nu : Int)) (hA : ah.getD noPix = A) :
    frameS d (G : Int) nx ah (eframe d fr A nu q).1 = .ok ((eframe d fr A nu q).2, ((newN nu G : Nat) : Int)) := by
  have hfits : hdrFits (nu == 0) (nu : Int) (q : Int) (d.W : Int) (d.H : Int) (G : Int) = true := by
    have a := hd.sides
    have b := hd.w16
    have c := hd.h16
    have e : ((nu : Int) == 0) = (nu == 0) := by cases nu <;> rfl
    unfold sidesB at a
    rw [decide_eq_true_eq] at a
    unfold hdrFits seqRight
    rw [e]
    simp only [Bool.and_eq_true, decide_eq_true_eq, beq_self_eq_true, and_true]
    omega
  unfold eframe frameS
  dsimp only
  rw [hdr_back (by omega) (by omega) hfits]
  dsimp only
  have hkl : keyless (nu == 0) (nu : Int) nx = false := by
    unfold keyless
    rw [decide_eq_false_iff_not]
    rintro ⟨h1, h2⟩
    have h3 : nu ≠ 0 := by simpa using h1
    have := hk h3
    omega
  rw [hkl, hA]
  have hdrop : (hdrB (nu == 0) nu q ++ (ecode d fr A (nu == 0) (q : Int)).2.code).drop ((8 * (hdrB (nu == 0) nu q).length + 7) / 8) = (ecode d fr A (nu == 0) (q : Int)).2.code := by
    rw [show (8 * (hdrB (nu == 0) nu q).length + 7) / 8 = (hdrB (nu == 0) nu q).length by omega, List.drop_left]
  rw [hdrop, built_back hd ⟨by omega, by omega⟩]
  have e5 : ((nu : Int) + 1) % (G : Int) = ((newN nu G : Nat) : Int) := by
    unfold newN
    split
    · rw [Int.emod_eq_of_lt (by omega) (by omega)]
      omega
    · rw [show (nu : Int) + 1 = (G : Int) by omega, Int.emod_self]
      rfl
  dsimp only
  rw [if_neg (by decide), e5]
  rfl
end Go.Proofs.YtmkopcojnibhlaaGreatDoor

/-
  A sequence's bytes, and a decoder of it.
-/
namespace Go.Proofs.YtmkopcojnibhlaaGreatDoor
open Go.RowKit

def seqChk (a b c : Nat) : Bool := decide (seqParse (seqBy (16 * a + 16) (16 * b + 16) (c + 1)) = some (((16 * a + 16 : Nat) : Int), ((16 * b + 16 : Nat) : Int), ((c + 1 : Nat) : Int))) && decide ((seqBy (16 * a + 16) (16 * b + 16) (c + 1)).length ≤ 100)
theorem seq_all : ∀ a < 2, ∀ b < 2, ∀ c < 64, seqChk a b c = true := by decide +kernel
theorem seq_back {d : Dim} (hd : d.Ok) (hW : d.W ≤ 32) (hH : d.H ≤ 32) {G : Nat} (hG : 1 ≤ G ∧ G ≤ 64) : seqParse (seqBy d.W d.H G) = some ((d.W : Int), (d.H : Int), (G : Int)) ∧ (seqBy d.W d.H G).length ≤ 100 := by
  have a := hd.sides
  have b := hd.w16
  have c := hd.h16
  unfold sidesB at a
  rw [decide_eq_true_eq] at a
  have h := seq_all (d.W / 16 - 1) (by omega) (d.H / 16 - 1) (by omega) (G - 1) (by omega)
  unfold seqChk at h
  rw [show 16 * (d.W / 16 - 1) + 16 = d.W by omega, show 16 * (d.H / 16 - 1) + 16 = d.H by omega, show G - 1 + 1 = G by omega, Bool.and_eq_true] at h
  exact ⟨of_decide_eq_true h.1, of_decide_eq_true h.2⟩
set_option maxRecDepth 100000 in
set_option maxHeartbeats 2000000 in
theorem synSeq_no (w : World) (W H G : Int) (hr : seqRight W H G = false) : Calls Tryz.prog 34 #[.agg #[.int .i64 W, .int .i64 H, .int .i64 G]] w fun e w' => e = .returned (.tuple #[.slice none 0 0, .int .i64 121]) ∧ Mod (fun _ => False) w w' := by
  have H0 := Lib.hid (And.intro ((Mod.refl (fun _ => False) w).alloc (.cells #[.int .i64 W, .int .i64 H, .int .i64 G] 23)) hr)
  clear hr
  go_enter Tryz.func34, Tryz.ntmps34
  go_wp2_with fail
  refine (synRight_no _ W H G H0.out.2).mono ?_
  rintro e w1 ⟨rfl, hm1⟩
  have H1 := Lib.hid (H0.out.1.trans hm1)
  clear hm1
  go_wp2_with fail
  go_ret2
  exact ⟨rfl, H1.out⟩
def DecMade (w : World) (d : Dim) (G : Int) (e : Ending) (w' : World) : Prop := ∃ dg, e = .returned (.tuple #[.pointer (some ⟨dg, 0, none⟩), .int .i64 0]) ∧ DecAt w' dg d G 0 none ∧ w.heap.size ≤ dg ∧ Mod (fun _ => False) w w'
theorem decNew_of (w : World) (d : Dim) (G : Int) (A : Option Addr) (n c : Nat) (l : List UInt8) (hin : BytesIn w A n c l) (hn : n ≤ 1048576) (hs : seqParse l = some ((d.W : Int), (d.H : Int), G)) : Calls Tryz.prog 36 #[.slice A n c] w (DecMade w d G) := by
  refine (decNew' w A n c l hin hn).mono ?_
  rintro e w' ⟨hm, ⟨h1, _⟩ | ⟨d', G', g, hd, h1, rfl, hD, hg⟩⟩
  · rw [hs] at h1; cases h1
  · rw [hs] at h1
    injection h1 with h1
    injection h1 with e1 e2
    injection e2 with e2 e3
    subst e3
    obtain ⟨fr, ay, au, av, hb, hl, hn, hf⟩ := hD
    exact ⟨g, rfl, ⟨fr, ay, au, av, by rw [e1, e2]; exact hb, hl, hn, fun f e => by cases e⟩, hg, hm⟩
end Go.Proofs.YtmkopcojnibhlaaGreatDoor
