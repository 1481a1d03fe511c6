/-
  What the encoder puts behind the decoder gets back: the coder and the book, plain.
-/
import Derived.Test.YtmkopcojnibhlaaGreatDoorM25
import Derived.Test.YtmkopcojnibhlaaGreatDoorM10
import Derived.Test.YtmkopcojnibhlaaGreatDoorM35
import Derived.Test.YtmkopcojnibhlaaGreatDoorM24
import Derived.Test.YtmkopcojnibhlaaGreatDoorM26
import Derived.Test.YtmkopcojnibhlaaGreatDoorM17
import Derived.Test.YtmkopcojnibhlaaGreatDoorM19
namespace Go.Proofs.YtmkopcojnibhlaaGreatDoor
open Go.RowKit

/-- A range of codes holds a code F. -/
def HoldsR (F code : List UInt8) (wide : Nat) : Prop := code.length ≤ F.length ∧ be code ≤ be (F.take code.length) ∧ be (F.take code.length) < be code + wide
/-- What may be said of an encoder's code and range. -/
def CodeOk (code : List UInt8) (wide : Nat) : Prop := 16777216 ≤ wide ∧ wide < 4294967296 ∧ be code + wide ≤ 256 ^ code.length

theorem be_set (L : List UInt8) : ∀ (i : Nat) (b : UInt8), i < L.length → be (L.set i b) + (L.getD i 0).toNat * 256 ^ (L.length - (i + 1)) = be L + b.toNat * 256 ^ (L.length - (i + 1)) := by
  have key : ∀ n, ∀ L : List UInt8, L.length = n → ∀ (i : Nat) (b : UInt8), i < L.length → be (L.set i b) + (L.getD i 0).toNat * 256 ^ (L.length - (i + 1)) = be L + b.toNat * 256 ^ (L.length - (i + 1)) := by
    intro n
    induction n with
    | zero => intro L h i b hi; omega
    | succ n ih =>
      intro L h i b hi
      rcases List.eq_nil_or_concat L with rfl | ⟨L1, x, rfl⟩
      · simp at h
      · have h1 : L1.length = n := by simpa using h
        by_cases e : i = n
        · subst e
          subst h1
          have e1 : (L1 ++ [x]).set L1.length b = L1 ++ [b] := by
            rw [List.set_append_right _ _ (Nat.le_refl _)]
            simp
          have e2 : (L1 ++ [x]).getD L1.length 0 = x := by simp [List.getD_eq_getElem?_getD]
          have e3 : (L1 ++ [x]).length - (L1.length + 1) = 0 := by simp
          rw [List.concat_eq_append] at *
          rw [e1, e2, e3, be_snoc, be_snoc]
          omega
        · have hi1 : i < L1.length := by simp at hi; omega
          rw [List.concat_eq_append] at *
          have e1 : (L1 ++ [x]).set i b = L1.set i b ++ [x] := List.set_append_left _ _ hi1
          have e2 : (L1 ++ [x]).getD i 0 = L1.getD i 0 := by simp [List.getD_eq_getElem?_getD, List.getElem?_append_left hi1]
          have e3 : (L1 ++ [x]).length - (i + 1) = (L1.length - (i + 1)) + 1 := by simp; omega
          rw [e1, e2, e3, be_snoc, be_snoc, Nat.pow_succ]
          have := ih L1 h1 i b hi1
          generalize 256 ^ (L1.length - (i + 1)) = p at *
          generalize (L1.getD i 0).toNat = u at *
          generalize be (L1.set i b) = r at *
          have e4 : u * (p * 256) = u * p * 256 := by rw [Nat.mul_assoc]
          have e5 : b.toNat * (p * 256) = b.toNat * p * 256 := by rw [Nat.mul_assoc]
          rw [e4, e5]
          omega
  exact key L.length L rfl
theorem be_eaddAt (i : Nat) : ∀ (L : List UInt8) (c : Nat), i ≤ L.length → be (L.take i) + c < 256 ^ i → be (eaddAt i L c) = be L + c * 256 ^ (L.length - i) := by
  induction i with
  | zero =>
    intro L c _ h
    have : c = 0 := by simp [be] at h; omega
    subst this
    simp [eaddAt]
  | succ i ih =>
    intro L c hi h
    unfold eaddAt
    by_cases h0 : c = 0
    · subst h0
      simp
    · rw [if_neg h0]
      have hb := UInt8.toNat_lt (L.getD i 0)
      have ht := be_take L i (by omega)
      have hs := be_set L i (UInt8.ofNat ((c + (L.getD i 0).toNat) % 256)) (by omega)
      have hx : (UInt8.ofNat ((c + (L.getD i 0).toNat) % 256)).toNat = (c + (L.getD i 0).toNat) % 256 := by
        rw [UInt8.toNat_ofNat']
        omega
      rw [hx] at hs
      generalize UInt8.ofNat ((c + (L.getD i 0).toNat) % 256) = bb at *
      generalize (L.getD i 0).toNat = u at *
      have htk : (L.set i bb).take i = L.take i := by
        rw [List.take_set_of_le (Nat.le_refl _)]
      rw [ih _ _ (by rw [List.length_set]; omega) (by
        rw [htk]
        rw [ht, Nat.pow_succ] at h
        generalize be (L.take i) = t at *
        generalize 256 ^ i = p at *
        omega)]
      rw [List.length_set]
      have e1 : L.length - i = (L.length - (i + 1)) + 1 := by omega
      rw [e1, Nat.pow_succ]
      generalize 256 ^ (L.length - (i + 1)) = p at *
      generalize be (L.set i bb) = r at *
      generalize be L = q at *
      have hd : (c + u) / 256 * 256 + (c + u) % 256 = c + u := by omega
      generalize (c + u) / 256 = m at *
      generalize (c + u) % 256 = k at *
      have h1 : m * (p * 256) = m * 256 * p := by rw [Nat.mul_comm p 256, Nat.mul_assoc]
      have h2 : (m * 256 + k) * p = (c + u) * p := by rw [hd]
      rw [Nat.add_mul, Nat.add_mul] at h2
      rw [h1]
      omega
theorem be_eadd (L : List UInt8) (c : Nat) (h : be L + c < 256 ^ L.length) : be (eadd L c) = be L + c := by
  have := be_eaddAt L.length L c (Nat.le_refl _) (by rwa [List.take_length])
  simpa [eadd] using this
theorem codeOk_put {code : List UInt8} {wide p bit : Nat} (h : CodeOk code wide) (hp : 31 ≤ p ∧ p ≤ 2017) : CodeOk (eput code wide p bit).1 (eput code wide p bit).2 := by
  obtain ⟨h1, h2, h3⟩ := h
  obtain ⟨b1, b2⟩ := ebound_lt hp ⟨h1, h2⟩
  obtain ⟨w1, w2⟩ := eput_wide (b := bit) code hp ⟨h1, h2⟩
  refine ⟨w1, w2, ?_⟩
  clear w1 w2
  have key : ∀ (L : List UInt8) (x : Nat), be L + x ≤ 256 ^ L.length → be (enorm L x).1 + (enorm L x).2 ≤ 256 ^ (enorm L x).1.length := by
    intro L x hx
    unfold enorm
    split
    · dsimp only
      rw [be_snoc, List.length_append, List.length_singleton, Nat.pow_succ]
      have : (0 : UInt8).toNat = 0 := rfl
      omega
    · exact hx
  unfold eput
  split
  · exact key _ _ (by omega)
  · refine key _ _ ?_
    rw [be_eadd _ _ (by omega), eadd_length]
    omega
theorem take_drop_cons {F : List UInt8} {n : Nat} (h : n < F.length) : F.drop n = F.getD n 0 :: F.drop (n + 1) := by
  rw [List.drop_eq_getElem_cons h, List.getD_eq_getElem?_getD, List.getElem?_eq_getElem h]
  rfl
/-- A range made narrower and, if need be, a byte longer: back. -/
theorem norm_back {F code : List UInt8} {x : Nat} (h0 : 65536 ≤ x) (h : HoldsR F (enorm code x).1 (enorm code x).2) :
    HoldsR F code x ∧ cnorm (F.drop code.length) (be (F.take code.length) - be code) x = some (F.drop (enorm code x).1.length, be (F.take (enorm code x).1.length) - be (enorm code x).1, (enorm code x).2) := by
  unfold enorm at *
  split at h
  · rename_i hx
    rw [if_pos hx]
    unfold HoldsR at h
    dsimp only at h ⊢
    rw [List.length_append, List.length_singleton] at h ⊢
    obtain ⟨h1, h2, h3⟩ := h
    have ht := be_take F code.length (by omega)
    have hz : (0 : UInt8).toNat = 0 := rfl
    have hb := UInt8.toNat_lt (F.getD code.length 0)
    rw [be_snoc, hz] at h2 h3 ⊢
    rw [ht] at h2 h3 ⊢
    rw [take_drop_cons (by omega : code.length < F.length), cnorm_step _ _ _ _ (by omega), cnorm_done _ _ _ (by omega)]
    generalize (F.getD code.length 0).toNat = f at *
    refine ⟨⟨by omega, by omega, by omega⟩, ?_⟩
    congr 2
    congr 1
    omega
  · rename_i hx
    rw [if_neg hx]
    exact ⟨h, cnorm_done _ _ _ (by omega)⟩
theorem put_back {F code : List UInt8} {wide p bit : Nat} (hc : CodeOk code wide) (hp : chanceOk p = true) (hbit : bit ≤ 1) (h : HoldsR F (eput code wide p bit).1 (eput code wide p bit).2) :
    HoldsR F code wide ∧ cget (F.drop code.length) (be (F.take code.length) - be code) wide p = some (bit, F.drop (eput code wide p bit).1.length, be (F.take (eput code wide p bit).1.length) - be (eput code wide p bit).1, (eput code wide p bit).2) := by
  have hp2 : 31 ≤ p ∧ p ≤ 2017 := of_decide_eq_true hp
  obtain ⟨h1, h2, h3⟩ := hc
  obtain ⟨b1, b2⟩ := ebound_lt hp2 ⟨h1, h2⟩
  unfold cget
  unfold eput at *
  generalize hbd : wide / 2048 * p = bd at *
  by_cases hb : bit = 0
  · subst hb
    rw [if_pos rfl] at h ⊢
    obtain ⟨⟨k1, k2, k3⟩, k4⟩ := norm_back (by omega) h
    refine ⟨⟨k1, k2, by omega⟩, ?_⟩
    rw [if_pos ⟨hp, by omega⟩, if_pos (by omega), k4]
    rfl
  · obtain rfl : bit = 1 := by omega
    rw [if_neg hb] at h ⊢
    have hbe := be_eadd code bd (by omega)
    obtain ⟨⟨k1, k2, k3⟩, k4⟩ := norm_back (by omega) h
    rw [eadd_length] at k1 k2 k3 k4
    rw [hbe] at k2 k3 k4
    refine ⟨⟨k1, by omega, by omega⟩, ?_⟩
    rw [if_pos ⟨hp, by omega⟩, if_neg (by omega), Nat.sub_sub, k4]
    rfl

/-- What may be said of a book and a code. -/
structure EsOk (s : Es) : Prop where
  code : CodeOk s.code s.wide
  len : s.ch.length = 592
  ok : ∀ i, i < 592 → chanceOk (s.ch.getD i 0) = true
def Holds (F : List UInt8) (s : Es) : Prop := HoldsR F s.code s.wide
/-- Where the decoder of F is when the encoder was at s. -/
def stOf (F : List UInt8) (s : Es) : St := ⟨s.ch, F.drop s.code.length, be (F.take s.code.length) - be s.code, s.wide⟩
/-- What is put can be got. -/
def Rt {α : Type} (s s' : Es) (g : St → Option (α × St)) (v : α) : Prop := EsOk s' ∧ ∀ F, Holds F s' → Holds F s ∧ g (stOf F s) = some (v, stOf F s')
theorem Rt.bind {α β : Type} {s s1 s2 : Es} {g : St → Option (α × St)} {f : α → St → Option (β × St)} {v : α} {u : β} (h : Rt s s1 g v) (k : Rt s1 s2 (f v) u) : Rt s s2 (fun x => (g x).bind fun y => f y.1 y.2) u :=
  ⟨k.1, fun F hF => by
    obtain ⟨h1, h2⟩ := k.2 F hF
    obtain ⟨h3, h4⟩ := h.2 F h1
    refine ⟨h3, ?_⟩
    dsimp only
    rw [h4]
    exact h2⟩
theorem rt_at {s : Es} (h : EsOk s) {i bit : Nat} (hi : i < 592) (hb : bit ≤ 1) : Rt s (eputAt s i bit) (fun x => sget x i) bit := by
  obtain ⟨h1, h2⟩ := eputAt_ok (bit := bit) h.len h.ok hi
  refine ⟨⟨codeOk_put h.code (of_decide_eq_true (h.ok i hi)), h1, h2⟩, fun F hF => ?_⟩
  obtain ⟨k1, k2⟩ := put_back h.code (h.ok i hi) hb hF
  refine ⟨k1, ?_⟩
  unfold sget stOf
  dsimp only
  rw [k2]
  rfl
theorem rt_even {s : Es} (h : EsOk s) {bit : Nat} (hb : bit ≤ 1) : Rt s (eputEven s bit) seven bit := by
  refine ⟨⟨codeOk_put h.code (by omega), h.len, h.ok⟩, fun F hF => ?_⟩
  obtain ⟨k1, k2⟩ := put_back h.code (by decide) hb hF
  refine ⟨k1, ?_⟩
  unfold seven stOf
  dsimp only
  rw [k2]
  rfl
theorem atIdx_lt {i a : Nat} (hi : i < 4) (ha : a < 2 ^ i) : atIdx i a < 36 := by
  unfold atIdx
  have h4 : i = 0 ∨ i = 1 ∨ i = 2 ∨ i = 3 := by omega
  rcases h4 with rfl | rfl | rfl | rfl <;> simp only [Nat.reducePow] at ha ⊢ <;> omega
theorem rt_slow {s : Es} (h : EsOk s) {t i a bit : Nat} (ht : t < 16) (ha : a < 2 ^ i) (hb : bit ≤ 1) : Rt s (eslow s t i a bit) (fun x => slow x t i a) bit := by
  unfold eslow slow
  by_cases hi : i < 4
  · have := atIdx_lt hi ha
    simp only [if_pos hi]
    exact rt_at h (by omega) hb
  · simp only [if_neg hi]
    exact rt_even h hb
theorem mod_step (x m : Nat) : 2 ^ m * (x / 2 ^ m % 2) + x % 2 ^ m = x % 2 ^ (m + 1) := by
  rw [Nat.pow_succ, Nat.mod_mul]
  omega
theorem rt_low (t x : Nat) (ht : t < 16) (m : Nat) : ∀ (i a : Nat) (s : Es), a < 2 ^ i → EsOk s → Rt s (elow t x m i a s) (glow t m i a) (a * 2 ^ m + x % 2 ^ m) := by
  induction m with
  | zero =>
    intro i a s ha h
    refine ⟨h, fun F hF => ⟨hF, ?_⟩⟩
    simp [glow, elow, Nat.mod_one]
  | succ m ih =>
    intro i a s ha h
    have hb : x / 2 ^ m % 2 ≤ 1 := by omega
    have r1 := rt_slow h (t := t) (i := i) (a := a) ht ha hb
    have ha2 : 2 * a + x / 2 ^ m % 2 < 2 ^ (i + 1) := by rw [Nat.pow_succ]; omega
    have r2 := ih (i + 1) (2 * a + x / 2 ^ m % 2) (eslow s t i a (x / 2 ^ m % 2)) ha2 r1.1
    have r3 := Rt.bind (f := fun b => glow t m (i + 1) (2 * a + b)) r1 r2
    have e : (2 * a + x / 2 ^ m % 2) * 2 ^ m + x % 2 ^ m = a * 2 ^ (m + 1) + x % 2 ^ (m + 1) := by
      rw [← mod_step x m, Nat.pow_succ, Nat.add_mul, Nat.mul_comm (x / 2 ^ m % 2), Nat.mul_comm 2 a, Nat.mul_assoc, Nat.mul_comm 2]
      omega
    rw [e] at r3
    exact r3
theorem blen_bounds {x : Nat} (h : 0 < x) : 2 ^ (blen x - 1) ≤ x ∧ x < 2 ^ blen x := by
  unfold blen
  rw [if_neg (by omega)]
  have := (Nat.log2_eq_iff (by omega : x ≠ 0) (k := Nat.log2 x)).1 rfl
  simpa using this
/-- The length of a number. -/
theorem rt_len (t : Nat) (ht : t < 16) (m : Nat) : ∀ (n k : Nat) (s : Es), 1 ≤ n → m + n ≤ 21 → k = 21 - n → EsOk s → Rt s (estop t (m + n) (elens t m (n - 1) s)) (glen t k n) (m + n) := by
  induction m with
  | zero =>
    intro n k s hn hmn hk h
    rw [Nat.zero_add]
    show Rt s (estop t n s) _ _
    unfold estop
    by_cases h21 : n < 21
    · rw [if_pos h21]
      obtain ⟨k', rfl⟩ : ∃ k', k = k' + 1 := ⟨k - 1, by omega⟩
      have r1 := rt_at h (i := t * 37 + (n - 1)) (bit := 0) (by omega) (by omega)
      refine ⟨r1.1, fun F hF => ?_⟩
      obtain ⟨h1, h2⟩ := r1.2 F hF
      refine ⟨h1, ?_⟩
      dsimp only at h2
      simp only [glen, h2]
      rfl
    · rw [if_neg h21]
      obtain rfl : k = 0 := by omega
      exact ⟨h, fun F hF => ⟨hF, rfl⟩⟩
  | succ m ih =>
    intro n k s hn hmn hk h
    obtain ⟨k', rfl⟩ : ∃ k', k = k' + 1 := ⟨k - 1, by omega⟩
    have r1 := rt_at h (i := t * 37 + (n - 1)) (bit := 1) (by omega) (by omega)
    have r2 := ih (n + 1) k' (eputAt s (t * 37 + (n - 1)) 1) (by omega) (by omega) (by omega) r1.1
    have e1 : elens t (m + 1) (n - 1) s = elens t m (n + 1 - 1) (eputAt s (t * 37 + (n - 1)) 1) := by
      show elens t m (n - 1 + 1) _ = _
      rw [show n - 1 + 1 = n + 1 - 1 by omega]
    rw [e1, show m + 1 + n = m + (n + 1) by omega]
    refine ⟨r2.1, fun F hF => ?_⟩
    obtain ⟨h1, h2⟩ := r2.2 F hF
    obtain ⟨h3, h4⟩ := r1.2 F h1
    refine ⟨h3, ?_⟩
    dsimp only at h4
    simp only [glen, h4]
    exact h2
theorem rt_num {s : Es} (h : EsOk s) {t v : Nat} (ht : t < 16) (hv : v ≤ 1048576) : Rt s (enum t v s) (snum t) v := by
  have hb1 := blen_pos (show 0 < v + 1 by omega)
  have hb2 : blen (v + 1) ≤ 21 := blen_pw (by omega)
  have hbd := blen_bounds (show 0 < v + 1 by omega)
  unfold enum snum
  generalize hn : blen (v + 1) = n at *
  have r1 := rt_len t ht (n - 1) 1 20 s (by omega) (by omega) rfl h
  rw [show n - 1 + 1 = n by omega, show 1 - 1 = 0 from rfl] at r1
  have r2 := rt_low t (v + 1) ht (n - 1) 0 0 _ (by decide) r1.1
  refine ⟨r2.1, fun F hF => ?_⟩
  obtain ⟨h1, h2⟩ := r2.2 F hF
  obtain ⟨h3, h4⟩ := r1.2 F h1
  refine ⟨h3, ?_⟩
  dsimp only
  rw [h4]
  show gfin t n _ = _
  unfold gfin
  rw [h2]
  have e : 2 ^ (n - 1) + (0 * 2 ^ (n - 1) + (v + 1) % 2 ^ (n - 1)) - 1 = v := by
    have hp : 2 ^ n = 2 ^ (n - 1) * 2 := by rw [← Nat.pow_succ]; congr 1; omega
    rw [hp] at hbd
    have h0 : 0 < 2 ^ (n - 1) := Nat.two_pow_pos _
    generalize 2 ^ (n - 1) = p at *
    have : (v + 1) % p = v + 1 - p := by
      rw [Nat.mod_eq_sub_mod hbd.1, Nat.mod_eq_of_lt (by omega)]
    rw [this]
    omega
  show (if _ then _ else _) = _
  dsimp only
  rw [e, if_neg (by omega)]
theorem rt_one {s : Es} (h : EsOk s) {t n x : Nat} (ht : t < 16) (hx : x < n) (hn : n ≤ 4) : Rt s (elow t x 2 0 0 s) (sone t n) x := by
  have r := rt_low t x ht 2 0 0 s (by decide) h
  refine ⟨r.1, fun F hF => ?_⟩
  obtain ⟨h1, h2⟩ := r.2 F hF
  refine ⟨h1, ?_⟩
  unfold sone
  rw [h2]
  have e : 0 * 2 ^ 2 + x % 2 ^ 2 = x := by omega
  rw [e]
  show (if n ≤ x then _ else _) = _
  rw [if_neg (by omega)]
theorem rt_signed {s : Es} (h : EsOk s) {t : Nat} {v : Int} (ht : t < 16) (hv : -1048576 ≤ v ∧ v ≤ 1048576) : Rt s (esigned t v s) (ssigned t) v := by
  have r1 := rt_num h (t := t) (v := v.natAbs) ht (by omega)
  unfold esigned
  by_cases h0 : v = 0
  · rw [if_pos h0]
    refine ⟨r1.1, fun F hF => ?_⟩
    obtain ⟨h1, h2⟩ := r1.2 F hF
    refine ⟨h1, ?_⟩
    unfold ssigned
    rw [h2]
    show (if v.natAbs = 0 then _ else _) = _
    rw [if_pos (by omega), h0]
  · rw [if_neg h0]
    have r2 := rt_at r1.1 (i := t * 37 + 36) (bit := if v < 0 then 1 else 0) (by omega) (by split <;> omega)
    refine ⟨r2.1, fun F hF => ?_⟩
    obtain ⟨h1, h2⟩ := r2.2 F hF
    obtain ⟨h3, h4⟩ := r1.2 F h1
    refine ⟨h3, ?_⟩
    unfold ssigned
    rw [h4]
    show (if v.natAbs = 0 then _ else _) = _
    rw [if_neg (by omega)]
    dsimp only at h2 ⊢
    rw [h2]
    have e : (if (if v < 0 then 1 else 0) = 1 then -((v.natAbs : Nat) : Int) else ((v.natAbs : Nat) : Int)) = v := by
      by_cases hneg : v < 0
      · rw [if_pos hneg, if_pos rfl]; omega
      · rw [if_neg hneg, if_neg (by decide)]; omega
    show some ((if (if v < 0 then 1 else 0) = 1 then -((v.natAbs : Nat) : Int) else ((v.natAbs : Nat) : Int)), _) = _
    rw [e]
end Go.Proofs.YtmkopcojnibhlaaGreatDoor

/-
  bits.Writer: New, Align, Bytes; golomb.Put.
-/
namespace Go.Proofs.YtmkopcojnibhlaaGreatDoor
open Go.RowKit

theorem wNew (w : World) : Calls Tryz.prog 120 #[] w fun e w' => ∃ g, e = .returned (.pointer (some ⟨g, 0, none⟩)) ∧ WAt w' g (.slice none 0 0) [] ∧ w.heap.size ≤ g ∧ Mod (fun _ => False) w w' := by
  go_enter Tryz.func120, Tryz.ntmps120
  go_wp2_with fail
  go_ret
  exact ⟨_, rfl, ⟨Blk.new _ _ _, Bytes.nil _ _, fun i => by simp⟩, Nat.le_refl _, (Mod.refl _ _).alloc _⟩
theorem wAlign (w : World) (g : Nat) (A : Option Addr) (n c : Nat) (m : Int) (hn : n ≤ 4096) (hb : Blk w g 256 #[.slice A n c, .int .i64 m]) :
    Calls Tryz.prog 123 #[.pointer (some ⟨g, 0, none⟩)] w fun e w' => e = .returned (.int .i64 0) ∧ Blk w' g 256 #[.slice A n c, .int .i64 (8 * (n : Int))] ∧ Mod (· = g) w w' := by
  obtain ⟨bc, bf⟩ := hb.both
  have bl := hb.lt
  have H := Lib.hid hb
  clear hb
  go_enter Tryz.func123, Tryz.ntmps123
  go_wp2_with fail
  go_ret
  exact ⟨rfl, H.out.put (i := 1) (u := .int .i64 (8 * (n : Int))) rfl, (Mod.refl (fun j => j = g) w).setCell (p := ⟨g, 1, none⟩) (.inl rfl) _⟩
set_option maxRecDepth 100000 in
set_option maxHeartbeats 1000000 in
theorem wBytes (w : World) (g : Nat) (A : Option Addr) (n c : Nat) (m : Int) (l : List UInt8) (hl : l.length = n) (hn : n ≤ 4096) (hb : Blk w g 256 #[.slice A n c, .int .i64 m]) (ho : Bytes w 0 (.slice A n c) l) :
    Calls Tryz.prog 124 #[.pointer (some ⟨g, 0, none⟩)] w (MadeU w n l) := by
  obtain ⟨bc, bf⟩ := hb.both
  have hin := ho.in_
  have H := Lib.hid (And.intro hb (And.intro hin hl))
  clear hb hin ho hl
  go_enter Tryz.func124, Tryz.ntmps124
  go_upto_region 4 with (refine wpList_mk_u8 _ rfl (.tmp 10) (.tmp 10) rfl n rfl rfl (by omega) ?_; intro w3 hb3 hm3; have HO := Lib.hid (And.intro hb3 hm3); clear hb3 hm3)
  have hb3 := H.out.1.keep HO.out.2 (fun h => h)
  have hin3 := H.out.2.1.quiet HO.out.2
  obtain ⟨bc3, bf3⟩ := hb3.both
  have HF : Hid (0 + n ≤ (u8s (List.replicate n 0)).length) := by show _ ≤ _; rw [u8s_length, List.length_replicate]; omega
  have H3 := Lib.hid (And.intro hb3 hin3)
  clear bc bf hb3 hin3
  go_wp2_with (refine wpList_copy_blk rfl (.tmp 12) (.tmp 16) _ _ rfl 5 Tryz.underlying36 (by kernel_rfl) (some ⟨w.heap.size, 0, none⟩) n n A n c (u8s l) rfl rfl H3.out.2.2.2.1 w.heap.size 0 _ 5 HO.out.1 n (Nat.min_self _).symm (fun _ => rfl) HF.out (u8s_one _) ?_; intro w5 hb5 hm5; have HB5 := Lib.hid (And.intro hb5 hm5); clear hb5 hm5)
  go_ret
  refine ⟨w.heap.size, rfl, ?_, Nat.le_refl _, HO.out.2.into HB5.out.2 (fun i e => .inr (by omega))⟩
  have hb5 := HB5.out.1
  have e : splice (u8s (List.replicate n 0)) 0 ((u8s l).take n) = u8s l := by
    rw [List.take_of_length_le (by rw [u8s_length, H.out.2.2]; exact Nat.le_refl _), u8s_splice]
    congr 1
    unfold splice
    rw [List.take_zero, List.nil_append, List.drop_of_length_le (by rw [List.length_replicate, H.out.2.2]; omega), List.append_nil]
  rwa [e] at hb5
set_option maxRecDepth 100000 in
set_option maxHeartbeats 1000000 in
theorem gPut (w : World) (g : Nat) (v : Value) (L : List UInt8) (x : Nat) (hx : x ≤ 60000) (hl : L.length + 32 ≤ 4096) (h : WAt w g v L) :
    Calls Tryz.prog 122 #[.pointer (some ⟨g, 0, none⟩), .int .u64 (x : Int)] w (WPost w g v (L ++ codeL x)) := by
  have hb1 := blen_pos (show 0 < x + 1 by omega)
  have hb2 : blen (x + 1) ≤ 16 := blen_pw (by omega)
  have hbd := blen_bounds (show 0 < x + 1 by omega)
  have hz : (x + 1) / 2 ^ (2 * blen (x + 1) - 1) = 0 := by
    apply Nat.div_eq_of_lt
    exact Nat.lt_of_lt_of_le hbd.2 (Nat.pow_le_pow_right (by omega) (by omega))
  have hP := wPut w g v L (x + 1) (2 * blen (x + 1) - 1) (by omega) (by omega) hz (by omega) h
  have hL := bitsLen64 w (x + 1) (by omega)
  have hC : Hid (codeL x = digitsL (x + 1) (2 * blen (x + 1) - 1)) := rfl
  generalize blen (x + 1) = b at *
  obtain ⟨y, hy⟩ : ∃ y, y = x + 1 := ⟨_, rfl⟩
  rw [← hy] at hP hL hC
  have e1 : (x : Int) + 1 = (y : Int) := by omega
  have hy2 : y ≤ 60001 := by omega
  clear hy
  have d0 : decide (4294967294 < (x : Int)) = false := decide_eq_false (by omega)
  have HP := Lib.hid (And.intro hP hL)
  clear hP hL h hbd hz
  obtain ⟨nb, hnb⟩ : ∃ nb, nb = 2 * b - 1 := ⟨_, rfl⟩
  have e2 : 2 * (b : Int) - 1 = (nb : Int) := by omega
  rw [← hnb] at HP hC
  have hnb2 : nb ≤ 31 := by omega
  clear hnb
  have hLen : Calls Tryz.prog 183 #[.int .u64 (x : Int)] w fun e w' => e = .returned (.int .i64 (nb : Int)) ∧ w = w' := by
    go_enter Tryz.func183, Tryz.ntmps183
    go_wp2_with fail
    refine HP.out.2.mono ?_
    rintro e w1 ⟨rfl, rfl⟩
    go_wp2_with fail
    go_ret
    exact ⟨rfl, rfl⟩
  have HL := Lib.hid hLen
  clear hLen
  go_enter Tryz.func122, Tryz.ntmps122
  go_wp2_with fail
  refine HL.out.mono ?_
  rintro e w1 ⟨rfl, rfl⟩
  go_wp2_with fail
  refine HP.out.1.mono ?_
  rintro e w2 ⟨v2, rfl, hW, hF, hM⟩
  have H2 := Lib.hid (And.intro hW (And.intro hF hM))
  clear hW hF hM
  go_wp2_with fail
  go_ret
  rw [hC.out]
  exact ⟨v2, rfl, H2.out.1, H2.out.2.1, H2.out.2.2⟩
end Go.Proofs.YtmkopcojnibhlaaGreatDoor

/-
  syntax.write: fields' bytes.
-/
namespace Go.Proofs.YtmkopcojnibhlaaGreatDoor
open Go.RowKit

/-- A field's bits: a number in so many, or, of none, its code. -/
def fldB (p : Nat × Nat) : List UInt8 := if 0 < p.2 then digitsL p.1 p.2 else codeL p.1
def fldsB : List (Nat × Nat) → List UInt8
  | [] => []
  | p :: r => fldB p ++ fldsB r
def fldC : List (Nat × Nat) → List Value
  | [] => []
  | p :: r => .int .i64 (p.1 : Int) :: .int .i64 (p.2 : Int) :: fldC r
theorem fldC_at : ∀ (fs : List (Nat × Nat)) (i : Nat) (h : i < fs.length), (fldC fs)[2 * i]? = some (.int .i64 ((fs[i]).1 : Int)) ∧ (fldC fs)[2 * i + 1]? = some (.int .i64 ((fs[i]).2 : Int))
  | [], i, h => by simp at h
  | p :: r, 0, _ => ⟨rfl, rfl⟩
  | p :: r, i + 1, h => by
    have := fldC_at r i (by simpa using h)
    rw [show 2 * (i + 1) = 2 * i + 1 + 1 by omega]
    exact this
def FldOk (p : Nat × Nat) : Prop := p.1 ≤ 60000 ∧ p.2 ≤ 32 ∧ (0 < p.2 → p.1 / 2 ^ p.2 = 0)
theorem codeL_len {x : Nat} (hx : x ≤ 60000) : (codeL x).length ≤ 31 := by
  have hb2 : blen (x + 1) ≤ 16 := blen_pw (by omega)
  unfold codeL
  rw [digitsL_length]
  omega
theorem fldB_len {p : Nat × Nat} (h : FldOk p) : (fldB p).length ≤ 32 := by
  unfold fldB
  split
  · rw [digitsL_length]; exact h.2.1
  · have := codeL_len h.1; omega
def SwRel (w : World) (fb : Nat) (t : TypeId) (k : Nat) (fs : List (Nat × Nat)) (T : List UInt8) (g : Nat) (v9 : Value) (wr : World) : Prop :=
  ∃ (i : Nat) (L : List UInt8) (v : Value), i ≤ k ∧ v9 = .int .i64 (i : Int) ∧ L ++ fldsB (fs.drop i) = T ∧ L.length ≤ 32 * i ∧ WAt wr g v L ∧ Blk wr fb t (fldC fs).toArray ∧ (∀ j, v.ownBlock = some j → w.heap.size ≤ j) ∧ w.heap.size ≤ g ∧ Mod (fun _ => False) w wr

set_option maxRecDepth 100000 in
set_option maxHeartbeats 4000000 in
theorem synWrite (w : World) (fb : Nat) (t : TypeId) (k : Nat) (fs : List (Nat × Nat)) (hk : k = fs.length) (hk8 : k ≤ 8) (hfs : ∀ p ∈ fs, FldOk p) (hb : Blk w fb t (fldC fs).toArray) :
    Calls Tryz.prog 72 #[.slice (some ⟨fb, 0, none⟩) k k] w fun e w' => ∃ N, N = (packL (fldsB fs)).length ∧ MadeU w N (packL (fldsB fs)) e w' := by
  obtain ⟨T, hT⟩ : ∃ T, T = fldsB fs := ⟨_, rfl⟩
  rw [← hT]
  have H0 := Lib.hid (And.intro hk (And.intro hfs (And.intro hb hT)))
  have hfl := hb.lt
  clear hk hfs hb hT
  go_enter Tryz.func72, Tryz.ntmps72
  go_wp2_with fail
  refine (wNew _).mono ?_
  rintro e w1 ⟨g, rfl, hW, hg, hm⟩
  have H1 := Lib.hid (And.intro hW (And.intro hg hm))
  clear hW hg hm
  go_wp2_with fail
  go_loopw [9] (SwRel w fb t k fs T g) (fun i _ => k - (intOf i).toNat)
  case atStart => exact ⟨0, [], _, by omega, rfl, by rw [H0.out.2.2.2]; rfl, by simp, H1.out.1, H0.out.2.2.1.keep H1.out.2.2 (fun h => h), fun j e => by simp [Value.ownBlock] at e, H1.out.2.1, H1.out.2.2⟩
  case round =>
    obtain ⟨i, L, v, hi, rfl, hTL, hll, hW, hfb, hown, hg, hm⟩ := hrel
    rename World => wr
    by_cases hlt : i < k
    · have d1 : decide ((i : Int) < (k : Int)) = true := decide_eq_true (by omega)
      have hif : i < fs.length := by rw [← H0.out.1]; exact hlt
      obtain ⟨f1, f2⟩ := fldC_at fs i hif
      have hok := H0.out.2.1 fs[i] (List.getElem_mem hif)
      have hdr : fldsB (fs.drop i) = fldB fs[i] ++ fldsB (fs.drop (i + 1)) := by rw [List.drop_eq_getElem_cons hif]; rfl
      rw [hdr] at hTL
      generalize fs[i] = p at *
      obtain ⟨a, b⟩ := p
      dsimp only at f1 f2
      have c1 : wr.cell? ⟨fb, i * 2, none⟩ = some (.int .i64 (a : Int)) := by rw [hfb.cell, Nat.mul_comm, List.getElem?_toArray]; exact f1
      have c2 : wr.cell? ⟨fb, i * 2 + 1, none⟩ = some (.int .i64 (b : Int)) := by rw [hfb.cell, Nat.mul_comm, List.getElem?_toArray]; exact f2
      have i0 : (0 : Int) ≤ (i : Int) := by omega
      have i1 : (i : Int) < (k : Int) := by omega
      have hbl := fldB_len hok
      obtain ⟨ok1, ok2, ok3⟩ := hok
      dsimp only at ok1 ok2 ok3
      have HK := Lib.hid (And.intro hTL (And.intro hW (And.intro hfb (And.intro hown (And.intro hg (And.intro hm ok3))))))
      clear hTL hW hfb hown hg hm ok3 hdr f1 f2
      go_upto_region 5 with (fail)
      have hma : Mod (fun _ => False) wr (wr.alloc (.cells #[.int .i64 (a : Int), .int .i64 (b : Int)] 123)) := (Mod.refl _ wr).alloc _
      have hba := Blk.new wr 123 #[.int .i64 (a : Int), .int .i64 (b : Int)]
      obtain ⟨q, hq⟩ : ∃ q, q = wr.heap.size := ⟨_, rfl⟩
      rw [← hq] at hba ⊢
      generalize wr.alloc (.cells #[.int .i64 (a : Int), .int .i64 (b : Int)] 123) = w3 at *
      obtain ⟨bc, bf⟩ := hba.both
      have hW3 := HK.out.2.1.quiet hma
      have H3 := Lib.hid (And.intro hW3 (And.intro (HK.out.2.2.1.keep hma (fun h => h)) (And.intro hma hq)))
      clear hma hba hW3 hq c1 c2
      have e64 : IntKind.u64.wrap (a : Int) = (a : Int) := IntWalk.u64_in _ ⟨by omega, by omega⟩
      have hPut : Calls Tryz.prog (if 0 < b then 121 else 122) (if 0 < b then #[.pointer (some ⟨g, 0, none⟩), .int .u64 (a : Int), .int .i64 (b : Int)] else #[.pointer (some ⟨g, 0, none⟩), .int .u64 (a : Int)]) w3 (WPost w3 g v (L ++ fldB (a, b))) := by
        unfold fldB
        dsimp only
        by_cases h0 : 0 < b
        · rw [if_pos h0, if_pos h0, if_pos h0]
          exact wPut w3 g v L a b (by omega) ok2 (HK.out.2.2.2.2.2.2 h0) (by omega) H3.out.1
        · rw [if_neg h0, if_neg h0, if_neg h0]
          exact gPut w3 g v L a ok1 (by omega) H3.out.1
      have HP := Lib.hid hPut
      clear hPut
      by_cases h0 : 0 < b
      case' pos =>
        have d2 : decide (0 < (b : Int)) = true := decide_eq_true (by omega)
        have HP2 := HP.out
        rw [if_pos h0, if_pos h0] at HP2
      case' neg =>
        have d2 : decide (0 < (b : Int)) = false := decide_eq_false (by omega)
        have HP2 := HP.out
        rw [if_neg h0, if_neg h0] at HP2
      all_goals
        have HPP := Lib.hid HP2
        clear HP HP2
        go_wp2_with fail
        refine HPP.out.mono ?_
        rintro e w4 ⟨v4, rfl, hW4, hF4, hM4⟩
        have hfb4 : Blk w4 fb t (fldC fs).toArray := H3.out.2.1.keep hM4 (by
          rintro (e | e)
          · have := HK.out.2.2.2.2.1; omega
          · have := HK.out.2.2.2.1 fb e; omega)
        have hM5 : Mod (fun _ => False) w w4 := (HK.out.2.2.2.2.2.1.trans H3.out.2.2.1).into hM4 (fun j e => .inr (by
          rcases e with e | e
          · subst e; exact HK.out.2.2.2.2.1
          · exact HK.out.2.2.2.1 j e))
        have hsz : w.heap.size ≤ w3.heap.size := (HK.out.2.2.2.2.2.1.trans H3.out.2.2.1).size
        have H4 := Lib.hid (And.intro hW4 (And.intro hfb4 (And.intro hM5 (fun j e => (hF4 j e).elim (HK.out.2.2.2.1 j) (Nat.le_trans hsz)))))
        clear hW4 hF4 hM4 hfb4 hM5 bc bf
        go_wp2_with fail
        go_roundw
        case rel => exact ⟨i + 1, L ++ fldB (a, b), v4, by omega, by go_num, by rw [List.append_assoc]; exact HK.out.1, by rw [List.length_append]; omega, H4.out.1, H4.out.2.1, H4.out.2.2.2, HK.out.2.2.2.2.1, H4.out.2.2.1⟩
        case measure => simp [intOf]; omega
    · obtain rfl : i = k := by omega
      have hLT : L = T := by rw [← hTL, List.drop_of_length_le (by rw [H0.out.1]; exact Nat.le_refl _)]; simp [fldsB]
      subst hLT
      obtain ⟨A, c, rfl⟩ := own_shape hW.own
      have hpl : (packL L).length ≤ 40 := by rw [packL_length]; omega
      have HK := Lib.hid (And.intro hW (And.intro hown (And.intro hg hm)))
      clear hTL hW hfb hown hg hm
      obtain ⟨N, hN⟩ : ∃ N, N = (packL L).length := ⟨_, rfl⟩
      rw [← hN] at HK hpl
      have HN := Lib.hid hN
      clear hN
      go_wp2_with fail
      refine (wAlign _ g A N c _ (by omega) HK.out.1.blk).mono ?_
      rintro e w4 ⟨rfl, hb4, hm4⟩
      have ho4 := HK.out.1.own.mod hm4 (fun j e hj => HK.out.1.own.apart HK.out.1.blk (by decide) (hj ▸ e))
      have H4 := Lib.hid (And.intro hb4 (And.intro ho4 (HK.out.2.2.2.into hm4 (fun j e => .inr (e ▸ HK.out.2.2.1)))))
      clear hb4 ho4 hm4
      go_wp2_with fail
      refine (wBytes _ g A N c _ (packL L) HN.out.symm (by omega) H4.out.1 H4.out.2.1).mono ?_
      rintro e w5 ⟨g5, rfl, hb5, hg5, hm5⟩
      have H5 := Lib.hid (And.intro hb5 (And.intro (Nat.le_trans H4.out.2.2.size hg5) (H4.out.2.2.trans hm5)))
      clear hb5 hg5 hm5
      go_wp2_with fail
      go_ret
      exact ⟨N, HN.out, g5, rfl, H5.out.1, H5.out.2.1, H5.out.2.2⟩
end Go.Proofs.YtmkopcojnibhlaaGreatDoor
