/-
  The plain law of PolicyBetween: the harmonic mean lies between the least and the greatest.
-/
import Derived.Test.YtaflmnnnmbklfaaPolMeterPlain
namespace Go.Proofs.Ytaflmnnnmbklfaa

/-- Bytes of a second. -/
def speed (s : Int) (d : Dl) : Int := max (d.1 * s / d.2) 1
def lowTo (L : List Dl) (s : Int) (k : Nat) : Nat → Int
  | 0 => 1152921504606846976
  | j + 1 => min (lowTo L s k j) (speed s (dlAt L (k + j)))
def highTo (L : List Dl) (s : Int) (k : Nat) : Nat → Int
  | 0 => 0
  | j + 1 => max (highTo L s k j) (speed s (dlAt L (k + j)))

theorem speed_bd (d : Dl) (s : Int) (hd : dlOk d.1 d.2 = true) (hs : 1 ≤ s ∧ s ≤ 1048576) : 1 ≤ speed s d ∧ speed s d ≤ 1099511627776 := by
  unfold dlOk at hd
  simp only [decide_eq_true_eq] at hd
  have h := quo_bd d.1 s d.2 ⟨hd.1, hd.2.1⟩ hs hd.2.2.1
  unfold speed
  omega
theorem lowTo_bd (L : List Dl) (s : Int) (k : Nat) (hL : AllOk L) (hs : 1 ≤ s ∧ s ≤ 1048576) (j : Nat) (hj : k + j ≤ L.length) : 1 ≤ lowTo L s k j ∧ lowTo L s k j ≤ 1152921504606846976 := by
  induction j with
  | zero => simp [lowTo]
  | succ j ih =>
    have h1 := ih (by omega)
    have h2 := speed_bd (dlAt L (k + j)) s (dlAt_ok hL (by omega)) hs
    simp only [lowTo]
    omega
theorem highTo_bd (L : List Dl) (s : Int) (k : Nat) (hL : AllOk L) (hs : 1 ≤ s ∧ s ≤ 1048576) (j : Nat) (hj : k + j ≤ L.length) : 0 ≤ highTo L s k j ∧ highTo L s k j ≤ 1099511627776 := by
  induction j with
  | zero => simp [highTo]
  | succ j ih =>
    have h1 := ih (by omega)
    have h2 := speed_bd (dlAt L (k + j)) s (dlAt_ok hL (by omega)) hs
    simp only [highTo]
    omega

theorem mul_quo_le (x y : Int) (hx : 1 ≤ x) (hxy : x ≤ y) : x * (1099511627776 / y) ≤ 1099511627776 := by
  have h0 : 0 ≤ 1099511627776 / y := Int.ediv_nonneg (by omega) (by omega)
  have h1 : x * (1099511627776 / y) ≤ y * (1099511627776 / y) := Int.mul_le_mul_of_nonneg_right hxy h0
  have h2 : y * (1099511627776 / y) ≤ 1099511627776 := Int.mul_ediv_self_le (by omega)
  omega

/-- The least times the sum. -/
theorem low_sum (L : List Dl) (s : Int) (k : Nat) (hL : AllOk L) (hs : 1 ≤ s ∧ s ≤ 1048576) (x : Int) (hx : 1 ≤ x) (j : Nat) (hj : k + j ≤ L.length) (hlow : x ≤ lowTo L s k j) : x * weighTo L s k j ≤ (j : Int) * 1099511627776 := by
  induction j with
  | zero => simp [weighTo]
  | succ j ih =>
    simp only [lowTo] at hlow
    have h1 := ih (by omega) (by omega)
    have h2 := speed_bd (dlAt L (k + j)) s (dlAt_ok hL (by omega)) hs
    have h3 : x * weigh s (dlAt L (k + j)) ≤ 1099511627776 := mul_quo_le x (speed s (dlAt L (k + j))) hx (by omega)
    simp only [weighTo]
    rw [Int.mul_add]
    have e : ((j + 1 : Nat) : Int) * 1099511627776 = (j : Int) * 1099511627776 + 1099511627776 := by omega
    rw [e]
    omega
theorem quo_anti (x y : Int) (hx : 1 ≤ x) (hxy : x ≤ y) : 1099511627776 / y ≤ 1099511627776 / x := by
  refine Int.le_ediv_of_mul_le (by omega) ?_
  rw [Int.mul_comm]
  exact mul_quo_le x y hx hxy
/-- The sum is no less than so many of the greatest's. -/
theorem high_sum (L : List Dl) (s : Int) (k : Nat) (hL : AllOk L) (hs : 1 ≤ s ∧ s ≤ 1048576) (x : Int) (j : Nat) (hj : k + j ≤ L.length) (hhigh : highTo L s k j ≤ x) : (j : Int) * (1099511627776 / x) ≤ weighTo L s k j := by
  induction j with
  | zero => simp [weighTo]
  | succ j ih =>
    simp only [highTo] at hhigh
    have h1 := ih (by omega) (by omega)
    have h2 := speed_bd (dlAt L (k + j)) s (dlAt_ok hL (by omega)) hs
    have h3 : 1099511627776 / x ≤ weigh s (dlAt L (k + j)) := quo_anti (speed s (dlAt L (k + j))) x h2.1 (by omega)
    simp only [weighTo]
    have e : ((j + 1 : Nat) : Int) * (1099511627776 / x) = (j : Int) * (1099511627776 / x) + 1099511627776 / x := by
      rw [Int.natCast_add, Int.add_mul]; omega
    rw [e]
    omega

theorem between_low (L : List Dl) (s : Int) (k : Nat) (hL : AllOk L) (hs : 1 ≤ s ∧ s ≤ 1048576) (j : Nat) (hj : k + j ≤ L.length) (h0 : 0 < j) : lowTo L s k j ≤ (j : Int) * 1099511627776 / weighTo L s k j := by
  have hb := lowTo_bd L s k hL hs j hj
  have hw := weighTo_bd L s k hL hs j hj
  exact Int.le_ediv_of_mul_le (by omega) (low_sum L s k hL hs _ hb.1 j hj (Int.le_refl _))

theorem between_high (L : List Dl) (s : Int) (k : Nat) (hL : AllOk L) (hs : 1 ≤ s ∧ s ≤ 1048576) (j : Nat) (hj : k + j ≤ L.length) (h0 : 0 < j) (h : highTo L s k j < 1048576) :
    (j : Int) * 1099511627776 / weighTo L s k j ≤ highTo L s k j + highTo L s k j / 1000 + 1 := by
  have hw := weighTo_bd L s k hL hs j hj
  have h1 : 1 ≤ highTo L s k j := by
    cases j with
    | zero => omega
    | succ j =>
      have h2 := speed_bd (dlAt L (k + j)) s (dlAt_ok hL (by omega)) hs
      simp only [highTo]
      omega
  generalize hH : highTo L s k j = H at *
  have hsum := high_sum L s k hL hs H j hj (by omega)
  have hq1 : 1048576 ≤ 1099511627776 / H := Int.le_ediv_of_mul_le (by omega) (by omega)
  have hq2 : 1099511627776 < H * (1099511627776 / H) + H := by
    have e := Int.mul_ediv_add_emod 1099511627776 H
    have l := Int.emod_lt_of_pos 1099511627776 (show 0 < H by omega)
    omega
  generalize 1099511627776 / H = q at *
  refine Int.le_of_lt_add_one ?_
  refine Int.ediv_lt_of_lt_mul (by omega) ?_
  -- j * 2^40 < (H + H/1000 + 2) * W
  have hd : 0 ≤ H / 1000 := Int.ediv_nonneg (by omega) (by omega)
  have a1 : (H + H / 1000 + 1 + 1) * ((j : Int) * q) ≤ (H + H / 1000 + 1 + 1) * weighTo L s k j := Int.mul_le_mul_of_nonneg_left hsum (by omega)
  have a2 : 1099511627776 < (H + 2) * q := by rw [Int.add_mul]; omega
  have a3 : (H + 2) * q ≤ (H + H / 1000 + 1 + 1) * q := Int.mul_le_mul_of_nonneg_right (by omega) (by omega)
  have a4 : (j : Int) * 1099511627776 < (j : Int) * ((H + H / 1000 + 1 + 1) * q) := Int.mul_lt_mul_of_pos_left (by omega) (by omega)
  have a5 : (H + H / 1000 + 1 + 1) * ((j : Int) * q) = (j : Int) * ((H + H / 1000 + 1 + 1) * q) := by rw [← Int.mul_assoc, ← Int.mul_assoc, Int.mul_comm _ (j : Int)]
  omega
end Go.Proofs.Ytaflmnnnmbklfaa
