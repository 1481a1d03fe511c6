/-
  quant.Step.
-/
import Derived.Test.YteppnjgfebcmjaaGreatQuant
namespace Go.Proofs.YteppnjgfebcmjaaGreat
open Go.RowKit

theorem step_bd (q x y : Int) (h : stepOk q x y = true) : (4 ≤ (4 + q % 4) * 2 ^ (q / 4).toNat ∧ (4 + q % 4) * 2 ^ (q / 4).toNat ≤ 896) ∧ 1 ≤ stepOf q x y ∧ stepOf q x y ≤ 1008 ∧ stepOf q x y = wrap64 (wrap64 ((4 + q % 4) * 2 ^ (q / 4).toNat) / 4 * (4 + x + y)) / 4 := by
  unfold stepOk at h
  simp only [decide_eq_true_eq] at h
  obtain ⟨q1, q2, x1, x2, y1, y2⟩ := h
  have hp : 4 ≤ (4 + q % 4) * 2 ^ (q / 4).toNat ∧ (4 + q % 4) * 2 ^ (q / 4).toNat ≤ 896 := by
    have hk : (q / 4).toNat = 0 ∨ (q / 4).toNat = 1 ∨ (q / 4).toNat = 2 ∨ (q / 4).toNat = 3 ∨ (q / 4).toNat = 4 ∨ (q / 4).toNat = 5 ∨ (q / 4).toNat = 6 ∨ (q / 4).toNat = 7 := by omega
    rcases hk with e | e | e | e | e | e | e | e <;> rw [e] <;> simp only [Int.reducePow] <;> omega
  refine ⟨hp, ?_⟩
  unfold stepOf
  generalize (4 + q % 4) * 2 ^ (q / 4).toNat = p at *
  rw [IntWalk.wrap64_in p ⟨by omega, by omega⟩]
  have h1 : 1 ≤ p / 4 ∧ p / 4 ≤ 224 := by omega
  generalize p / 4 = r at *
  have h2 : 4 ≤ r * (4 + x + y) := by
    have := Int.mul_le_mul h1.1 (show 4 ≤ 4 + x + y by omega) (by omega) (by omega)
    omega
  have h3 : r * (4 + x + y) ≤ 224 * 18 := Int.mul_le_mul h1.2 (show 4 + x + y ≤ 18 by omega) (by omega) (by omega)
  generalize r * (4 + x + y) = m at *
  rw [IntWalk.wrap64_in m ⟨by omega, by omega⟩]
  omega

set_option maxRecDepth 100000 in
set_option maxHeartbeats 1000000 in
theorem quantStep_yes (w : World) (q x y : Int) (h : stepOk q x y = true) : Calls Tryz.prog 127 #[.int .i64 q, .int .i64 x, .int .i64 y] w fun e w' => e = .returned (.tuple #[.int .i64 (stepOf q x y), .int .i64 0]) ∧ w = w' := by
  have HS := Lib.hid (step_bd q x y h).2.2.2
  unfold stepOk at h
  simp only [decide_eq_true_eq] at h
  obtain ⟨q1, q2, x1, x2, y1, y2⟩ := h
  have d1 : decide (0 ≤ q ∧ q ≤ 31) = true := by simp; omega
  have d2 : decide (0 ≤ x ∧ x ≤ 7) = true := by simp; omega
  have d3 : decide (0 ≤ y ∧ y ≤ 7) = true := by simp; omega
  go_enter Tryz.func127, Tryz.ntmps127
  go_wp2_with fail
  refine (may_any _ q 31).mono ?_
  rintro e w1 ⟨rfl, rfl⟩
  rw [d1]
  go_wp2_with fail
  refine (may_any _ x 7).mono ?_
  rintro e w1 ⟨rfl, rfl⟩
  rw [d2]
  go_wp2_with fail
  refine (may_any _ y 7).mono ?_
  rintro e w1 ⟨rfl, rfl⟩
  rw [d3]
  clear d1 d2 d3
  go_wp2_with fail
  go_ret2
  exact ⟨by rw [HS.out]; rfl, rfl⟩

set_option maxRecDepth 100000 in
set_option maxHeartbeats 1000000 in
theorem quantStep_no (w : World) (q x y : Int) (h : stepOk q x y = false) : Calls Tryz.prog 127 #[.int .i64 q, .int .i64 x, .int .i64 y] w fun e w' => e = .returned (.tuple #[.int .i64 0, .int .i64 1]) ∧ w = w' := by
  unfold stepOk at h
  simp only [decide_eq_false_iff_not] at h
  go_enter Tryz.func127, Tryz.ntmps127
  go_wp2_with fail
  refine (may_any _ q 31).mono ?_
  rintro e w1 ⟨rfl, rfl⟩
  by_cases d1 : 0 ≤ q ∧ q ≤ 31
  · rw [decide_eq_true d1]
    go_wp2_with fail
    refine (may_any _ x 7).mono ?_
    rintro e w1 ⟨rfl, rfl⟩
    by_cases d2 : 0 ≤ x ∧ x ≤ 7
    · rw [decide_eq_true d2]
      go_wp2_with fail
      refine (may_any _ y 7).mono ?_
      rintro e w1 ⟨rfl, rfl⟩
      rw [decide_eq_false (show ¬ (0 ≤ y ∧ y ≤ 7) by omega)]
      go_wp2_with fail
      go_ret2
      exact ⟨rfl, rfl⟩
    · rw [decide_eq_false d2]
      go_wp2_with fail
      go_ret2
      exact ⟨rfl, rfl⟩
  · rw [decide_eq_false d1]
    go_wp2_with fail
    go_ret2
    exact ⟨rfl, rfl⟩
end Go.Proofs.YteppnjgfebcmjaaGreat
