/-
  The reference's Step.
-/
import Derived.Test.YteppnjgfebcmjaaGreatQuantStep
namespace Go.Proofs.YteppnjgfebcmjaaGreat
open Go.RowKit

theorem pow_bd (p : Int) (k : Nat) (hk : k ≤ 7) (h1 : 4 ≤ p) (h2 : p ≤ 7) : 4 ≤ p * 2 ^ k ∧ p * 2 ^ k ≤ 896 := by
  have hk : k = 0 ∨ k = 1 ∨ k = 2 ∨ k = 3 ∨ k = 4 ∨ k = 5 ∨ k = 6 ∨ k = 7 := by omega
  rcases hk with e | e | e | e | e | e | e | e <;> rw [e] <;> simp only [Int.reducePow] <;> omega

set_option maxRecDepth 100000 in
set_option maxHeartbeats 1000000 in
theorem rstep_yes (w : World) (q x y : Int) (h : stepOk q x y = true) : Calls Tryz.prog 91 #[.int .i64 q, .int .i64 x, .int .i64 y] w fun e w' => e = .returned (.tuple #[.int .i64 (stepOf q x y), .int .i64 0]) ∧ w = w' := by
  unfold stepOk at h
  simp only [decide_eq_true_eq] at h
  obtain ⟨q1, q2, x1, x2, y1, y2⟩ := h
  go_enter Tryz.func91, Tryz.ntmps91
  go_wp2_with fail
  go_loop [8, 9] (fun s i => ∃ k : Nat, (k : Int) ≤ q / 4 ∧ i = .int .i64 k ∧ s = .int .i64 ((4 + q % 4) * 2 ^ k)) (fun _ i => (q / 4 - intOf i).toNat)
  case atStart => exact ⟨0, by omega, rfl, by simp⟩
  case round =>
    obtain ⟨k, hk, rfl, rfl⟩ := hrel
    have hb := pow_bd (4 + q % 4) k (by omega) (by omega) (by omega)
    by_cases hlt : (k : Int) < q / 4
    · have HS : Hid (2 * ((4 + q % 4) * 2 ^ k) = (4 + q % 4) * 2 ^ (k + 1)) := by show _ = _; rw [Int.pow_succ, Int.mul_comm 2, Int.mul_assoc]
      generalize (4 + q % 4) * 2 ^ k = p at *
      go_wp2_with fail
      go_round
      case rel => exact ⟨k + 1, by omega, by go_num, by rw [← HS.out]⟩
      case measure => simp [intOf]; omega
    · have hk2 : k = (q / 4).toNat := by omega
      have HE : Hid (stepOf q x y = (4 + q % 4) * 2 ^ k / 4 * (4 + x + y) / 4) := by show _ = _; rw [hk2]; rfl
      clear hk2
      generalize (4 + q % 4) * 2 ^ k = p at *
      have h1 : 1 ≤ p / 4 ∧ p / 4 ≤ 224 := by omega
      have h2 : 4 ≤ p / 4 * (4 + x + y) := by
        have := Int.mul_le_mul h1.1 (show 4 ≤ 4 + x + y by omega) (by omega) (by omega)
        omega
      have h3 : p / 4 * (4 + x + y) ≤ 224 * 18 := Int.mul_le_mul h1.2 (show 4 + x + y ≤ 18 by omega) (by omega) (by omega)
      go_wp2_with fail
      go_ret2
      exact ⟨by rw [HE.out]; rfl, rfl⟩
end Go.Proofs.YteppnjgfebcmjaaGreat
