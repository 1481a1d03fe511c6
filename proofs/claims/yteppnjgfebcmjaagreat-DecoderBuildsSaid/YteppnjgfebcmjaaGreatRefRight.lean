/-
  The reference's right (of levels).
-/
import Derived.Test.YteppnjgfebcmjaaGreatQuantEach
namespace Go.Proofs.YteppnjgfebcmjaaGreat
open Go.RowKit

def rightB (l : List Int) (q m : Int) : Bool := allB m l && decide (0 ≤ q ∧ q ≤ 31)
set_option maxRecDepth 100000 in
set_option maxHeartbeats 2000000 in
theorem rright (w : World) (A : Option Addr) (n c : Nat) (l : List Int) (q m : Int) (hin : IntsIn w A n c l) (hn : n ≤ 1048576) (hm : 0 ≤ m ∧ m ≤ 1099511627776) :
    Calls Tryz.prog 89 #[.slice A n c, .int .i64 q, .int .i64 m] w fun e w' => e = .returned (.bool (rightB l q m)) ∧ w = w' := by
  obtain rfl : l.length = n := hin.1
  by_cases hs : sideOf l.length = 0
  · have HA : Hid (rightB l q m = false) := by show _ = _; unfold rightB allB; rw [hs]; rfl
    have h1 : ((l.length : Int) != 16) = true := by
      have : l.length ≠ 16 := fun e => by rw [e] at hs; cases hs
      simp; omega
    have h2 : ((l.length : Int) != 64) = true := by
      have : l.length ≠ 64 := fun e => by rw [e] at hs; cases hs
      simp; omega
    clear hs
    go_enter Tryz.func89, Tryz.ntmps89
    go_wp2_with fail
    go_ret
    exact ⟨by rw [HA.out]; rfl, rfl⟩
  · have hsc := side_cases hs
    have h0 : 0 < l.length := by omega
    obtain ⟨b, off, rfl, _, hc⟩ := hin.place h0
    have HC := Lib.hid hc
    have HS := Lib.hid hs
    have hl : l.length = 16 ∨ l.length = 64 := by omega
    have g1 : ((l.length : Int) != 16) = true ∧ ((l.length : Int) != 64) = false ∨ ((l.length : Int) != 16) = false := by
      rcases hl with e | e
      · right; rw [e]; rfl
      · left; rw [e]; exact ⟨rfl, rfl⟩
    have hlb : l.length ≤ 64 := by omega
    clear hin hc hs hsc hl
    by_cases hq : 0 ≤ q ∧ q ≤ 31
    · obtain ⟨q1, q2⟩ := hq
      rcases g1 with ⟨g1, g2⟩ | g1
      all_goals
        go_enter Tryz.func89, Tryz.ntmps89
        go_wp2_with fail
        go_loop [7] (fun i => ∃ k : Nat, k ≤ l.length ∧ i = .int .i64 k ∧ ∀ j < k, inB m (l.getD j 0) = true) (fun i => l.length - (intOf i).toNat)
        case atStart => exact ⟨0, by omega, rfl, fun j hj => by omega⟩
        case round =>
          obtain ⟨k, hk, rfl, hall⟩ := hrel
          have HL := Lib.hid hall
          clear hall
          by_cases hlt : k < l.length
          · have hck := HC.out k hlt
            have i1 : (0 : Int) ≤ (k : Int) := by omega
            have i2 : (k : Int) < (l.length : Int) := by omega
            by_cases hv : -m ≤ l.getD k 0 ∧ l.getD k 0 ≤ m
            · have HV : Hid (inB m (l.getD k 0) = true) := decide_eq_true hv
              obtain ⟨x, hx⟩ : ∃ x, x = l.getD k 0 := ⟨_, rfl⟩
              rw [← hx] at hck hv
              clear hx
              obtain ⟨v1, v2⟩ := hv
              go_wp2_with fail
              go_round
              case rel => exact ⟨k + 1, by omega, by go_num, fun j hj => by
                by_cases e : j = k
                · subst e; exact HV.out
                · exact HL.out j (by omega)⟩
              case measure => simp [intOf]; omega
            · have HA : Hid (rightB l q m = false) := by show _ = _; unfold rightB; rw [allB_no k hlt (decide_eq_false hv)]; rfl
              generalize l.getD k 0 = x at *
              have hv' : x < -m ∨ m < x := by omega
              clear hv
              rcases hv' with hv | hv
              all_goals
                go_wp2_with fail
                go_ret
                exact ⟨by rw [HA.out]; rfl, rfl⟩
          · have HA : Hid (rightB l q m = true) := by show _ = _; unfold rightB; rw [allB_yes HS.out (fun j hj => HL.out j (by omega)), decide_eq_true (show 0 ≤ q ∧ q ≤ 31 from ⟨q1, q2⟩)]; rfl
            go_wp2_with fail
            go_ret
            exact ⟨by rw [HA.out]; rfl, rfl⟩
    · have HA : Hid (rightB l q m = false) := by show _ = _; unfold rightB; rw [decide_eq_false hq, Bool.and_false]
      have hq' : q < 0 ∨ 31 < q := by omega
      clear hq
      rcases g1 with ⟨g1, g2⟩ | g1 <;> rcases hq' with hq | hq
      all_goals
        go_enter Tryz.func89, Tryz.ntmps89
        go_wp2_with fail
        go_ret
        exact ⟨by rw [HA.out]; rfl, rfl⟩
end Go.Proofs.YteppnjgfebcmjaaGreat
