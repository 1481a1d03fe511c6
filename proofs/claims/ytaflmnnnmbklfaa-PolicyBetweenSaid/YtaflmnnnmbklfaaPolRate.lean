/-
  The contract of policy.Meter's Rate.
-/
import Derived.Test.YtaflmnnnmbklfaaPolMtr
import Derived.BigGuardPart
namespace Go.Proofs.Ytaflmnnnmbklfaa
open Go.RowKit

set_option maxHeartbeats 400000 in
theorem mtrRate_nil (s : Int) (w : World) : Calls Try.prog 11 #[.pointer none, .int .i64 s] w fun e w' => e = .returned (.int .i64 0) ∧ w = w' := by
  go_enter Try.func11, Try.ntmps11
  go_wp2
  go_ret
  exact ⟨rfl, rfl⟩

set_option maxHeartbeats 400000 in
theorem mtrRate_no (g : Nat) (s count next : Int) (x : Nat → Dl) (w : World) (hb : Blk w g 57 (mtr x count next)) (h : count = 0 ∨ s < 1 ∨ 1048576 < s) :
    Calls Try.prog 11 #[.pointer (some ⟨g, 0, none⟩), .int .i64 s] w fun e w' => e = .returned (.int .i64 0) ∧ w = w' := by
  obtain ⟨hc, hf⟩ := hb.both
  unfold mtr at hc
  go_enter Try.func11, Try.ntmps11
  go_wp2
  all_goals first
    | (go_ret; exact ⟨rfl, rfl⟩)
    | (exfalso; omega)

/-- All four slots are right downloads. -/
def SlotsOk (x : Nat → Dl) (n : Nat) : Prop := ∀ j, j < n → dlOk (x j).1 (x j).2 = true

theorem ringSum_bd (x : Nat → Dl) (s : Int) (n : Nat) (hx : SlotsOk x n) (hs : 1 ≤ s ∧ s ≤ 1048576) (j : Nat) (hj : j ≤ n) : (j : Int) ≤ ringSum x s j ∧ ringSum x s j ≤ (j : Int) * 1099511627776 := by
  induction j with
  | zero => simp [ringSum]
  | succ j ih =>
    have h1 := ih (by omega)
    have h2 := weigh_bd (x j) s (hx j (by omega)) hs
    simp only [ringSum]
    omega

theorem round_num (S q : Int) (hS : 0 ≤ S ∧ S ≤ 4398046511104) (hq : 0 ≤ q ∧ q ≤ 1099511627776) : wrap64 (S + 1099511627776 / if q < 1 then 1 else q) = S + 1099511627776 / max q 1 := by
  have e : (if q < 1 then 1 else q) = max q 1 := by split <;> omega
  rw [e]
  have h := div_bd (max q 1) (by omega)
  exact IntWalk.wrap64_in _ ⟨by omega, by omega⟩

set_option maxHeartbeats 1000000 in
theorem mtrRate_yes (g : Nat) (s : Int) (n : Nat) (next : Int) (x : Nat → Dl) (w : World) (hb : Blk w g 57 (mtr x n next)) (hn : 1 ≤ n) (hn4 : n ≤ 4) (hx : SlotsOk x n) (hs : 1 ≤ s ∧ s ≤ 1048576) :
    Calls Try.prog 11 #[.pointer (some ⟨g, 0, none⟩), .int .i64 s] w fun e w' => e = .returned (.int .i64 ((n : Int) * 1099511627776 / ringSum x s n)) ∧ Mod (fun _ => False) w w' := by
  obtain ⟨hc, hf⟩ := hb.both
  unfold mtr at hc
  obtain ⟨hs1, hs2⟩ := hs
  have hn0 : ((n : Int) == 0) = false := by simp; omega
  have hs3 : decide (1048576 < s) = false := by simp; omega
  have hi0 : (0 : Int) ≤ (n : Int) := by omega
  have hi4 : (n : Int) ≤ 4 := by omega
  go_enter Try.func11, Try.ntmps11
  go_wp2
  go_quiet (fail)
  go_wp2
  go_loopw [5, 34] (fun sm i wr => ∃ k : Nat, k ≤ n ∧ i = .int .i64 k ∧ sm = .int .i64 (ringSum x s k) ∧ Mod (fun _ => False) w wr) (fun _ i _ => n - (intOf i).toNat)
  case atStart => exact ⟨0, Nat.zero_le _, rfl, rfl, (Mod.refl _ _).drewN _⟩
  case round =>
    obtain ⟨k, hk, rfl, rfl, hm⟩ := hrel
    have hb' := hb.keep hm (fun h => h)
    clear hc hf
    obtain ⟨hc, hf⟩ := hb'.both
    unfold mtr at hc
    have hsum := ringSum_bd x s n hx ⟨hs1, hs2⟩ k hk
    by_cases hlt : k < n
    · have hd := hx k hlt
      have hw := weigh_bd (x k) s hd ⟨hs1, hs2⟩
      unfold dlOk at hd
      simp only [decide_eq_true_eq] at hd
      obtain ⟨d1, d2, d3, d4⟩ := hd
      have hp := prod_bd (x k).1 s ⟨d1, d2⟩ ⟨hs1, hs2⟩
      have hq := quo_bd (x k).1 s (x k).2 ⟨d1, d2⟩ ⟨hs1, hs2⟩ d3
      rcases (by omega : k = 0 ∨ k = 1 ∨ k = 2 ∨ k = 3) with e | e | e | e
      all_goals
        subst e
        go_wp2
        go_roundw
        case rel => exact ⟨_, hlt, rfl, val_i (round_num _ _ (by omega) hq), by repeat' (first | with_reducible exact hm | with_reducible apply Mod.alloc | with_reducible apply Mod.drew)⟩
        case measure => simp [intOf]; omega
    · obtain rfl : k = n := by omega
      go_wp2
      go_ret
      exact ⟨rfl, hm⟩

theorem mtrRate (g : Nat) (s : Int) (L : List Dl) (w : World) (hm : MeterIs w g L) :
    Calls Try.prog 11 #[.pointer (some ⟨g, 0, none⟩), .int .i64 s] w fun e w' => e = .returned (.int .i64 (rate L s)) ∧ Mod (fun _ => False) w w' := by
  obtain ⟨hL, x, hr, hb⟩ := hm
  by_cases h : L.length = 0 ∨ s < 1 ∨ 1048576 < s
  · have e : rate L s = 0 := if_pos (by omega)
    rw [e]
    exact (mtrRate_no g s _ _ x w hb (by omega)).mono fun e w' ⟨he, hw⟩ => ⟨he, hw ▸ Mod.refl _ _⟩
  · have hs : 1 ≤ s ∧ s ≤ 1048576 := by omega
    have hn : L.length ≠ 0 := by omega
    rw [← hr.rate s hs hn]
    refine mtrRate_yes g s (min L.length 4) _ x w hb (by omega) (by omega) (fun j hj => ?_) hs
    by_cases h4 : 4 ≤ L.length
    · have hm : L.length % 4 = 0 ∨ L.length % 4 = 1 ∨ L.length % 4 = 2 ∨ L.length % 4 = 3 := by omega
      have e := hr.many h4 ((j + 4 - L.length % 4) % 4) (by omega)
      rw [show (L.length + (j + 4 - L.length % 4) % 4) % 4 = j by omega] at e
      rw [e]
      exact dlAt_ok hL (by omega)
    · rw [hr.few (by omega) j (by omega)]
      exact dlAt_ok hL (by omega)
end Go.Proofs.Ytaflmnnnmbklfaa
