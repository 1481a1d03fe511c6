/-
  The contract of the reference's Meter's Rate.
-/
import Derived.Test.YtaflmnnnmbklfaaPolRef
import Derived.Test.YtaflmnnnmbklfaaPolRate
import Derived.Deep.AppendLies
namespace Go.Proofs.Ytaflmnnnmbklfaa
open Go.RowKit

set_option maxHeartbeats 400000 in
theorem refRate_no (p : Value) (s : Int) (w : World) (h : s < 1 ∨ 1048576 < s) :
    Calls Try.prog 12 #[p, .int .i64 s] w fun e w' => e = .returned (.int .i64 0) ∧ w = w' := by
  go_enter Try.func12, Try.ntmps12
  go_wp2_with fail
  all_goals first
    | (go_ret; exact ⟨rfl, rfl⟩)
    | (exfalso; omega)

set_option maxHeartbeats 1000000 in
theorem refRate_yes (B g : Nat) (s : Int) (L : List Dl) (w : World) (hm : RMeterIs B w g L) (hL0 : 0 < L.length) (hs : 1 ≤ s ∧ s ≤ 1048576) (f : Nat) (hfd : f = first L) :
    Calls Try.prog 12 #[.pointer (some ⟨g, 0, none⟩), .int .i64 s] w fun e w' => e = .returned (.int .i64 (((L.length - f : Nat) : Int) * 1099511627776 / weighTo L s f (L.length - f))) ∧ Mod (fun _ => False) w w' := by
  obtain ⟨hL, hlen, v, hb, hown⟩ := hm
  obtain ⟨hs1, hs2⟩ := hs
  obtain ⟨r, cap, rfl, _, _⟩ := hown.form hL0
  have hcap : L.length ≤ cap := by
    rcases hown.2 with ⟨hv, h0⟩ | ⟨_, _, _, hv, _, _, h, _⟩
    · omega
    · injection hv with _ _ h3; omega
  have hrow : ∀ i, i < L.length → w.cell? ⟨r, i * 2, none⟩ = some (.int .i64 (dlAt L i).1) ∧ w.cell? ⟨r, i * 2 + 1, none⟩ = some (.int .i64 (dlAt L i).2) := by
    intro i hi
    obtain ⟨h1, h2⟩ := dls_at L i hi
    have hadd : ∀ j, (⟨r, 0, none⟩ : Addr).add j = ⟨r, j, none⟩ := fun j => by unfold Addr.add; split <;> simp_all
    have e1 := hown.cells (g := r) rfl _ _ h1
    have e2 := hown.cells (g := r) rfl _ _ h2
    rw [hadd] at e1 e2
    rw [Nat.mul_comm i 2]
    exact ⟨e1, e2⟩
  have HL := Lib.hid hL
  have HF := Lib.hid hfd
  have hf4 : f ≤ L.length ∧ L.length ≤ f + 4 := by unfold first at hfd; omega
  have hstart : (L.length : Int) - 4 < 0 ∧ f = 0 ∨ 0 ≤ (L.length : Int) - 4 ∧ f + 4 = L.length := by unfold first at hfd; omega
  clear hfd hL hown
  obtain ⟨hc, hf⟩ := hb.both
  have hs3 : decide (1048576 < s) = false := by simp; omega
  have hs0 : decide (s < 1) = false := by simp; omega
  go_enter Try.func12, Try.ntmps12
  go_wp2_with fail
  all_goals
    go_loopw [5, 6, 7] (fun nv sm i wr => ∃ j q : Nat, f + j = q ∧ q ≤ L.length ∧ i = .int .i64 q ∧ nv = .int .i64 j ∧ sm = .int .i64 (weighTo L s f j) ∧ ∃ d, wr = w.drewN d) (fun _ _ i _ => L.length - (intOf i).toNat)
    case atStart => exact ⟨0, f, rfl, hf4.1, val_i (by omega), rfl, rfl, 0, rfl⟩
    case round =>
      obtain ⟨j, q, hq, hql, rfl, rfl, rfl, d, rfl⟩ := hrel
      have HQ := Lib.hid hq
      have hqj : q ≤ f + j ∧ f + j ≤ q := by omega
      clear hq
      have hsum := weighTo_bd L s f HL.out ⟨hs1, hs2⟩ j (by omega)
      by_cases hlt : q < L.length
      · obtain ⟨c1, c2⟩ := hrow q hlt
        have hd := dlAt_ok HL.out hlt
        have hw := weigh_bd (dlAt L q) s hd ⟨hs1, hs2⟩
        unfold dlOk at hd
        simp only [decide_eq_true_eq] at hd
        obtain ⟨d1, d2, d3, d4⟩ := hd
        have hp := prod_bd (dlAt L q).1 s ⟨d1, d2⟩ ⟨hs1, hs2⟩
        have hqq := quo_bd (dlAt L q).1 s (dlAt L q).2 ⟨d1, d2⟩ ⟨hs1, hs2⟩ d3
        have i1 : (0 : Int) ≤ (q : Int) := by omega
        have i2 : (q : Int) < (L.length : Int) := by omega
        have HR := Lib.hid hrow
        clear hrow
        go_wp2_with fail
        go_quiet (fail)
        go_wp2_with fail
        go_roundw
        case rel => exact ⟨j + 1, q + 1, by have := HQ.out; omega, by omega, by go_num, by go_num, val_i (by rw [round_num _ _ (by omega) hqq]; show _ = weighTo L s f j + weigh s (dlAt L (f + j)); rw [HQ.out]; rfl), _, rfl⟩
        case measure => simp [intOf]; omega
      · have hj : 0 < j := by omega
        have hj' : ((j : Int) == 0) = false := by simp; omega
        have hj4 : j ≤ 4 := by omega
        go_wp2_with fail
        go_ret
        exact ⟨ret_i (by rw [show L.length - f = j by omega]), (Mod.refl _ _).drewN _⟩

set_option maxHeartbeats 400000 in
theorem refRate_empty (B g : Nat) (s : Int) (w : World) (hm : RMeterIs B w g []) (hs : 1 ≤ s ∧ s ≤ 1048576) :
    Calls Try.prog 12 #[.pointer (some ⟨g, 0, none⟩), .int .i64 s] w fun e w' => e = .returned (.int .i64 0) ∧ w = w' := by
  obtain ⟨hL, hlen, v, hb, hown⟩ := hm
  obtain ⟨hs1, hs2⟩ := hs
  obtain ⟨A, m, c, rfl⟩ := own_form hown
  obtain rfl : m = 0 := (Src.of_own hown).1
  obtain ⟨hc, hf⟩ := hb.both
  have hs3 : decide (1048576 < s) = false := by simp; omega
  have hs0 : decide (s < 1) = false := by simp; omega
  go_enter Try.func12, Try.ntmps12
  go_wp2_with fail
  refine wp_loop_rounds 1 ?_; rw [rounds_succ]
  go_wp2_with fail
  go_ret
  exact ⟨rfl, rfl⟩

theorem refRate (B g : Nat) (s : Int) (L : List Dl) (w : World) (hm : RMeterIs B w g L) :
    Calls Try.prog 12 #[.pointer (some ⟨g, 0, none⟩), .int .i64 s] w fun e w' => e = .returned (.int .i64 (rate L s)) ∧ Mod (fun _ => False) w w' := by
  by_cases h : s < 1 ∨ 1048576 < s
  · have e : rate L s = 0 := if_pos (by omega)
    rw [e]
    exact (refRate_no _ s w h).mono fun e w' ⟨he, hw⟩ => ⟨he, hw ▸ Mod.refl _ _⟩
  · by_cases h0 : L.length = 0
    · have e : rate L s = 0 := if_pos (by omega)
      rw [e]
      obtain rfl : L = [] := List.eq_nil_of_length_eq_zero h0
      exact (refRate_empty B g s w hm (by omega)).mono fun e w' ⟨he, hw⟩ => ⟨he, hw ▸ Mod.refl _ _⟩
    · have e : rate L s = ((L.length - first L : Nat) : Int) * 1099511627776 / weighTo L s (first L) (L.length - first L) := if_neg (by omega)
      rw [e]
      exact refRate_yes B g s L w hm (by omega) (by omega) (first L) rfl
end Go.Proofs.Ytaflmnnnmbklfaa
