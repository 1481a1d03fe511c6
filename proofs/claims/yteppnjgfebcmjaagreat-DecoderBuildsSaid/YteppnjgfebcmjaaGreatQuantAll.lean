/-
  quant.all.
-/
import Derived.Test.YteppnjgfebcmjaaGreatQuantStep
namespace Go.Proofs.YteppnjgfebcmjaaGreat
open Go.RowKit

def allB (m : Int) (l : List Int) : Bool := decide (sideOf l.length ≠ 0) && l.all (inB m)
theorem allB_yes {m : Int} {l : List Int} (h1 : sideOf l.length ≠ 0) (h2 : ∀ j < l.length, inB m (l.getD j 0) = true) : allB m l = true := by
  unfold allB
  rw [Bool.and_eq_true, decide_eq_true_eq, List.all_eq_true]
  refine ⟨h1, fun x hx => ?_⟩
  obtain ⟨j, hj, rfl⟩ := List.getElem_of_mem hx
  have := h2 j hj
  rwa [List.getD_eq_getElem?_getD, List.getElem?_eq_getElem hj] at this
theorem allB_no {m : Int} {l : List Int} (j : Nat) (hj : j < l.length) (h2 : inB m (l.getD j 0) = false) : allB m l = false := by
  unfold allB
  rw [Bool.and_eq_false_iff]
  right
  rw [List.all_eq_false]
  refine ⟨l[j], List.getElem_mem hj, ?_⟩
  rw [List.getD_eq_getElem?_getD, List.getElem?_eq_getElem hj] at h2
  have h3 : inB m l[j] = false := h2
  rw [h3]
  decide

set_option maxRecDepth 100000 in
set_option maxHeartbeats 1000000 in
theorem quantAll (w : World) (A : Option Addr) (n c bb : Nat) (l : List Int) (m : Int) (hin : IntsIn w A n c l) (hn : n ≤ 1048576) (hm : 0 ≤ m ∧ m ≤ 1099511627776) (hb : Blk w bb 3 #[.int .i64 m]) :
    Calls Tryz.prog 125 #[.slice A n c, .func (.func 152) #[] #[.pointer (some ⟨bb, 0, none⟩)]] w fun e w' => e = .returned (.bool (allB m l)) ∧ w = w' := by
  obtain rfl : l.length = n := hin.1
  by_cases hs : sideOf l.length = 0
  · have HA : Hid (allB m l = false) := by show _ = _; unfold allB; rw [hs]; rfl
    go_enter Tryz.func125, Tryz.ntmps125
    go_wp2_with fail
    refine (quantSide _ l.length (by omega)).mono ?_
    rintro e w1 ⟨rfl, rfl⟩
    rw [hs]
    clear hs
    go_wp2_with fail
    go_ret
    exact ⟨by rw [HA.out]; rfl, rfl⟩
  · have hs1 : (((sideOf l.length : Nat) : Int) == 0) = false := beq_eq_false_iff_ne.2 (by omega)
    have h0 : 0 < l.length := by
      rcases Nat.eq_zero_or_pos l.length with e | e
      · rw [e] at hs; exact absurd rfl hs
      · exact e
    obtain ⟨b, off, rfl, _, hc⟩ := hin.place h0
    have HC := Lib.hid hc
    have HS := Lib.hid hs
    clear hin hc hs
    go_enter Tryz.func125, Tryz.ntmps125
    go_wp2_with fail
    refine (quantSide _ l.length (by omega)).mono ?_
    rintro e w1 ⟨rfl, rfl⟩
    generalize ((sideOf l.length : Nat) : Int) = sd at *
    go_wp2_with fail
    go_loop [13] (fun i => ∃ k : Nat, k ≤ l.length ∧ i = .int .i64 k ∧ ∀ j < k, inB m (l.getD j 0) = true) (fun i => l.length - (intOf i).toNat)
    case atStart => exact ⟨0, by omega, rfl, fun j hj => by omega⟩
    case round =>
      obtain ⟨k, hk, rfl, hall⟩ := hrel
      have HL := Lib.hid hall
      clear hall
      by_cases hlt : k < l.length
      · have hck := HC.out k hlt
        have i1 : (0 : Int) ≤ (k : Int) := by omega
        have i2 : (k : Int) < (l.length : Int) := by omega
        cases hv : inB m (l.getD k 0) with
        | true =>
          generalize hx : l.getD k 0 = x at *
          have HX := Lib.hid (And.intro hx hv)
          clear hx
          go_wp2_with fail
          refine (quantIn _ bb m x hm hb).mono ?_
          rintro e w1 ⟨rfl, rfl⟩
          rw [hv]
          clear hv
          go_wp2_with fail
          go_round
          case rel => exact ⟨k + 1, by omega, by go_num, fun j hj => by
            by_cases e : j = k
            · subst e; rw [HX.out.1]; exact HX.out.2
            · exact HL.out j (by omega)⟩
          case measure => simp [intOf]; omega
        | false =>
          have HA : Hid (allB m l = false) := allB_no k hlt hv
          generalize hx : l.getD k 0 = x at *
          clear hx
          go_wp2_with fail
          refine (quantIn _ bb m x hm hb).mono ?_
          rintro e w1 ⟨rfl, rfl⟩
          rw [hv]
          clear hv
          go_wp2_with fail
          go_ret
          exact ⟨by rw [HA.out]; rfl, rfl⟩
      · have HA : Hid (allB m l = true) := allB_yes HS.out (fun j hj => HL.out j (by omega))
        go_wp2_with fail
        go_ret
        exact ⟨by rw [HA.out]; rfl, rfl⟩
end Go.Proofs.YteppnjgfebcmjaaGreat
