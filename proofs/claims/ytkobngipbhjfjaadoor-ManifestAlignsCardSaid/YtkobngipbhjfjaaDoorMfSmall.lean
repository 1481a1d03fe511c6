/-
  manifest.letter, rightName, rightPath, rightSide.
-/
import Derived.Test.YtkobngipbhjfjaaDoorMfStr
namespace Go.Proofs.YtkobngipbhjfjaaDoor
open Go.RowKit

set_option maxHeartbeats 2000000 in
theorem pLetter (w : World) (c : UInt8) : Calls Tryd.prog 47 #[.int .u8 (c.toNat : Int)] w fun e w' => e = .returned (.bool (letterB c)) ∧ w = w' := by
  have hc := c.toNat_lt
  unfold letterB
  by_cases h1 : 97 ≤ c.toNat
  · have d1 : decide ((97 : Int) ≤ (c.toNat : Int)) = true := decide_eq_true (by omega)
    have d1' : ((c.toNat : Int) ≥ 97) := by omega
    by_cases h2 : c.toNat ≤ 122
    · have d2 : decide ((c.toNat : Int) ≤ 122) = true := decide_eq_true (by omega)
      rw [show decide (97 ≤ c.toNat ∧ c.toNat ≤ 122) = true from decide_eq_true ⟨h1, h2⟩, Bool.true_or]
      go_enter Tryd.func47, Tryd.ntmps47
      go_wp2_with fail
      go_ret
      exact ⟨rfl, rfl⟩
    · have d2 : decide ((c.toNat : Int) ≤ 122) = false := decide_eq_false (by omega)
      have d3 : decide ((48 : Int) ≤ (c.toNat : Int)) = true := decide_eq_true (by omega)
      have d4 : decide ((c.toNat : Int) ≤ 57) = false := decide_eq_false (by omega)
      rw [show decide (97 ≤ c.toNat ∧ c.toNat ≤ 122) = false from decide_eq_false (by omega), show decide (48 ≤ c.toNat ∧ c.toNat ≤ 57) = false from decide_eq_false (by omega)]
      go_enter Tryd.func47, Tryd.ntmps47
      go_wp2_with fail
      go_ret
      exact ⟨rfl, rfl⟩
  · have d1 : decide ((97 : Int) ≤ (c.toNat : Int)) = false := decide_eq_false (by omega)
    rw [show decide (97 ≤ c.toNat ∧ c.toNat ≤ 122) = false from decide_eq_false (by omega), Bool.false_or]
    by_cases h3 : 48 ≤ c.toNat
    · have d3 : decide ((48 : Int) ≤ (c.toNat : Int)) = true := decide_eq_true (by omega)
      by_cases h4 : c.toNat ≤ 57
      · have d4 : decide ((c.toNat : Int) ≤ 57) = true := decide_eq_true (by omega)
        rw [show decide (48 ≤ c.toNat ∧ c.toNat ≤ 57) = true from decide_eq_true ⟨h3, h4⟩]
        go_enter Tryd.func47, Tryd.ntmps47
        go_wp2_with fail
        go_ret
        exact ⟨rfl, rfl⟩
      · have d4 : decide ((c.toNat : Int) ≤ 57) = false := decide_eq_false (by omega)
        rw [show decide (48 ≤ c.toNat ∧ c.toNat ≤ 57) = false from decide_eq_false (by omega)]
        go_enter Tryd.func47, Tryd.ntmps47
        go_wp2_with fail
        go_ret
        exact ⟨rfl, rfl⟩
    · have d3 : decide ((48 : Int) ≤ (c.toNat : Int)) = false := decide_eq_false (by omega)
      rw [show decide (48 ≤ c.toNat ∧ c.toNat ≤ 57) = false from decide_eq_false (by omega)]
      go_enter Tryd.func47, Tryd.ntmps47
      go_wp2_with fail
      go_ret
      exact ⟨rfl, rfl⟩

set_option maxHeartbeats 2000000 in
theorem pSide (w : World) (n : Int) (h0 : -9223372036854775808 ≤ n) (h1 : n ≤ 9223372036854775807) : Calls Tryd.prog 49 #[.int .i64 n] w fun e w' => e = .returned (.bool (sideB n)) ∧ w = w' := by
  unfold sideB
  by_cases h2 : 16 ≤ n
  · have d2 : decide (16 ≤ n) = true := decide_eq_true h2
    by_cases h3 : n ≤ 4096
    · have d3 : decide (n ≤ 4096) = true := decide_eq_true h3
      by_cases h4 : n.tmod 16 = 0
      · have d4 : (n.tmod 16 == 0) = true := by simp [h4]
        rw [show decide (16 ≤ n ∧ n ≤ 4096 ∧ n.tmod 16 = 0) = true from decide_eq_true ⟨h2, h3, h4⟩]
        have d5 : (n % 16 == 0) = true := by rw [Int.tmod_eq_emod_of_nonneg (by omega)] at d4; exact d4
        clear h4
        go_enter Tryd.func49, Tryd.ntmps49
        go_wp2_with fail
        go_ret
        exact ⟨rfl, rfl⟩
      · have d4 : (n.tmod 16 == 0) = false := by simp [h4]
        rw [show decide (16 ≤ n ∧ n ≤ 4096 ∧ n.tmod 16 = 0) = false from decide_eq_false (by omega)]
        have d5 : (n % 16 == 0) = false := by rw [Int.tmod_eq_emod_of_nonneg (by omega)] at d4; exact d4
        clear h4
        go_enter Tryd.func49, Tryd.ntmps49
        go_wp2_with fail
        go_ret
        exact ⟨rfl, rfl⟩
    · have d3 : decide (n ≤ 4096) = false := decide_eq_false h3
      rw [show decide (16 ≤ n ∧ n ≤ 4096 ∧ n.tmod 16 = 0) = false from decide_eq_false (fun h => h3 h.2.1)]
      go_enter Tryd.func49, Tryd.ntmps49
      go_wp2_with fail
      go_ret
      exact ⟨rfl, rfl⟩
  · have d2 : decide (16 ≤ n) = false := decide_eq_false h2
    rw [show decide (16 ≤ n ∧ n ≤ 4096 ∧ n.tmod 16 = 0) = false from decide_eq_false (fun h => h2 h.1)]
    go_enter Tryd.func49, Tryd.ntmps49
    go_wp2_with fail
    go_ret
    exact ⟨rfl, rfl⟩

def nmRel (p : UInt8 → Bool) (l : List UInt8) (v : Value) : Prop := ∃ k : Nat, k ≤ l.length ∧ v = .int .i64 (k : Int) ∧ (l.take k).all p = true
set_option maxHeartbeats 2000000 in
theorem pName (w : World) (l : List UInt8) (hl : l.length ≤ 9223372036854775807) : Calls Tryd.prog 48 #[.string (strOf l)] w fun e w' => e = .returned (.bool (nameB l)) ∧ w = w' := by
  have hsz := strOf_size l
  unfold nameB
  by_cases h1 : 1 ≤ l.length
  · have d1 : decide ((l.length : Int) < 1) = false := decide_eq_false (by omega)
    by_cases h8 : l.length ≤ 8
    · have d2 : decide ((8 : Int) < (l.length : Int)) = false := decide_eq_false (by omega)
      rw [show decide (1 ≤ l.length ∧ l.length ≤ 8) = true from decide_eq_true ⟨h1, h8⟩, Bool.true_and]
      go_enter Tryd.func48, Tryd.ntmps48
      go_wp2_with fail
      go_loop [14] (nmRel letterB l) (fun i => l.length - (intOf i).toNat)
      case atStart => exact ⟨0, by omega, rfl, by simp⟩
      case round =>
        obtain ⟨k, hk, rfl, hall⟩ := hrel
        have HA := Lib.hid hall
        clear hall
        by_cases hlt : k < l.length
        · have hc := getE hlt
          have d3 : decide ((k : Int) < (l.length : Int)) = true := decide_eq_true (by omega)
          have hx := run_index_strOf (P := Tryd.prog) (t := 9) l .i64 k _ Tryd.underlying9 hc
          generalize hcc : l[k] = c at hc hx
          have HC := Lib.hid hc
          clear hc hcc
          cases hb : letterB c with
          | true =>
            have HB := Lib.hid hb
            clear hb
            go_wp2_with fail
            refine (pLetter w c).mono ?_
            rintro e w' ⟨rfl, rfl⟩
            rw [HB.out]
            go_wp2_with fail
            exact ⟨⟨k + 1, by omega, by go_num, all_snoc HA.out HC.out HB.out⟩, by simp [intOf]; omega⟩
          | false =>
            have HB := Lib.hid hb
            clear hb
            go_wp2_with fail
            refine (pLetter w c).mono ?_
            rintro e w' ⟨rfl, rfl⟩
            rw [HB.out]
            go_wp2_with fail
            go_ret
            exact ⟨by rw [all_not HC.out HB.out]; rfl, rfl⟩
        · obtain rfl : k = l.length := by omega
          have d3 : decide ((l.length : Int) < (l.length : Int)) = false := decide_eq_false (by omega)
          go_wp2_with fail
          go_ret
          exact ⟨by rw [all_end HA.out]; rfl, rfl⟩
    · have d2 : decide ((8 : Int) < (l.length : Int)) = true := decide_eq_true (by omega)
      rw [show decide (1 ≤ l.length ∧ l.length ≤ 8) = false from decide_eq_false (by omega), Bool.false_and]
      go_enter Tryd.func48, Tryd.ntmps48
      go_wp2_with fail
      go_ret
      exact ⟨rfl, rfl⟩
  · have d1 : decide ((l.length : Int) < 1) = true := decide_eq_true (by omega)
    rw [show decide (1 ≤ l.length ∧ l.length ≤ 8) = false from decide_eq_false (by omega), Bool.false_and]
    go_enter Tryd.func48, Tryd.ntmps48
    go_wp2_with fail
    go_ret
    exact ⟨rfl, rfl⟩
def pathC (c : UInt8) : Bool := letterB c || c == 46 || c == 47
theorem pathC_46 {c : UInt8} (h : c.toNat = 46) : pathC c = true := by
  obtain rfl : c = 46 := UInt8.toNat_inj.1 h
  decide
theorem pathC_47 {c : UInt8} (h : c.toNat = 47) : pathC c = true := by
  obtain rfl : c = 47 := UInt8.toNat_inj.1 h
  decide
theorem pathC_not {c : UInt8} (h : letterB c = false) (h1 : ¬ c.toNat = 46) (h2 : ¬ c.toNat = 47) : pathC c = false := by
  unfold pathC
  rw [h]
  simp only [Bool.false_or, Bool.or_eq_false_iff, beq_eq_false_iff_ne]
  exact ⟨fun e => h1 (by rw [e]; rfl), fun e => h2 (by rw [e]; rfl)⟩
set_option maxHeartbeats 2000000 in
theorem pPath (w : World) (l : List UInt8) (hl : l.length ≤ 9223372036854775807) : Calls Tryd.prog 30 #[.string (strOf l)] w fun e w' => e = .returned (.bool (pathB l)) ∧ w = w' := by
  have hsz := strOf_size l
  unfold pathB
  by_cases h1 : 1 ≤ l.length
  · have d1 : decide ((l.length : Int) < 1) = false := decide_eq_false (by omega)
    by_cases h60 : l.length ≤ 60
    · have d2 : decide ((60 : Int) < (l.length : Int)) = false := decide_eq_false (by omega)
      rw [show decide (1 ≤ l.length ∧ l.length ≤ 60) = true from decide_eq_true ⟨h1, h60⟩, Bool.true_and]
      go_enter Tryd.func30, Tryd.ntmps30
      go_wp2_with fail
      go_loop [14] (nmRel pathC l) (fun i => l.length - (intOf i).toNat)
      case atStart => exact ⟨0, by omega, rfl, by simp⟩
      case round =>
        obtain ⟨k, hk, rfl, hall⟩ := hrel
        have HA := Lib.hid hall
        clear hall
        by_cases hlt : k < l.length
        · have hc := getE hlt
          have d3 : decide ((k : Int) < (l.length : Int)) = true := decide_eq_true (by omega)
          have hx := run_index_strOf (P := Tryd.prog) (t := 9) l .i64 k _ Tryd.underlying9 hc
          generalize hcc : l[k] = c at hc hx
          have HC := Lib.hid hc
          clear hc hcc
          have hct := c.toNat_lt
          cases hb : letterB c with
          | true =>
            have HB := Lib.hid hb
            clear hb
            go_wp2_with fail
            refine (pLetter w c).mono ?_
            rintro e w' ⟨rfl, rfl⟩
            rw [HB.out]
            go_wp2_with fail
            exact ⟨⟨k + 1, by omega, by go_num, all_snoc HA.out HC.out (by unfold pathC; rw [HB.out]; rfl)⟩, by simp [intOf]; omega⟩
          | false =>
            have HB := Lib.hid hb
            clear hb
            by_cases h46 : c.toNat = 46
            · have d4 : ((c.toNat : Int) == 46) = true := by rw [h46]; rfl
              have d5 : ((c.toNat : Int) != 46) = false := by rw [h46]; rfl
              have H46 := Lib.hid h46
              clear h46
              go_wp2_with fail
              refine (pLetter w c).mono ?_
              rintro e w' ⟨rfl, rfl⟩
              rw [HB.out]
              go_wp2_with fail
              exact ⟨⟨k + 1, by omega, by go_num, all_snoc HA.out HC.out (pathC_46 H46.out)⟩, by simp [intOf]; omega⟩
            · have d4 : ((c.toNat : Int) == 46) = false := by simp; omega
              have d5 : ((c.toNat : Int) != 46) = true := by simp; omega
              by_cases h47 : c.toNat = 47
              · have d6 : ((c.toNat : Int) == 47) = true := by rw [h47]; rfl
                have d7 : ((c.toNat : Int) != 47) = false := by rw [h47]; rfl
                have H47 := Lib.hid h47
                clear h46 h47
                go_wp2_with fail
                refine (pLetter w c).mono ?_
                rintro e w' ⟨rfl, rfl⟩
                rw [HB.out]
                go_wp2_with fail
                exact ⟨⟨k + 1, by omega, by go_num, all_snoc HA.out HC.out (pathC_47 H47.out)⟩, by simp [intOf]; omega⟩
              · have d6 : ((c.toNat : Int) == 47) = false := by simp; omega
                have d7 : ((c.toNat : Int) != 47) = true := by simp; omega
                have HN := Lib.hid (pathC_not HB.out h46 h47)
                clear h46 h47
                go_wp2_with fail
                refine (pLetter w c).mono ?_
                rintro e w' ⟨rfl, rfl⟩
                rw [HB.out]
                go_wp2_with fail
                go_ret
                exact ⟨by rw [show (fun c => letterB c || c == 46 || c == 47) = pathC from rfl, all_not HC.out HN.out]; rfl, rfl⟩
        · obtain rfl : k = l.length := by omega
          have d3 : decide ((l.length : Int) < (l.length : Int)) = false := decide_eq_false (by omega)
          go_wp2_with fail
          go_ret
          exact ⟨by rw [show (fun c => letterB c || c == 46 || c == 47) = pathC from rfl, all_end HA.out]; rfl, rfl⟩
    · have d2 : decide ((60 : Int) < (l.length : Int)) = true := decide_eq_true (by omega)
      rw [show decide (1 ≤ l.length ∧ l.length ≤ 60) = false from decide_eq_false (by omega), Bool.false_and]
      go_enter Tryd.func30, Tryd.ntmps30
      go_wp2_with fail
      go_ret
      exact ⟨rfl, rfl⟩
  · have d1 : decide ((l.length : Int) < 1) = true := decide_eq_true (by omega)
    rw [show decide (1 ≤ l.length ∧ l.length ≤ 60) = false from decide_eq_false (by omega), Bool.false_and]
    go_enter Tryd.func30, Tryd.ntmps30
    go_wp2_with fail
    go_ret
    exact ⟨rfl, rfl⟩
end Go.Proofs.YtkobngipbhjfjaaDoor
