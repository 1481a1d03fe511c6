/-
  The reference's Name, Path, side, piece, walked.
-/
import Derived.Test.YtkobngipbhjfjaaDoorMfSmall
import Derived.Test.YtkobngipbhjfjaaDoorMfRow
import Derived.Test.YtkobngipbhjfjaaDoorMfOk
import Derived.Deep.DeepCutAuto
namespace Go.Proofs.YtkobngipbhjfjaaDoor
open Go.RowKit

theorem letter_dec (c : UInt8) : letterB c = !((decide ((c.toNat : Int) < 97) || decide ((122 : Int) < (c.toNat : Int))) && (decide ((c.toNat : Int) < 48) || decide ((57 : Int) < (c.toNat : Int)))) := by
  unfold letterB
  rw [Bool.eq_iff_iff]
  simp only [Bool.or_eq_true, decide_eq_true_eq, Bool.not_eq_true', Bool.and_eq_false_iff, Bool.or_eq_false_iff, decide_eq_false_iff_not]
  omega
theorem nameB_no {l : List UInt8} (h : l.all letterB = false) : nameB l = false := by unfold nameB; rw [h, Bool.and_false]
theorem pathB_no {l : List UInt8} (h : l.all pathC = false) : pathB l = false := by
  unfold pathB
  rw [show (fun c => letterB c || c == 46 || c == 47) = pathC from rfl, h, Bool.and_false]
theorem nameB_yes {l : List UInt8} (h : l.all letterB = true) : nameB l = decide (1 ≤ l.length ∧ l.length ≤ 8) := by unfold nameB; rw [h, Bool.and_true]
theorem pathB_yes {l : List UInt8} (h : l.all pathC = true) : pathB l = decide (1 ≤ l.length ∧ l.length ≤ 60) := by
  unfold pathB
  rw [show (fun c => letterB c || c == 46 || c == 47) = pathC from rfl, h, Bool.and_true]
set_option maxHeartbeats 4000000 in
theorem rName (w : World) (l : List UInt8) (hl : l.length ≤ 9223372036854775807) : Calls Tryd.prog 50 #[.string (strOf l)] w fun e w' => e = .returned (.bool (nameB l)) ∧ w = w' := by
  have hsz := strOf_size l
  go_enter Tryd.func50, Tryd.ntmps50
  go_wp2_with fail
  go_loop [3] (nmRel letterB l) (fun i => l.length - (intOf i).toNat)
  case atStart => exact ⟨0, by omega, rfl, by simp⟩
  case round =>
    obtain ⟨k, hk, rfl, hall⟩ := hrel
    have HA := Lib.hid hall
    clear hall
    by_cases hlt : k < l.length
    · have hc := getE hlt
      have d0 : decide ((k : Int) < (l.length : Int)) = true := decide_eq_true (by omega)
      have hx := run_index_strOf (P := Tryd.prog) (t := 9) l .i64 k _ Tryd.underlying9 hc
      generalize hcc : l[k] = c at hc hx
      have hct := c.toNat_lt
      have hld := letter_dec c
      have HC := Lib.hid (And.intro hc hld)
      clear hc hcc hld
      cases d1 : decide ((c.toNat : Int) < 97) <;> cases d2 : decide ((122 : Int) < (c.toNat : Int)) <;> cases d3 : decide ((c.toNat : Int) < 48) <;> cases d4 : decide ((57 : Int) < (c.toNat : Int)) <;> (
        have HB := HC.out.2
        rw [d1, d2, d3, d4] at HB
        simp only [Bool.or_true, Bool.or_false, Bool.and_true, Bool.and_false, Bool.not_true, Bool.not_false] at HB
        have HD := Lib.hid HB
        clear HB
        go_wp2_with fail
        first
        | exact ⟨⟨k + 1, by omega, by go_num, all_snoc HA.out HC.out.1 HD.out⟩, by simp [intOf]; omega⟩
        | (go_ret
           exact ⟨by rw [nameB_no (all_not HC.out.1 HD.out)]; rfl, rfl⟩))
    · obtain rfl : k = l.length := by omega
      have d0 : decide ((l.length : Int) < (l.length : Int)) = false := decide_eq_false (by omega)
      have HY := Lib.hid (nameB_yes (all_end HA.out))
      cases d1 : decide ((1 : Int) ≤ (l.length : Int)) with
      | false =>
        go_wp2_with fail
        go_ret
        exact ⟨by rw [HY.out, show decide (1 ≤ l.length ∧ l.length ≤ 8) = false from decide_eq_false (by have := of_decide_eq_false d1; omega)]; rfl, rfl⟩
      | true =>
        cases d2 : decide ((l.length : Int) ≤ 8) with
        | false =>
          go_wp2_with fail
          go_ret
          exact ⟨by rw [HY.out, show decide (1 ≤ l.length ∧ l.length ≤ 8) = false from decide_eq_false (by have := of_decide_eq_false d2; omega)]; rfl, rfl⟩
        | true =>
          go_wp2_with fail
          go_ret
          exact ⟨by rw [HY.out, show decide (1 ≤ l.length ∧ l.length ≤ 8) = true from decide_eq_true (by have := of_decide_eq_true d1; have := of_decide_eq_true d2; omega)]; rfl, rfl⟩
theorem pathC_of {c : UInt8} {b d e : Bool} (h : letterB c = b) (h1 : ((c.toNat : Int) != 46) = d) (h2 : ((c.toNat : Int) != 47) = e) : pathC c = (b || !d || !e) := by
  have g1 : (c == 46) = !d := by
    rw [← h1, Bool.eq_iff_iff]
    simp only [beq_iff_eq, Bool.not_eq_true', bne_eq_false_iff_eq]
    exact ⟨fun h => by rw [h]; rfl, fun h => UInt8.toNat_inj.1 (by show c.toNat = 46; omega)⟩
  have g2 : (c == 47) = !e := by
    rw [← h2, Bool.eq_iff_iff]
    simp only [beq_iff_eq, Bool.not_eq_true', bne_eq_false_iff_eq]
    exact ⟨fun h => by rw [h]; rfl, fun h => UInt8.toNat_inj.1 (by show c.toNat = 47; omega)⟩
  unfold pathC
  rw [h, g1, g2]
set_option maxHeartbeats 8000000 in
theorem rPath (w : World) (l : List UInt8) (hl : l.length ≤ 9223372036854775807) : Calls Tryd.prog 60 #[.string (strOf l)] w fun e w' => e = .returned (.bool (pathB l)) ∧ w = w' := by
  have hsz := strOf_size l
  go_enter Tryd.func60, Tryd.ntmps60
  go_wp2_with fail
  go_loop [3] (nmRel pathC l) (fun i => l.length - (intOf i).toNat)
  case atStart => exact ⟨0, by omega, rfl, by simp⟩
  case round =>
    obtain ⟨k, hk, rfl, hall⟩ := hrel
    have HA := Lib.hid hall
    clear hall
    by_cases hlt : k < l.length
    · have hc := getE hlt
      have d0 : decide ((k : Int) < (l.length : Int)) = true := decide_eq_true (by omega)
      have hx := run_index_strOf (P := Tryd.prog) (t := 9) l .i64 k _ Tryd.underlying9 hc
      generalize hcc : l[k] = c at hc hx
      have hct := c.toNat_lt
      have hld := letter_dec c
      have HC := Lib.hid (And.intro hc hld)
      clear hc hcc hld
      cases d1 : decide ((c.toNat : Int) < 97) <;> cases d2 : decide ((122 : Int) < (c.toNat : Int)) <;> cases d3 : decide ((c.toNat : Int) < 48) <;> cases d4 : decide ((57 : Int) < (c.toNat : Int)) <;> (
        have HB := HC.out.2
        rw [d1, d2, d3, d4] at HB
        simp only [Bool.or_true, Bool.or_false, Bool.and_true, Bool.and_false, Bool.not_true, Bool.not_false] at HB
        have HD := Lib.hid HB
        first
        | (have HE : letterB c = true := HB
           have HP := Lib.hid (show pathC c = true by unfold pathC; rw [HE]; rfl)
           clear HB HE
           go_wp2_with fail
           exact ⟨⟨k + 1, by omega, by go_num, all_snoc HA.out HC.out.1 HP.out⟩, by simp [intOf]; omega⟩)
        | (clear HB
           cases d5 : ((c.toNat : Int) != 46) <;> cases d6 : ((c.toNat : Int) != 47) <;> (
             have HP := Lib.hid (pathC_of HD.out d5 d6)
             go_wp2_with fail
             first
             | exact ⟨⟨k + 1, by omega, by go_num, all_snoc HA.out HC.out.1 HP.out⟩, by simp [intOf]; omega⟩
             | (go_ret
                exact ⟨by rw [pathB_no (all_not HC.out.1 HP.out)]; rfl, rfl⟩))))
    · obtain rfl : k = l.length := by omega
      have d0 : decide ((l.length : Int) < (l.length : Int)) = false := decide_eq_false (by omega)
      have HY := Lib.hid (pathB_yes (all_end HA.out))
      cases d1 : decide ((1 : Int) ≤ (l.length : Int)) with
      | false =>
        go_wp2_with fail
        go_ret
        exact ⟨by rw [HY.out, show decide (1 ≤ l.length ∧ l.length ≤ 60) = false from decide_eq_false (by have := of_decide_eq_false d1; omega)]; rfl, rfl⟩
      | true =>
        cases d2 : decide ((l.length : Int) ≤ 60) with
        | false =>
          go_wp2_with fail
          go_ret
          exact ⟨by rw [HY.out, show decide (1 ≤ l.length ∧ l.length ≤ 60) = false from decide_eq_false (by have := of_decide_eq_false d2; omega)]; rfl, rfl⟩
        | true =>
          go_wp2_with fail
          go_ret
          exact ⟨by rw [HY.out, show decide (1 ≤ l.length ∧ l.length ≤ 60) = true from decide_eq_true (by have := of_decide_eq_true d1; have := of_decide_eq_true d2; omega)]; rfl, rfl⟩
set_option maxHeartbeats 2000000 in
theorem rSide (w : World) (n : Int) (h0 : -9223372036854775808 ≤ n) (h1 : n ≤ 9223372036854775807) : Calls Tryd.prog 51 #[.int .i64 n] w fun e w' => e = .returned (.bool (sideB n)) ∧ w = w' := by
  unfold sideB
  by_cases h2 : 16 ≤ n
  · have d2 : decide (16 ≤ n) = true := decide_eq_true h2
    by_cases h3 : n ≤ 4096
    · have d3 : decide (n ≤ 4096) = true := decide_eq_true h3
      by_cases h4 : n.tmod 16 = 0
      · have d4 : (n.tmod 16 == 0) = true := by simp [h4]
        rw [show decide (16 ≤ n ∧ n ≤ 4096 ∧ n.tmod 16 = 0) = true from decide_eq_true ⟨h2, h3, h4⟩]
        have d5 : (n % 16 == 0) = true := by rw [Int.tmod_eq_emod_of_nonneg (by omega)] at d4; exact d4
        clear h4
        go_enter Tryd.func51, Tryd.ntmps51
        go_wp2_with fail
        go_ret
        exact ⟨rfl, rfl⟩
      · have d4 : (n.tmod 16 == 0) = false := by simp [h4]
        rw [show decide (16 ≤ n ∧ n ≤ 4096 ∧ n.tmod 16 = 0) = false from decide_eq_false (by omega)]
        have d5 : (n % 16 == 0) = false := by rw [Int.tmod_eq_emod_of_nonneg (by omega)] at d4; exact d4
        clear h4
        go_enter Tryd.func51, Tryd.ntmps51
        go_wp2_with fail
        go_ret
        exact ⟨rfl, rfl⟩
    · have d3 : decide (n ≤ 4096) = false := decide_eq_false h3
      rw [show decide (16 ≤ n ∧ n ≤ 4096 ∧ n.tmod 16 = 0) = false from decide_eq_false (fun h => h3 h.2.1)]
      go_enter Tryd.func51, Tryd.ntmps51
      go_wp2_with fail
      go_ret
      exact ⟨rfl, rfl⟩
  · have d2 : decide (16 ≤ n) = false := decide_eq_false h2
    rw [show decide (16 ≤ n ∧ n ≤ 4096 ∧ n.tmod 16 = 0) = false from decide_eq_false (fun h => h2 h.1)]
    go_enter Tryd.func51, Tryd.ntmps51
    go_wp2_with fail
    go_ret
    exact ⟨rfl, rfl⟩
theorem pieceB_eq (a b : Int) (p : Pc) : pieceB a b p = (pathB p.path && decide (a ≤ p.fr) && decide (p.fr ≤ b) && decide (1 ≤ p.sz) && decide (p.sz ≤ 1048576)) := by
  unfold pieceB
  rw [Bool.eq_iff_iff]
  simp only [Bool.and_eq_true, decide_eq_true_eq]
  constructor
  · rintro ⟨⟨h1, h2, h3, h4⟩, h5⟩
    exact ⟨⟨⟨⟨h5, h1⟩, h2⟩, h3⟩, h4⟩
  · rintro ⟨⟨⟨⟨h5, h1⟩, h2⟩, h3⟩, h4⟩
    exact ⟨⟨h1, h2, h3, h4⟩, h5⟩
set_option maxHeartbeats 4000000 in
theorem rPiece (w : World) (p : Pc) (a b : Int) (hp : p.Ok) (ha : I64 a) (hb : I64 b) : Calls Tryd.prog 52 #[.agg (pcV p).toArray, .int .i64 a, .int .i64 b] w fun e w' => e = .returned (.bool (pieceB a b p)) ∧ Mod (fun _ => False) w w' := by
  obtain ⟨⟨f1, f2⟩, ⟨z1, z2⟩, hl⟩ := hp
  obtain ⟨a1, a2⟩ := ha
  obtain ⟨b1, b2⟩ := hb
  have mA : Mod (fun _ => False) w (w.alloc (.cells (pcV p).toArray 32)) := (Mod.refl _ w).alloc _
  have HM := Lib.hid mA
  clear mA
  have HE := Lib.hid (pieceB_eq a b p)
  unfold pcV at HM ⊢
  have HP := fun w => rPath w p.path hl
  generalize hpb : pathB p.path = q at HP
  rw [hpb] at HE
  have HPP := Lib.hid HP
  clear HP hpb
  go_enter Tryd.func52, Tryd.ntmps52
  go_wp2_with fail
  refine (HPP.out _).mono ?_
  rintro e w' ⟨rfl, rfl⟩
  cases q
  · go_wp2_with fail
    go_ret
    exact ⟨by rw [HE.out]; simp, HM.out⟩
  cases d1 : decide (a ≤ p.fr)
  · go_wp2_with fail
    go_ret
    exact ⟨by rw [HE.out, d1]; simp, HM.out⟩
  cases d2 : decide (p.fr ≤ b)
  · go_wp2_with fail
    go_ret
    exact ⟨by rw [HE.out, d2]; simp, HM.out⟩
  cases d3 : decide (1 ≤ p.sz)
  · go_wp2_with fail
    go_ret
    exact ⟨by rw [HE.out, d3]; simp, HM.out⟩
  cases d4 : decide (p.sz ≤ 1048576)
  · go_wp2_with fail
    go_ret
    exact ⟨by rw [HE.out, d4]; simp, HM.out⟩
  · go_wp2_with fail
    go_ret
    exact ⟨by rw [HE.out, d1, d2, d3, d4]; simp, HM.out⟩
end Go.Proofs.YtkobngipbhjfjaaDoor
