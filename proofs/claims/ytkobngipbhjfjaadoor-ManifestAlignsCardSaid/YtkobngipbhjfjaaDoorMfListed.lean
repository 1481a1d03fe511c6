/-
  manifest.rightListed. Written by gen_rlisted.py.
-/
import Derived.Test.YtkobngipbhjfjaaDoorMfSmall
import Derived.Test.YtkobngipbhjfjaaDoorMfRep
import Derived.Test.YtkobngipbhjfjaaDoorPlanS
import Derived.Deep.DeepCutAuto
namespace Go.Proofs.YtkobngipbhjfjaaDoor
open Go.RowKit

/-- Whether a rendition may be, but for its files. -/
def listed1B (l : Ls) (n : Nat) : Bool := nameB l.name && sideB l.w && sideB l.h && decide (1 ≤ l.bw) && decide (l.bw ≤ 1099511627776) && decide ((1 : Int) ≤ (n : Int)) && decide ((n : Int) ≤ 1024)
set_option maxHeartbeats 4000000 in
theorem pRListed (w : World) (l : Ls) (A : Option Addr) (n c : Nat) (hok : l.Ok) : Calls Tryd.prog 31 #[.agg (lsV l A n c).toArray] w fun e w' => e = .returned (.bool (listed1B l n)) ∧ Mod (fun _ => False) w w' := by
  obtain ⟨k1, ⟨k2, k3⟩, ⟨k4, k5⟩, ⟨k6, k7⟩, _, _⟩ := hok
  have c0 : ∀ w, Calls Tryd.prog 48 #[.string (strOf l.name)] w fun e w' => e = .returned (.bool (nameB l.name)) ∧ w = w' := fun w => pName w _ (by omega)
  have c1 : ∀ w, Calls Tryd.prog 49 #[.int .i64 l.w] w fun e w' => e = .returned (.bool (sideB l.w)) ∧ w = w' := fun w => pSide w _ k2 k3
  have c2 : ∀ w, Calls Tryd.prog 49 #[.int .i64 l.h] w fun e w' => e = .returned (.bool (sideB l.h)) ∧ w = w' := fun w => pSide w _ k4 k5
  have hm : Mod (fun _ => False) w (w.alloc (.cells (lsV l A n c).toArray 35)) := (Mod.refl _ w).alloc _
  have HM := Lib.hid hm
  clear hm
  unfold listed1B
  generalize nameB l.name = b0 at c0 ⊢
  generalize sideB l.w = b1 at c1 ⊢
  generalize sideB l.h = b2 at c2 ⊢
  unfold lsV at HM ⊢
  cases b0 with
  | false =>
    go_enter Tryd.func31, Tryd.ntmps31
    go_wp2_with fail
    refine (c0 _).mono ?_
    rintro e w' ⟨rfl, rfl⟩
    go_wp2_with fail
    go_ret
    exact ⟨rfl, HM.out⟩
  | true =>
    cases b1 with
    | false =>
      go_enter Tryd.func31, Tryd.ntmps31
      go_wp2_with fail
      refine (c0 _).mono ?_
      rintro e w' ⟨rfl, rfl⟩
      go_wp2_with fail
      refine (c1 _).mono ?_
      rintro e w' ⟨rfl, rfl⟩
      go_wp2_with fail
      go_ret
      exact ⟨rfl, HM.out⟩
    | true =>
      cases b2 with
      | false =>
        go_enter Tryd.func31, Tryd.ntmps31
        go_wp2_with fail
        refine (c0 _).mono ?_
        rintro e w' ⟨rfl, rfl⟩
        go_wp2_with fail
        refine (c1 _).mono ?_
        rintro e w' ⟨rfl, rfl⟩
        go_wp2_with fail
        refine (c2 _).mono ?_
        rintro e w' ⟨rfl, rfl⟩
        go_wp2_with fail
        go_ret
        exact ⟨rfl, HM.out⟩
      | true =>
        cases d3 : decide (1 ≤ l.bw) with
        | false =>
          go_enter Tryd.func31, Tryd.ntmps31
          go_wp2_with fail
          refine (c0 _).mono ?_
          rintro e w' ⟨rfl, rfl⟩
          go_wp2_with fail
          refine (c1 _).mono ?_
          rintro e w' ⟨rfl, rfl⟩
          go_wp2_with fail
          refine (c2 _).mono ?_
          rintro e w' ⟨rfl, rfl⟩
          go_wp2_with fail
          go_ret
          exact ⟨rfl, HM.out⟩
        | true =>
          cases d4 : decide (l.bw ≤ 1099511627776) with
          | false =>
            go_enter Tryd.func31, Tryd.ntmps31
            go_wp2_with fail
            refine (c0 _).mono ?_
            rintro e w' ⟨rfl, rfl⟩
            go_wp2_with fail
            refine (c1 _).mono ?_
            rintro e w' ⟨rfl, rfl⟩
            go_wp2_with fail
            refine (c2 _).mono ?_
            rintro e w' ⟨rfl, rfl⟩
            go_wp2_with fail
            go_ret
            exact ⟨rfl, HM.out⟩
          | true =>
            cases d5 : decide ((1 : Int) ≤ (n : Int)) with
            | false =>
              go_enter Tryd.func31, Tryd.ntmps31
              go_wp2_with fail
              refine (c0 _).mono ?_
              rintro e w' ⟨rfl, rfl⟩
              go_wp2_with fail
              refine (c1 _).mono ?_
              rintro e w' ⟨rfl, rfl⟩
              go_wp2_with fail
              refine (c2 _).mono ?_
              rintro e w' ⟨rfl, rfl⟩
              go_wp2_with fail
              go_ret
              exact ⟨rfl, HM.out⟩
            | true =>
              cases d6 : decide ((n : Int) ≤ 1024) with
              | false =>
                go_enter Tryd.func31, Tryd.ntmps31
                go_wp2_with fail
                refine (c0 _).mono ?_
                rintro e w' ⟨rfl, rfl⟩
                go_wp2_with fail
                refine (c1 _).mono ?_
                rintro e w' ⟨rfl, rfl⟩
                go_wp2_with fail
                refine (c2 _).mono ?_
                rintro e w' ⟨rfl, rfl⟩
                go_wp2_with fail
                go_ret
                exact ⟨rfl, HM.out⟩
              | true =>
                go_enter Tryd.func31, Tryd.ntmps31
                go_wp2_with fail
                refine (c0 _).mono ?_
                rintro e w' ⟨rfl, rfl⟩
                go_wp2_with fail
                refine (c1 _).mono ?_
                rintro e w' ⟨rfl, rfl⟩
                go_wp2_with fail
                refine (c2 _).mono ?_
                rintro e w' ⟨rfl, rfl⟩
                go_wp2_with fail
                go_ret
                exact ⟨rfl, HM.out⟩
end Go.Proofs.YtkobngipbhjfjaaDoor
