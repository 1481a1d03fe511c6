/-
  kinoralaw22.PolicyNil returns true for every input, and the input reads behind the call as before: the walk.
-/
import Derived.Test.YtaflmnnnmbklfaaPolAlive
namespace Go.Proofs.Ytaflmnnnmbklfaa
open Go.RowKit

theorem pick_nil (rate : Int) (w : World) : Calls Try.prog 23 #[.slice none 0 0, .int .i64 rate, .int .i64 0, .int .i64 0] w fun e w' => e = .returned (.int .i64 (-1)) ∧ w = w' := by
  have h := pick_any none 0 0 [] rate 0 0 w ⟨rfl, fun h => absurd h (by omega)⟩ (by omega)
  rwa [show pick [] rate 0 0 = -1 by unfold pick; rw [if_pos (.inr (.inr (show (-1 : Int) < 0 by decide)))]; rfl] at h

set_option maxHeartbeats 1000000 in
theorem policyNil_walk (b t s : Int) (w : World) :
    Calls Try.prog 7 #[.agg #[.int .i64 b, .int .i64 t], .int .i64 s] w fun e w' => e = .returned (.bool true) ∧ Below w.heap.size w w' := by
  go_enter Try.func7, Try.ntmps7
  go_wp2_with fail
  refine (alive22 _).mono ?_
  rintro e w1 ⟨rfl, hm1⟩
  have hb1 := (Blk.new w 32 #[.int .i64 b, .int .i64 t]).keep hm1 (fun h => h)
  obtain ⟨hc, hf⟩ := hb1.both
  have HM : Hid (Mod (fun _ => False) w w1) := ((Mod.refl _ _).alloc _).trans hm1
  clear hm1 hb1
  go_wp2_with fail
  refine (mtrAdd_nil _ _ _).mono ?_
  rintro e w2 ⟨rfl, rfl⟩
  go_wp2_with fail
  refine (mtrRate_nil _ _).mono ?_
  rintro e w2 ⟨rfl, rfl⟩
  go_wp2_with fail
  refine (scrPut_nil _ _).mono ?_
  rintro e w2 ⟨rfl, n2, rfl⟩
  go_wp2_with fail
  refine (scrStep_nil _).mono ?_
  rintro e w2 ⟨rfl, n3, rfl⟩
  go_wp2_with fail
  refine (scrBuffered_nil _).mono ?_
  rintro e w2 ⟨rfl, rfl⟩
  go_wp2_with fail
  refine (scrShown_nil _).mono ?_
  rintro e w2 ⟨rfl, rfl⟩
  go_wp2_with fail
  refine (scrDone_nil _).mono ?_
  rintro e w2 ⟨rfl, n4, rfl⟩
  go_wp2_with fail
  refine (pick_nil _ _).mono ?_
  rintro e w2 ⟨rfl, rfl⟩
  go_wp2_with fail
  go_ret
  exact ⟨rfl, ((HM.out.drewN _).below (fun _ h => h.elim))⟩
end Go.Proofs.Ytaflmnnnmbklfaa
