/-
  manifest.read's closure: a number, and whether it was one.
-/
import Derived.Test.YtkobngipbhjfjaaDoorMfEnv
namespace Go.Proofs.YtkobngipbhjfjaaDoor
open Go.RowKit

def R1Post (w : World) (okb : Nat) (b : Bool) (s : Str) (e : Ending) (w' : World) : Prop :=
  ∃ x, I64 x ∧ e = .returned (.int .i64 x) ∧ (∀ v, numP s = some v → x = v) ∧ Blk w' okb 4 #[.bool (b && (numP s).isSome)] ∧ Mod (· = okb) w w'
set_option maxHeartbeats 2000000 in
theorem pRead1 (w : World) (okb : Nat) (b : Bool) (s : Str) (hs : s.length ≤ 1048576) (he : Env w) (hb : Blk w okb 4 #[.bool b]) : Calls Tryd.prog 54 #[.string (strOf s), .pointer (some ⟨okb, 0, none⟩)] w (R1Post w okb b s) := by
  have H := Lib.hid (And.intro he hb)
  clear he hb
  go_enter Tryd.func54, Tryd.ntmps54
  go_wp2_with fail
  refine (cAtoi _ s hs H.out.1).mono ?_
  rintro e w1 ⟨hm, h⟩
  have hb1 := H.out.2.keep hm (fun h => h)
  obtain ⟨c1, f1⟩ := hb1.both
  have hM : Mod (· = okb) w w1 := hm.mono (fun _ h => h.elim)
  rcases h with ⟨v, hv, hi, rfl⟩ | ⟨hv, x, t, q, hi, rfl⟩
  · obtain ⟨i1, i2⟩ := hi
    have HV := Lib.hid (And.intro hv (And.intro hb1 hM))
    clear hv hb1 hM hm
    cases b with
    | true =>
      go_wp2_with fail
      go_ret
      refine ⟨v, ⟨i1, i2⟩, rfl, fun u hu => ?_, ?_, ?_⟩
      · rw [HV.out.1] at hu
        injection hu
      · rw [HV.out.1]
        exact HV.out.2.1.put rfl
      · exact HV.out.2.2.setCell (p := ⟨okb, 0, none⟩) (.inl rfl) _
    | false =>
      go_wp2_with fail
      go_ret
      refine ⟨v, ⟨i1, i2⟩, rfl, fun u hu => ?_, ?_, ?_⟩
      · rw [HV.out.1] at hu
        injection hu
      · rw [HV.out.1]
        exact HV.out.2.1.put rfl
      · exact HV.out.2.2.setCell (p := ⟨okb, 0, none⟩) (.inl rfl) _
  · obtain ⟨i1, i2⟩ := hi
    have HV := Lib.hid (And.intro hv (And.intro hb1 hM))
    clear hv hb1 hM hm
    cases b with
    | true =>
      go_wp2_with fail
      go_ret
      refine ⟨x, ⟨i1, i2⟩, rfl, fun u hu => ?_, ?_, ?_⟩
      · rw [HV.out.1] at hu
        cases hu
      · rw [HV.out.1]
        exact HV.out.2.1.put rfl
      · exact HV.out.2.2.setCell (p := ⟨okb, 0, none⟩) (.inl rfl) _
    | false =>
      go_wp2_with fail
      go_ret
      refine ⟨x, ⟨i1, i2⟩, rfl, fun u hu => ?_, ?_, ?_⟩
      · rw [HV.out.1] at hu
        cases hu
      · rw [HV.out.1]
        exact HV.out.2.1.put rfl
      · exact HV.out.2.2.setCell (p := ⟨okb, 0, none⟩) (.inl rfl) _
end Go.Proofs.YtkobngipbhjfjaaDoor
