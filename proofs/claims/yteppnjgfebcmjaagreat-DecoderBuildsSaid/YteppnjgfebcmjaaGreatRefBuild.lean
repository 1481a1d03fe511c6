/-
  The reference's Build.
-/
import Derived.Test.YteppnjgfebcmjaaGreatBackEq
import Derived.Test.YteppnjgfebcmjaaGreatRefFine
import Derived.Test.YteppnjgfebcmjaaGreatRefClip
namespace Go.Proofs.YteppnjgfebcmjaaGreat
open Go.RowKit

set_option maxRecDepth 100000 in
set_option maxHeartbeats 1000000 in
theorem refBuild (w : World) (A : Option Addr) (n c : Nat) (g : List UInt8) (A2 : Option Addr) (n2 c2 : Nat) (l : List Int) (q : Int) (hg : BytesIn w A n c g) (hl : IntsIn w A2 n2 c2 l) (hn : n ≤ 1048576) (hn2 : n2 ≤ 1048576) :
    Calls Tryz.prog 19 #[.slice A n c, .slice A2 n2 c2, .int .i64 q] w (BuildPost w g l q) := by
  obtain rfl : g.length = n := hg.1
  obtain rfl : l.length = n2 := hl.1
  by_cases h1 : g.length = 64
  · by_cases h2 : l.length = 64
    · have HG := Lib.hid hg
      have HL := Lib.hid hl
      have HBD : Hid (buildL g l q = (qFine l q).map (fun v => clipL g (backL v))) := if_pos ⟨h1, h2⟩
      rw [h1] at HG ⊢
      rw [h2] at HL ⊢
      clear hg hl
      have HH := Lib.hid (And.intro h1 h2)
      clear h1 h2
      go_enter Tryz.func19, Tryz.ntmps19
      go_wp2_with fail
      refine (rfine _ A2 64 c2 l q HL.out (by omega)).mono ?_
      rintro e w1 ⟨hm1, ⟨hq, rfl⟩ | ⟨v, hq, rfl, hv⟩⟩
      · have HQ := Lib.hid (And.intro hq hm1)
        clear hq hm1
        go_wp2_with fail
        go_ret2
        exact ⟨HQ.out.2, .inl ⟨by rw [HBD.out, HQ.out.1]; rfl, rfl⟩⟩
      · obtain ⟨hfl, hfa⟩ := qFine_all hq HH.out.2
        obtain ⟨A3, c3, hv3⟩ := own_shape hv
        subst hv3
        rw [hfl]
        have hin3 := hv.in_
        rw [hfl] at hin3
        have HV := Lib.hid (And.intro hq (And.intro hm1 (And.intro hin3 hfa)))
        clear hq hm1 hv hin3 hfa
        go_wp2_with fail
        refine (rback _ A3 c3 _ HV.out.2.2.1).mono ?_
        rintro e w2 ⟨hm2, ⟨h1, rfl⟩ | ⟨A4, c4, h1, rfl, h2⟩⟩
        · exact absurd h1 (by rw [HV.out.2.2.2]; decide)
        · have hin4 := h2
          rw [rback_eq _ hfl] at hin4
          have HV2 := Lib.hid (And.intro hin4 (HV.out.2.1.trans hm2))
          clear h1 h2 hin4 hm2
          go_wp2_with fail
          refine (rclipAll _ A 64 c g A4 c4 _ (HG.out.quiet HV2.out.2) HV2.out.1 (by omega) (by omega)).mono ?_
          rintro e w3 ⟨v3, rfl, hb3, hm3⟩
          obtain ⟨A5, c5, hv5⟩ := own_shape hb3
          subst hv5
          have HV3 := Lib.hid (And.intro hb3 (HV2.out.2.trans hm3))
          have hsz := HV2.out.2.size
          clear hb3 hm3
          go_wp2_with fail
          go_ret2
          exact ⟨HV3.out.2, .inr ⟨_, _, by rw [HBD.out, HV.out.1]; rfl, rfl, own_base HV3.out.1 hsz⟩⟩
    · have hz : ((l.length : Int) != 64) = true := by simp; omega
      have HBD : Hid (buildL g l q = none) := if_neg (fun h => h2 h.2)
      rw [h1]
      clear hg hl h1
      go_enter Tryz.func19, Tryz.ntmps19
      go_wp2_with fail
      go_ret2
      exact ⟨Mod.refl _ _, .inl ⟨HBD.out, rfl⟩⟩
  · have hz : ((g.length : Int) != 64) = true := by simp; omega
    have HBD : Hid (buildL g l q = none) := if_neg (fun h => h1 h.1)
    clear hg hl
    go_enter Tryz.func19, Tryz.ntmps19
    go_wp2_with fail
    go_ret2
    exact ⟨Mod.refl _ _, .inl ⟨HBD.out, rfl⟩⟩
end Go.Proofs.YteppnjgfebcmjaaGreat
