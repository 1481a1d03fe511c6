/-
  DecoderBuilds, walked.
-/
import Derived.Test.YteppnjgfebcmjaaGreatAlive13
import Derived.Test.YteppnjgfebcmjaaGreatRefBuild
namespace Go.Proofs.YteppnjgfebcmjaaGreat
open Go.RowKit

set_option maxRecDepth 100000 in
set_option maxHeartbeats 4000000 in
theorem decoderBuilds_walk (A : Option Addr) (n c : Nat) (g : List UInt8) (A2 : Option Addr) (n2 c2 : Nat) (l : List Int) (q : Int) (w : World) (hg : BytesIn w A n c g) (hl : IntsIn w A2 n2 c2 l) (hn : n ≤ 9223372036854775807) (hn2 : n2 ≤ 9223372036854775807) :
    Calls Tryz.prog 4 #[.slice A n c, .slice A2 n2 c2, .int .i64 q] w fun e w' => e = .returned (.bool true) ∧ Below w.heap.size w w' := by
  have HG := Lib.hid (And.intro hg hl)
  clear hg hl
  by_cases h : n ≤ 100 ∧ n2 ≤ 100
  · obtain ⟨h1, h2⟩ := h
    have d1 : decide (100 < n) = false := decide_eq_false (by omega)
    have d2 : decide (100 < n2) = false := decide_eq_false (by omega)
    have B1 := decBuild w A n c g A2 n2 c2 l q HG.out.1 HG.out.2 (by omega) (by omega)
    go_enter Tryz.func4, Tryz.ntmps4
    go_wp2_with fail
    refine B1.mono ?_
    clear B1
    rintro e w1 ⟨hm1, hor⟩
    have B2 := refBuild w1 A n c g A2 n2 c2 l q (HG.out.1.quiet hm1) (HG.out.2.quiet hm1) (by omega) (by omega)
    rcases hor with ⟨hnone, rfl⟩ | ⟨v, bs, hsome, rfl, hv⟩
    · have HH := Lib.hid (And.intro hm1 hnone)
      clear hm1 hnone
      go_wp2_with fail
      refine B2.mono ?_
      clear B2
      rintro e w2 ⟨hm2, ⟨hnone, rfl⟩ | ⟨v, bs, hsome, rfl, hv⟩⟩
      · have HM := Lib.hid (HH.out.1.trans hm2)
        clear hm2 hnone
        go_wp2_with fail
        refine (alive13 _).mono ?_
        rintro e w3 ⟨rfl, hm3⟩
        have HM3 := Lib.hid (HM.out.trans hm3)
        clear hm3
        have s1 := str_src w3 none 0 0 [] rfl Src.nil
        go_wp2_with fail
        go_ret
        exact ⟨rfl, HM3.out.below (fun _ h => h.elim)⟩
      · rw [HH.out.2] at hsome
        cases hsome
    · obtain ⟨A5, c5, hv5⟩ := own_shape hv
      subst hv5
      have HH := Lib.hid (And.intro hm1 (And.intro hsome hv))
      clear hm1 hsome hv
      go_wp2_with fail
      refine B2.mono ?_
      clear B2
      rintro e w2 ⟨hm2, ⟨hnone, rfl⟩ | ⟨v, bs2, hsome, rfl, hv⟩⟩
      · rw [HH.out.2.1] at hnone
        cases hnone
      · rw [HH.out.2.1] at hsome
        obtain rfl : bs = bs2 := by injection hsome
        obtain ⟨A6, c6, hv6⟩ := own_shape hv
        subst hv6
        have HM := Lib.hid (And.intro (HH.out.1.trans hm2) (And.intro (own_mod HH.out.2.2 hm2 (fun _ _ h => h)) hv))
        clear hm2 hsome hv
        go_wp2_with fail
        refine (alive13 _).mono ?_
        rintro e w3 ⟨rfl, hm3⟩
        have s1 := str_bytes (l := bs) (own_mod HM.out.2.1 hm3 (fun _ _ h => h))
        have s2 := str_bytes (l := bs) (own_mod HM.out.2.2 hm3 (fun _ _ h => h))
        have HM3 := Lib.hid (HM.out.1.trans hm3)
        clear hm3
        go_wp2_with fail
        go_ret
        exact ⟨rfl, HM3.out.below (fun _ h => h.elim)⟩
  · by_cases h1 : n ≤ 100
    · have d1 : decide (100 < n) = false := decide_eq_false (by omega)
      have h2 : 100 < n2 := by omega
      clear h
      go_enter Tryz.func4, Tryz.ntmps4
      go_wp2_with fail
      refine (alive13 _).mono ?_
      rintro e w1 ⟨rfl, hm⟩
      have HM := Lib.hid hm
      clear hm
      go_wp2_with fail
      go_ret
      exact ⟨rfl, HM.out.below (fun _ h => h.elim)⟩
    · have d1 : decide (100 < n) = true := decide_eq_true (by omega)
      clear h
      go_enter Tryz.func4, Tryz.ntmps4
      go_wp2_with fail
      refine (alive13 _).mono ?_
      rintro e w1 ⟨rfl, hm⟩
      have HM := Lib.hid hm
      clear hm
      go_wp2_with fail
      go_ret
      exact ⟨rfl, HM.out.below (fun _ h => h.elim)⟩
end Go.Proofs.YteppnjgfebcmjaaGreat
