/-
  kinoralaw18.ManifestSame, walked.
-/
import Derived.Test.YtkobngipbhjfjaaDoorMfBack
import Derived.Test.YtkobngipbhjfjaaDoorMfRSame
namespace Go.Proofs.YtkobngipbhjfjaaDoor
open Go.RowKit

theorem text_same {a b : Mf} (ha : rightB a = true) (hb : rightB b = true) : ((strOf (writeL a)).toList == (strOf (writeL b)).toList) = decide (a = b) := by
  rw [str_beq]
  refine decide_eq_decide.2 ⟨fun h => ?_, fun h => by rw [h]⟩
  have h1 := parse_write numP_spells ha
  rw [h, parse_write numP_spells hb] at h1
  exact (Option.some.inj h1).symm
theorem same_comm (a b : Mf) : decide (b = a) = decide (a = b) := decide_eq_decide.2 ⟨Eq.symm, Eq.symm⟩
set_option maxRecDepth 100000 in
set_option maxHeartbeats 8000000 in
theorem same_walk (w : World) (a b : Mf) (A A' : Option Addr) (n c n' c' : Nat) (hx : MfIn w A n a) (hy : MfIn w A' n' b) (he : Env w) : Calls Tryd.prog 6 #[.agg (mfV a A n c).toArray, .agg (mfV b A' n' c').toArray] w (BackPost w) := by
  have mA : Mod (fun _ => False) w ((w.alloc (.cells (mfV a A n c).toArray 24)).alloc (.cells (mfV b A' n' c').toArray 24)) := ((Mod.refl _ w).alloc _).alloc _
  have hb0 : Blk ((w.alloc (.cells (mfV a A n c).toArray 24)).alloc (.cells (mfV b A' n' c').toArray 24)) w.heap.size 24 (mfV a A n c).toArray := (Blk.new w 24 _).alloc _
  have hb1 : Blk ((w.alloc (.cells (mfV a A n c).toArray 24)).alloc (.cells (mfV b A' n' c').toArray 24)) (w.heap.size + 1) 24 (mfV b A' n' c').toArray := by
    have := Blk.new (w.alloc (.cells (mfV a A n c).toArray 24)) 24 (mfV b A' n' c').toArray
    rwa [show (w.alloc (.cells (mfV a A n c).toArray 24)).heap.size = w.heap.size + 1 from by simp] at this
  obtain ⟨d, hd⟩ : ∃ d, d = decide (a = b) := ⟨_, rfl⟩
  have H := Lib.hid (And.intro hx (And.intro hy (And.intro he (And.intro mA (And.intro hb0 hb1)))))
  have HD := Lib.hid hd
  clear hx hy he mA hb0 hb1 hd
  unfold mfV at H ⊢
  go_enter Tryd.func6, Tryd.ntmps6
  go_wp2_with fail
  refine (pFits _ a A n c (H.out.1.quiet H.out.2.2.2.1)).mono ?_
  rintro e w1 ⟨p, rfl, hm1⟩
  have c1 := (H.out.2.2.2.2.2.keep hm1 (fun h => h)).cell
  have H1 := Lib.hid (H.out.2.2.2.1.trans hm1)
  have K1 := Lib.hid hm1
  clear hm1
  go_wp2_with fail
  refine (pFits _ b A' n' c' (H.out.2.1.quiet H1.out)).mono ?_
  rintro e w2 ⟨q, rfl, hm2⟩
  have H2 := Lib.hid (H1.out.trans hm2)
  have K2 := Lib.hid (K1.out.trans hm2)
  clear hm2 c1
  cases p with
  | false =>
    go_wp2_with fail
    refine (pAlive _ (H.out.2.2.1.quiet H2.out)).mono ?_
    rintro e w3 ⟨rfl, hm3⟩
    have H3 := Lib.hid (H2.out.trans hm3)
    clear hm3
    go_wp2_with fail
    go_ret
    exact ⟨rfl, H3.out⟩
  | true =>
    cases q with
    | false =>
      go_wp2_with fail
      refine (pAlive _ (H.out.2.2.1.quiet H2.out)).mono ?_
      rintro e w3 ⟨rfl, hm3⟩
      have H3 := Lib.hid (H2.out.trans hm3)
      clear hm3
      go_wp2_with fail
      go_ret
      exact ⟨rfl, H3.out⟩
    | true =>
      have a2 := (H.out.2.2.2.2.1.keep K2.out (fun h => h)).cell
      have b2 := (H.out.2.2.2.2.2.keep K2.out (fun h => h)).cell
      go_wp2_with fail
      refine (pSame _ a b A A' n c n' c' (H.out.1.quiet H2.out) (H.out.2.1.quiet H2.out)).mono ?_
      rintro e w3 ⟨rfl, hm3⟩
      rw [← HD.out]
      have H3 := Lib.hid (H2.out.trans hm3)
      have K3 := Lib.hid (K2.out.trans hm3)
      clear hm3 a2 b2
      have a3 := (H.out.2.2.2.2.1.keep K3.out (fun h => h)).cell
      go_wp2_with fail
      refine (pWrite _ a A n c (H.out.1.quiet H3.out) (H.out.2.2.1.quiet H3.out)).mono ?_
      rintro e w4 ⟨rfl, hm4⟩
      have H4 := Lib.hid (H3.out.trans hm4)
      have K4 := Lib.hid (K3.out.trans hm4)
      clear hm4 a3
      obtain ⟨sa, ka, hwa, hka⟩ : ∃ sa ka, writeOut a = #[.string (strOf sa), .int .i64 ka] ∧ ((ka = 0 ∧ rightB a = true ∧ sa = writeL a) ∨ ka = 181) := by
        unfold writeOut
        by_cases hr : rightB a = true
        · rw [if_pos hr]
          exact ⟨_, _, rfl, .inl ⟨rfl, hr, rfl⟩⟩
        · rw [if_neg hr]
          exact ⟨_, _, rfl, .inr rfl⟩
      rw [hwa]
      have HA := Lib.hid hka
      clear hwa hka
      have b4 := (H.out.2.2.2.2.2.keep K4.out (fun h => h)).cell
      go_wp2_with fail
      refine (pWrite _ b A' n' c' (H.out.2.1.quiet H4.out) (H.out.2.2.1.quiet H4.out)).mono ?_
      rintro e w5 ⟨rfl, hm5⟩
      have H5 := Lib.hid (H4.out.trans hm5)
      have K5 := Lib.hid (K4.out.trans hm5)
      clear hm5 b4
      obtain ⟨sb, kb, hwb, hkb⟩ : ∃ sb kb, writeOut b = #[.string (strOf sb), .int .i64 kb] ∧ ((kb = 0 ∧ rightB b = true ∧ sb = writeL b) ∨ kb = 181) := by
        unfold writeOut
        by_cases hr : rightB b = true
        · rw [if_pos hr]
          exact ⟨_, _, rfl, .inl ⟨rfl, hr, rfl⟩⟩
        · rw [if_neg hr]
          exact ⟨_, _, rfl, .inr rfl⟩
      rw [hwb]
      have HB := Lib.hid hkb
      clear hwb hkb
      go_wp2_with fail
      refine (pAlive _ (H.out.2.2.1.quiet H5.out)).mono ?_
      rintro e w6 ⟨rfl, hm6⟩
      have H6 := Lib.hid (H5.out.trans hm6)
      have K6 := Lib.hid (K5.out.trans hm6)
      clear hm6
      have a6 := (H.out.2.2.2.2.1.keep K6.out (fun h => h)).cell
      have b6 := (H.out.2.2.2.2.2.keep K6.out (fun h => h)).cell
      go_wp2_with fail
      refine (rSame _ a b A A' n c n' c' (H.out.1.quiet H6.out) (H.out.2.1.quiet H6.out)).mono ?_
      rintro e w7 ⟨rfl, hm7⟩
      rw [← HD.out]
      have H7 := Lib.hid (H6.out.trans hm7)
      have K7 := Lib.hid (K6.out.trans hm7)
      clear hm7 a6 b6
      have a7 := (H.out.2.2.2.2.1.keep K7.out (fun h => h)).cell
      have b7 := (H.out.2.2.2.2.2.keep K7.out (fun h => h)).cell
      go_wp2_with fail
      refine (pSame _ b a A' A n' c' n c (H.out.2.1.quiet H7.out) (H.out.1.quiet H7.out)).mono ?_
      rintro e w8 ⟨rfl, hm8⟩
      rw [same_comm a b, ← HD.out]
      have H8 := Lib.hid (H7.out.trans hm8)
      have K8 := Lib.hid (K7.out.trans hm8)
      clear hm8 a7 b7
      have a8 := (H.out.2.2.2.2.1.keep K8.out (fun h => h)).cell
      go_wp2_with fail
      refine (pSame _ a a A A n c n c (H.out.1.quiet H8.out) (H.out.1.quiet H8.out)).mono ?_
      rintro e w9 ⟨rfl, hm9⟩
      rw [decide_eq_true (rfl : a = a)]
      have H9 := Lib.hid (H8.out.trans hm9)
      clear hm9 a8
      rcases HA.out with ⟨rfl, hra, rfl⟩ | rfl
      · rcases HB.out with ⟨rfl, hrb, rfl⟩ | rfl
        · have hts := text_same hra hrb
          rw [← HD.out] at hts
          clear hra hrb
          go_wp2_with fail
          go_ret
          exact ⟨rfl, H9.out⟩
        · clear hra
          go_wp2_with fail
          go_ret
          exact ⟨rfl, H9.out⟩
      · go_wp2_with fail
        go_ret
        exact ⟨rfl, H9.out⟩
end Go.Proofs.YtkobngipbhjfjaaDoor
