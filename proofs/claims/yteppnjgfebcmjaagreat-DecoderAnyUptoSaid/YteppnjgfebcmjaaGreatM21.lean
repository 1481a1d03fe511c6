/-
  The reference's Right. Written by gen_rright.py.
-/
import Derived.Test.YteppnjgfebcmjaaGreatM20
namespace Go.Proofs.YteppnjgfebcmjaaGreat
open Go.RowKit

set_option maxRecDepth 100000 in
set_option maxHeartbeats 4000000 in
theorem refRight (w : World) (W H G : Int) (hW : 0 ≤ W ∧ W ≤ 65536) (hH : 0 ≤ H ∧ H ≤ 65536) (hG : 0 ≤ G ∧ G ≤ 65536) : Calls Tryz.prog 49 #[.agg #[.int .i64 W, .int .i64 H, .int .i64 G]] w fun e w' => e = .returned (.bool (seqRight W H G)) ∧ Mod (fun _ => False) w w' := by
  obtain ⟨hW1, hW2⟩ := hW
  obtain ⟨hH1, hH2⟩ := hH
  obtain ⟨hG1, hG2⟩ := hG
  by_cases c0 : W % 16 = 0
  · have b0 : ((W % 16) == 0) = true := by simp [c0]
    by_cases c1 : H % 16 = 0
    · have b1 : ((H % 16) == 0) = true := by simp [c1]
      by_cases c2 : 16 ≤ W
      · have b2 : decide (16 ≤ W) = true := by simp; omega
        by_cases c3 : 16 ≤ H
        · have b3 : decide (16 ≤ H) = true := by simp; omega
          by_cases c4 : W ≤ 4096
          · have b4 : decide (W ≤ 4096) = true := by simp; omega
            by_cases c5 : H ≤ 4096
            · have b5 : decide (H ≤ 4096) = true := by simp; omega
              by_cases c6 : 1 ≤ G
              · have b6 : decide (1 ≤ G) = true := by simp; omega
                by_cases c7 : G ≤ 64
                · have b7 : decide (G ≤ 64) = true := by simp; omega
                  have hr : seqRight W H G = true := by unfold seqRight; rw [decide_eq_true_eq]; exact ⟨⟨c2, c4, c0⟩, ⟨c3, c5, c1⟩, c6, c7⟩
                  have hp := trivial
                  clear c0 c1
                  clear hp
                  have HR := Lib.hid hr
                  clear hr
                  go_enter Tryz.func49, Tryz.ntmps49
                  go_wp2_with fail
                  go_ret
                  exact ⟨congrArg (fun b => Ending.returned (.bool b)) HR.out.symm, (Mod.refl _ _).alloc _⟩
                · have b7 : decide (G ≤ 64) = false := by simp; omega
                  have hr : seqRight W H G = false := by unfold seqRight; rw [decide_eq_false_iff_not]; omega
                  have hp := trivial
                  clear c7 c0 c1
                  clear hp
                  have HR := Lib.hid hr
                  clear hr
                  go_enter Tryz.func49, Tryz.ntmps49
                  go_wp2_with fail
                  go_ret
                  exact ⟨congrArg (fun b => Ending.returned (.bool b)) HR.out.symm, (Mod.refl _ _).alloc _⟩
              · have b6 : decide (1 ≤ G) = false := by simp; omega
                have hr : seqRight W H G = false := by unfold seqRight; rw [decide_eq_false_iff_not]; omega
                have hp := trivial
                clear c6 c0 c1
                clear hp
                have HR := Lib.hid hr
                clear hr
                go_enter Tryz.func49, Tryz.ntmps49
                go_wp2_with fail
                go_ret
                exact ⟨congrArg (fun b => Ending.returned (.bool b)) HR.out.symm, (Mod.refl _ _).alloc _⟩
            · have b5 : decide (H ≤ 4096) = false := by simp; omega
              have hr : seqRight W H G = false := by unfold seqRight; rw [decide_eq_false_iff_not]; omega
              have hp := trivial
              clear c5 c0 c1
              clear hp
              have HR := Lib.hid hr
              clear hr
              go_enter Tryz.func49, Tryz.ntmps49
              go_wp2_with fail
              go_ret
              exact ⟨congrArg (fun b => Ending.returned (.bool b)) HR.out.symm, (Mod.refl _ _).alloc _⟩
          · have b4 : decide (W ≤ 4096) = false := by simp; omega
            have hr : seqRight W H G = false := by unfold seqRight; rw [decide_eq_false_iff_not]; omega
            have hp := trivial
            clear c4 c0 c1
            clear hp
            have HR := Lib.hid hr
            clear hr
            go_enter Tryz.func49, Tryz.ntmps49
            go_wp2_with fail
            go_ret
            exact ⟨congrArg (fun b => Ending.returned (.bool b)) HR.out.symm, (Mod.refl _ _).alloc _⟩
        · have b3 : decide (16 ≤ H) = false := by simp; omega
          have hr : seqRight W H G = false := by unfold seqRight; rw [decide_eq_false_iff_not]; omega
          have hp := trivial
          clear c3 c0 c1
          clear hp
          have HR := Lib.hid hr
          clear hr
          go_enter Tryz.func49, Tryz.ntmps49
          go_wp2_with fail
          go_ret
          exact ⟨congrArg (fun b => Ending.returned (.bool b)) HR.out.symm, (Mod.refl _ _).alloc _⟩
      · have b2 : decide (16 ≤ W) = false := by simp; omega
        have hr : seqRight W H G = false := by unfold seqRight; rw [decide_eq_false_iff_not]; omega
        have hp := trivial
        clear c2 c0 c1
        clear hp
        have HR := Lib.hid hr
        clear hr
        go_enter Tryz.func49, Tryz.ntmps49
        go_wp2_with fail
        go_ret
        exact ⟨congrArg (fun b => Ending.returned (.bool b)) HR.out.symm, (Mod.refl _ _).alloc _⟩
    · have b1 : ((H % 16) == 0) = false := by simp [c1]
      have hr : seqRight W H G = false := by unfold seqRight; rw [decide_eq_false_iff_not]; omega
      have hp := trivial
      clear c1 c0
      clear hp
      have HR := Lib.hid hr
      clear hr
      go_enter Tryz.func49, Tryz.ntmps49
      go_wp2_with fail
      go_ret
      exact ⟨congrArg (fun b => Ending.returned (.bool b)) HR.out.symm, (Mod.refl _ _).alloc _⟩
  · have b0 : ((W % 16) == 0) = false := by simp [c0]
    have hr : seqRight W H G = false := by unfold seqRight; rw [decide_eq_false_iff_not]; omega
    have hp := trivial
    clear c0
    clear hp
    have HR := Lib.hid hr
    clear hr
    go_enter Tryz.func49, Tryz.ntmps49
    go_wp2_with fail
    go_ret
    exact ⟨congrArg (fun b => Ending.returned (.bool b)) HR.out.symm, (Mod.refl _ _).alloc _⟩
end Go.Proofs.YteppnjgfebcmjaaGreat

/-
  The reference's Sequence. Written by gen_rseqall.py.
-/
namespace Go.Proofs.YteppnjgfebcmjaaGreat
open Go.RowKit

/-- A sequence's bytes. -/
def seqB (W H G : Int) : List UInt8 := packL (digitsL 19273 16 ++ codeL (W / 16 - 1).toNat ++ codeL (H / 16 - 1).toNat ++ codeL (G - 1).toNat)
theorem codeL_length (v : Nat) (h : v < 9223372036854775808) : (codeL v).length ≤ 127 := by
  unfold codeL
  rw [digitsL_length]
  have := blen_le (v + 1) (by omega)
  omega
def RSeqPost (w : World) (W H G : Int) (e : Ending) (w' : World) : Prop :=
  Mod (fun _ => False) w w' ∧ ((seqRight W H G = false ∧ e = .returned (.tuple #[.slice none 0 0, .int .i64 121])) ∨
  (seqRight W H G = true ∧ ∃ s, e = .returned (.tuple #[s, .int .i64 0]) ∧ Bytes w' w.heap.size s (seqB W H G)))

set_option maxRecDepth 100000 in
set_option maxHeartbeats 4000000 in
theorem refSeq (w : World) (W H G : Int) (hW : 0 ≤ W ∧ W ≤ 65536) (hH : 0 ≤ H ∧ H ≤ 65536) (hG : 0 ≤ G ∧ G ≤ 65536) : Calls Tryz.prog 24 #[.agg #[.int .i64 W, .int .i64 H, .int .i64 G]] w (RSeqPost w W H G) := by
  have hb0 : Blk (w.alloc (.cells #[.int .i64 W, .int .i64 H, .int .i64 G] 43)) w.heap.size 43 #[.int .i64 W, .int .i64 H, .int .i64 G] := Blk.new _ _ _
  have hR := refRight (w.alloc (.cells #[.int .i64 W, .int .i64 H, .int .i64 G] 43)) W H G hW hH hG
  obtain ⟨hW1, hW2⟩ := hW
  obtain ⟨hH1, hH2⟩ := hH
  obtain ⟨hG1, hG2⟩ := hG
  go_enter Tryz.func24, Tryz.ntmps24
  go_wp2_with fail
  refine hR.mono ?_
  clear hR
  rintro e w1 ⟨rfl, hm1⟩
  have M1 : Mod (fun _ => False) w w1 := ((Mod.refl _ _).alloc _).trans hm1
  have hb1 : Blk w1 w.heap.size 43 #[.int .i64 W, .int .i64 H, .int .i64 G] := hb0.keep hm1 (fun h => h)
  clear hm1 hb0
  cases hr : seqRight W H G with
  | false =>
    have HM := Lib.hid (And.intro M1 hr)
    clear M1 hr hb1
    go_wp2_with fail
    go_ret2
    exact ⟨HM.out.1, .inl ⟨HM.out.2, rfl⟩⟩
  | true =>
    have hr2 := hr
    unfold seqRight at hr2
    rw [decide_eq_true_eq] at hr2
    obtain ⟨x, hx⟩ : ∃ x : Nat, x = (W / 16 - 1).toNat := ⟨_, rfl⟩
    obtain ⟨y, hy⟩ : ∃ y : Nat, y = (H / 16 - 1).toNat := ⟨_, rfl⟩
    obtain ⟨z, hz⟩ : ∃ z : Nat, z = (G - 1).toNat := ⟨_, rfl⟩
    have q1 : W / 16 - 1 = (x : Int) := by omega
    have q2 : H / 16 - 1 = (y : Int) := by omega
    have q3 : G - 1 = (z : Int) := by omega
    have b1 : x ≤ 65536 := by omega
    have b2 : y ≤ 65536 := by omega
    have b3 : z ≤ 65536 := by omega
    have hS : seqB W H G = packL (digitsL 19273 16 ++ codeL x ++ codeL y ++ codeL z) := by unfold seqB; rw [hx, hy, hz]
    have hlw : w.heap.size < w1.heap.size := hb1.lt
    have HA := Lib.hid (And.intro M1 (And.intro hb1 (And.intro hr hS)))
    have HQ1 := Lib.hid q1
    have HQ2 := Lib.hid q2
    have HQ3 := Lib.hid q3
    clear hx hy hz hr2 hr M1 hb1 hS q1 q2 q3
    go_wp2_with fail
    refine (refDigits w1 19273 16 (by omega) (by omega)).mono ?_
    rintro e w2 ⟨s2, rfl, hs2, hm2⟩
    have hl2 : (digitsL 19273 16).length ≤ 16 := by rw [digitsL_length]; omega
    have HK := Lib.hid (And.intro hs2 (And.intro hm2 hl2))
    obtain ⟨A2, d2, hv2⟩ := own_shape hs2
    clear hs2 hm2 hl2
    obtain ⟨m2, hm2⟩ : ∃ m2, m2 = (digitsL 19273 16).length := ⟨_, rfl⟩
    rw [← hm2] at hv2
    subst hv2
    clear hm2
    have hb2 := HA.out.2.1.keep HK.out.2.1 (fun h => h)
    have f2 : w2.cell? ⟨w.heap.size, 0, none⟩ = some (.int .i64 W) := hb2.cell 0
    clear hb2
    have q := HQ1.out
    go_wp2_with fail
    clear q
    refine (refCode w2 x (by omega)).mono ?_
    rintro e w3 ⟨s3, rfl, hs3, hm3⟩
    have hcl3 := codeL_length x (by omega)
    obtain ⟨A3, d3, hv3⟩ := own_shape hs3
    obtain ⟨c3, hc3⟩ : ∃ c3, c3 = (codeL x).length := ⟨_, rfl⟩
    rw [← hc3] at hv3 hcl3
    subst hv3
    have hin3 := hs3.in_
    have HX := Lib.hid (And.intro (HK.out.1.quiet hm3) (And.intro hin3 (And.intro (HK.out.2.1.trans hm3) (And.intro HK.out.2.2 hcl3))))
    clear hs3 hin3 hm3 hc3 f2 HK hcl3
    go_upto_region 6 with (at_builtin; have _t := HX; refine wpList_app_wide _ rfl (.tmp 11) (.tmp 17) rfl w1.heap.size (.slice A2 m2 d2) (digitsL 19273 16) A3 c3 d3 (codeL x) rfl rfl HX.out.1 HX.out.2.1 HX.out.2.2.1.size (by have := HX.out.2.2.2.1; have := HX.out.2.2.2.2; omega) ?_; intro v4 w4 hown4 hmm4; have HO := Lib.hid (And.intro hown4 hmm4); clear hown4 hmm4 _t)
    have hm4 := HO.out.2 w1 (fun _ => False) (Nat.le_refl _) HX.out.2.2.1
    have hl4 : (digitsL 19273 16 ++ codeL x).length ≤ 143 := by
      have h1 := HX.out.2.2.2.1
      have h2 := codeL_length x (by omega)
      rw [List.length_append]
      omega
    have HK := Lib.hid (And.intro HO.out.1 (And.intro hm4 hl4))
    obtain ⟨A4, d4, hv4⟩ := own_shape HO.out.1
    clear hm4 hl4 HO HX
    obtain ⟨m4, hm4⟩ : ∃ m4, m4 = (digitsL 19273 16 ++ codeL x).length := ⟨_, rfl⟩
    rw [← hm4] at hv4
    subst hv4
    clear hm4
    have hb4 := HA.out.2.1.keep HK.out.2.1 (fun h => h)
    have f4 : w4.cell? ⟨w.heap.size, 1, none⟩ = some (.int .i64 H) := hb4.cell 1
    clear hb4
    have q := HQ2.out
    go_wp2_with fail
    clear q
    refine (refCode w4 y (by omega)).mono ?_
    rintro e w5 ⟨s5, rfl, hs5, hm5⟩
    have hcl5 := codeL_length y (by omega)
    obtain ⟨A5, d5, hv5⟩ := own_shape hs5
    obtain ⟨c5, hc5⟩ : ∃ c5, c5 = (codeL y).length := ⟨_, rfl⟩
    rw [← hc5] at hv5 hcl5
    subst hv5
    have hin5 := hs5.in_
    have HX := Lib.hid (And.intro (HK.out.1.quiet hm5) (And.intro hin5 (And.intro (HK.out.2.1.trans hm5) (And.intro HK.out.2.2 hcl5))))
    clear hs5 hin5 hm5 hc5 f4 HK hcl5
    go_upto_region 7 with (at_builtin; have _t := HX; refine wpList_app_wide _ rfl (.tmp 19) (.tmp 25) rfl w1.heap.size (.slice A4 m4 d4) (digitsL 19273 16 ++ codeL x) A5 c5 d5 (codeL y) rfl rfl HX.out.1 HX.out.2.1 HX.out.2.2.1.size (by have := HX.out.2.2.2.1; have := HX.out.2.2.2.2; omega) ?_; intro v6 w6 hown6 hmm6; have HO := Lib.hid (And.intro hown6 hmm6); clear hown6 hmm6 _t)
    have hm6 := HO.out.2 w1 (fun _ => False) (Nat.le_refl _) HX.out.2.2.1
    have hl6 : (digitsL 19273 16 ++ codeL x ++ codeL y).length ≤ 270 := by
      have h1 := HX.out.2.2.2.1
      have h2 := codeL_length y (by omega)
      rw [List.length_append]
      omega
    have HK := Lib.hid (And.intro HO.out.1 (And.intro hm6 hl6))
    obtain ⟨A6, d6, hv6⟩ := own_shape HO.out.1
    clear hm6 hl6 HO HX
    obtain ⟨m6, hm6⟩ : ∃ m6, m6 = (digitsL 19273 16 ++ codeL x ++ codeL y).length := ⟨_, rfl⟩
    rw [← hm6] at hv6
    subst hv6
    clear hm6
    have hb6 := HA.out.2.1.keep HK.out.2.1 (fun h => h)
    have f6 : w6.cell? ⟨w.heap.size, 2, none⟩ = some (.int .i64 G) := hb6.cell 2
    clear hb6
    have q := HQ3.out
    go_wp2_with fail
    clear q
    refine (refCode w6 z (by omega)).mono ?_
    rintro e w7 ⟨s7, rfl, hs7, hm7⟩
    have hcl7 := codeL_length z (by omega)
    obtain ⟨A7, d7, hv7⟩ := own_shape hs7
    obtain ⟨c7, hc7⟩ : ∃ c7, c7 = (codeL z).length := ⟨_, rfl⟩
    rw [← hc7] at hv7 hcl7
    subst hv7
    have hin7 := hs7.in_
    have HX := Lib.hid (And.intro (HK.out.1.quiet hm7) (And.intro hin7 (And.intro (HK.out.2.1.trans hm7) (And.intro HK.out.2.2 hcl7))))
    clear hs7 hin7 hm7 hc7 f6 HK hcl7
    go_upto_region 8 with (at_builtin; have _t := HX; refine wpList_app_wide _ rfl (.tmp 27) (.tmp 32) rfl w1.heap.size (.slice A6 m6 d6) (digitsL 19273 16 ++ codeL x ++ codeL y) A7 c7 d7 (codeL z) rfl rfl HX.out.1 HX.out.2.1 HX.out.2.2.1.size (by have := HX.out.2.2.2.1; have := HX.out.2.2.2.2; omega) ?_; intro v8 w8 hown8 hmm8; have HO := Lib.hid (And.intro hown8 hmm8); clear hown8 hmm8 _t)
    have hm8 := HO.out.2 w1 (fun _ => False) (Nat.le_refl _) HX.out.2.2.1
    have hl8 : (digitsL 19273 16 ++ codeL x ++ codeL y ++ codeL z).length ≤ 397 := by
      have h1 := HX.out.2.2.2.1
      have h2 := codeL_length z (by omega)
      rw [List.length_append]
      omega
    have HK := Lib.hid (And.intro HO.out.1 (And.intro hm8 hl8))
    obtain ⟨A8, d8, hv8⟩ := own_shape HO.out.1
    clear hm8 hl8 HO HX
    obtain ⟨m8, hm8⟩ : ∃ m8, m8 = (digitsL 19273 16 ++ codeL x ++ codeL y ++ codeL z).length := ⟨_, rfl⟩
    rw [← hm8] at hv8
    subst hv8
    have hpos : 0 < m8 := by rw [hm8, List.length_append, List.length_append, List.length_append, digitsL_length]; omega
    have hle : m8 ≤ 1048576 := by rw [hm8]; have := HK.out.2.2; omega
    clear hm8
    go_wp2_with fail
    refine (refPack w8 A8 m8 d8 _ (Bytes.in_ HK.out.1) hpos hle).mono ?_
    rintro e w9 ⟨s9, rfl, hs9, hm9⟩
    have HF := Lib.hid (And.intro (own_low hs9 (Nat.le_trans (Nat.le_of_lt hlw) HK.out.2.1.size)) hm9)
    obtain ⟨A9, d9, hv9⟩ := own_shape hs9
    subst hv9
    clear hs9 hm9
    go_wp2_with fail
    go_ret2
    refine ⟨(HA.out.1.trans HK.out.2.1).trans HF.out.2, .inr ⟨HA.out.2.2.1, .slice A9 (packL (digitsL 19273 16 ++ codeL x ++ codeL y ++ codeL z)).length d9, by simp, ?_⟩⟩
    rw [HA.out.2.2.2]
    exact HF.out.1
end Go.Proofs.YteppnjgfebcmjaaGreat
