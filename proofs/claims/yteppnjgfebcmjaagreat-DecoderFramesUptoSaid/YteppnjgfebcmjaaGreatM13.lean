/-
  The reference's Right. Written by gen_rright.py.
-/
import Derived.Test.YteppnjgfebcmjaaGreatM12
import Derived.Deep.DeepCutAuto
import Derived.MapKept
import Derived.Laws.StructEq
namespace Go.Proofs.YteppnjgfebcmjaaGreat
open Go.RowKit

set_option maxRecDepth 100000 in
set_option maxHeartbeats 4000000 in
theorem refRight (w : World) (W H G : Int) (hW : 0 ≤ W ∧ W ≤ 65536) (hH : 0 ≤ H ∧ H ≤ 65536) (hG : 0 ≤ G ∧ G ≤ 65536) : Calls Tryz.prog 49 #[.agg #[.int .i64 W, .int .i64 H, .int .i64 G]] w fun e w' => e = .returned (.bool (seqRight W H G)) ∧ Mod (fun _ => False) w w' := by
  obtain ⟨hW1, hW2⟩ := hW
  obtain ⟨hH1, hH2⟩ := hH
  obtain ⟨hG1, hG2⟩ := hG
  by_cases c0 : W % 16 = 0
  · have b0 : ((W % 16) == 0) = true := by simp [c0]
    by_cases c1 : H % 16 = 0
    · have b1 : ((H % 16) == 0) = true := by simp [c1]
      by_cases c2 : 16 ≤ W
      · have b2 : decide (16 ≤ W) = true := by simp; omega
        by_cases c3 : 16 ≤ H
        · have b3 : decide (16 ≤ H) = true := by simp; omega
          by_cases c4 : W ≤ 4096
          · have b4 : decide (W ≤ 4096) = true := by simp; omega
            by_cases c5 : H ≤ 4096
            · have b5 : decide (H ≤ 4096) = true := by simp; omega
              by_cases c6 : 1 ≤ G
              · have b6 : decide (1 ≤ G) = true := by simp; omega
                by_cases c7 : G ≤ 64
                · have b7 : decide (G ≤ 64) = true := by simp; omega
                  have hr : seqRight W H G = true := by unfold seqRight; rw [decide_eq_true_eq]; exact ⟨⟨c2, c4, c0⟩, ⟨c3, c5, c1⟩, c6, c7⟩
                  have hp := trivial
                  clear c0 c1
                  clear hp
                  have HR := Lib.hid hr
                  clear hr
                  go_enter Tryz.func49, Tryz.ntmps49
                  go_wp2_with fail
                  go_ret
                  exact ⟨congrArg (fun b => Ending.returned (.bool b)) HR.out.symm, (Mod.refl _ _).alloc _⟩
                · have b7 : decide (G ≤ 64) = false := by simp; omega
                  have hr : seqRight W H G = false := by unfold seqRight; rw [decide_eq_false_iff_not]; omega
                  have hp := trivial
                  clear c7 c0 c1
                  clear hp
                  have HR := Lib.hid hr
                  clear hr
                  go_enter Tryz.func49, Tryz.ntmps49
                  go_wp2_with fail
                  go_ret
                  exact ⟨congrArg (fun b => Ending.returned (.bool b)) HR.out.symm, (Mod.refl _ _).alloc _⟩
              · have b6 : decide (1 ≤ G) = false := by simp; omega
                have hr : seqRight W H G = false := by unfold seqRight; rw [decide_eq_false_iff_not]; omega
                have hp := trivial
                clear c6 c0 c1
                clear hp
                have HR := Lib.hid hr
                clear hr
                go_enter Tryz.func49, Tryz.ntmps49
                go_wp2_with fail
                go_ret
                exact ⟨congrArg (fun b => Ending.returned (.bool b)) HR.out.symm, (Mod.refl _ _).alloc _⟩
            · have b5 : decide (H ≤ 4096) = false := by simp; omega
              have hr : seqRight W H G = false := by unfold seqRight; rw [decide_eq_false_iff_not]; omega
              have hp := trivial
              clear c5 c0 c1
              clear hp
              have HR := Lib.hid hr
              clear hr
              go_enter Tryz.func49, Tryz.ntmps49
              go_wp2_with fail
              go_ret
              exact ⟨congrArg (fun b => Ending.returned (.bool b)) HR.out.symm, (Mod.refl _ _).alloc _⟩
          · have b4 : decide (W ≤ 4096) = false := by simp; omega
            have hr : seqRight W H G = false := by unfold seqRight; rw [decide_eq_false_iff_not]; omega
            have hp := trivial
            clear c4 c0 c1
            clear hp
            have HR := Lib.hid hr
            clear hr
            go_enter Tryz.func49, Tryz.ntmps49
            go_wp2_with fail
            go_ret
            exact ⟨congrArg (fun b => Ending.returned (.bool b)) HR.out.symm, (Mod.refl _ _).alloc _⟩
        · have b3 : decide (16 ≤ H) = false := by simp; omega
          have hr : seqRight W H G = false := by unfold seqRight; rw [decide_eq_false_iff_not]; omega
          have hp := trivial
          clear c3 c0 c1
          clear hp
          have HR := Lib.hid hr
          clear hr
          go_enter Tryz.func49, Tryz.ntmps49
          go_wp2_with fail
          go_ret
          exact ⟨congrArg (fun b => Ending.returned (.bool b)) HR.out.symm, (Mod.refl _ _).alloc _⟩
      · have b2 : decide (16 ≤ W) = false := by simp; omega
        have hr : seqRight W H G = false := by unfold seqRight; rw [decide_eq_false_iff_not]; omega
        have hp := trivial
        clear c2 c0 c1
        clear hp
        have HR := Lib.hid hr
        clear hr
        go_enter Tryz.func49, Tryz.ntmps49
        go_wp2_with fail
        go_ret
        exact ⟨congrArg (fun b => Ending.returned (.bool b)) HR.out.symm, (Mod.refl _ _).alloc _⟩
    · have b1 : ((H % 16) == 0) = false := by simp [c1]
      have hr : seqRight W H G = false := by unfold seqRight; rw [decide_eq_false_iff_not]; omega
      have hp := trivial
      clear c1 c0
      clear hp
      have HR := Lib.hid hr
      clear hr
      go_enter Tryz.func49, Tryz.ntmps49
      go_wp2_with fail
      go_ret
      exact ⟨congrArg (fun b => Ending.returned (.bool b)) HR.out.symm, (Mod.refl _ _).alloc _⟩
  · have b0 : ((W % 16) == 0) = false := by simp [c0]
    have hr : seqRight W H G = false := by unfold seqRight; rw [decide_eq_false_iff_not]; omega
    have hp := trivial
    clear c0
    clear hp
    have HR := Lib.hid hr
    clear hr
    go_enter Tryz.func49, Tryz.ntmps49
    go_wp2_with fail
    go_ret
    exact ⟨congrArg (fun b => Ending.returned (.bool b)) HR.out.symm, (Mod.refl _ _).alloc _⟩
end Go.Proofs.YteppnjgfebcmjaaGreat

/-
  The reference's Sequence. Written by gen_rseqall.py.
-/
namespace Go.Proofs.YteppnjgfebcmjaaGreat
open Go.RowKit

/-- A sequence's bytes. -/
def seqB (W H G : Int) : List UInt8 := packL (digitsL 19273 16 ++ codeL (W / 16 - 1).toNat ++ codeL (H / 16 - 1).toNat ++ codeL (G - 1).toNat)
theorem codeL_length (v : Nat) (h : v < 9223372036854775808) : (codeL v).length ≤ 127 := by
  unfold codeL
  rw [digitsL_length]
  have := blen_le (v + 1) (by omega)
  omega
def RSeqPost (w : World) (W H G : Int) (e : Ending) (w' : World) : Prop :=
  Mod (fun _ => False) w w' ∧ ((seqRight W H G = false ∧ e = .returned (.tuple #[.slice none 0 0, .int .i64 121])) ∨
  (seqRight W H G = true ∧ ∃ s, e = .returned (.tuple #[s, .int .i64 0]) ∧ Bytes w' w.heap.size s (seqB W H G)))

set_option maxRecDepth 100000 in
set_option maxHeartbeats 4000000 in
theorem refSeq (w : World) (W H G : Int) (hW : 0 ≤ W ∧ W ≤ 65536) (hH : 0 ≤ H ∧ H ≤ 65536) (hG : 0 ≤ G ∧ G ≤ 65536) : Calls Tryz.prog 24 #[.agg #[.int .i64 W, .int .i64 H, .int .i64 G]] w (RSeqPost w W H G) := by
  have hb0 : Blk (w.alloc (.cells #[.int .i64 W, .int .i64 H, .int .i64 G] 43)) w.heap.size 43 #[.int .i64 W, .int .i64 H, .int .i64 G] := Blk.new _ _ _
  have hR := refRight (w.alloc (.cells #[.int .i64 W, .int .i64 H, .int .i64 G] 43)) W H G hW hH hG
  obtain ⟨hW1, hW2⟩ := hW
  obtain ⟨hH1, hH2⟩ := hH
  obtain ⟨hG1, hG2⟩ := hG
  go_enter Tryz.func24, Tryz.ntmps24
  go_wp2_with fail
  refine hR.mono ?_
  clear hR
  rintro e w1 ⟨rfl, hm1⟩
  have M1 : Mod (fun _ => False) w w1 := ((Mod.refl _ _).alloc _).trans hm1
  have hb1 : Blk w1 w.heap.size 43 #[.int .i64 W, .int .i64 H, .int .i64 G] := hb0.keep hm1 (fun h => h)
  clear hm1 hb0
  cases hr : seqRight W H G with
  | false =>
    have HM := Lib.hid (And.intro M1 hr)
    clear M1 hr hb1
    go_wp2_with fail
    go_ret2
    exact ⟨HM.out.1, .inl ⟨HM.out.2, rfl⟩⟩
  | true =>
    have hr2 := hr
    unfold seqRight at hr2
    rw [decide_eq_true_eq] at hr2
    obtain ⟨x, hx⟩ : ∃ x : Nat, x = (W / 16 - 1).toNat := ⟨_, rfl⟩
    obtain ⟨y, hy⟩ : ∃ y : Nat, y = (H / 16 - 1).toNat := ⟨_, rfl⟩
    obtain ⟨z, hz⟩ : ∃ z : Nat, z = (G - 1).toNat := ⟨_, rfl⟩
    have q1 : W / 16 - 1 = (x : Int) := by omega
    have q2 : H / 16 - 1 = (y : Int) := by omega
    have q3 : G - 1 = (z : Int) := by omega
    have b1 : x ≤ 65536 := by omega
    have b2 : y ≤ 65536 := by omega
    have b3 : z ≤ 65536 := by omega
    have hS : seqB W H G = packL (digitsL 19273 16 ++ codeL x ++ codeL y ++ codeL z) := by unfold seqB; rw [hx, hy, hz]
    have hlw : w.heap.size < w1.heap.size := hb1.lt
    have HA := Lib.hid (And.intro M1 (And.intro hb1 (And.intro hr hS)))
    have HQ1 := Lib.hid q1
    have HQ2 := Lib.hid q2
    have HQ3 := Lib.hid q3
    clear hx hy hz hr2 hr M1 hb1 hS q1 q2 q3
    go_wp2_with fail
    refine (refDigits w1 19273 16 (by omega) (by omega)).mono ?_
    rintro e w2 ⟨s2, rfl, hs2, hm2⟩
    have hl2 : (digitsL 19273 16).length ≤ 16 := by rw [digitsL_length]; omega
    have HK := Lib.hid (And.intro hs2 (And.intro hm2 hl2))
    obtain ⟨A2, d2, hv2⟩ := own_shape hs2
    clear hs2 hm2 hl2
    obtain ⟨m2, hm2⟩ : ∃ m2, m2 = (digitsL 19273 16).length := ⟨_, rfl⟩
    rw [← hm2] at hv2
    subst hv2
    clear hm2
    have hb2 := HA.out.2.1.keep HK.out.2.1 (fun h => h)
    have f2 : w2.cell? ⟨w.heap.size, 0, none⟩ = some (.int .i64 W) := hb2.cell 0
    clear hb2
    have q := HQ1.out
    go_wp2_with fail
    clear q
    refine (refCode w2 x (by omega)).mono ?_
    rintro e w3 ⟨s3, rfl, hs3, hm3⟩
    have hcl3 := codeL_length x (by omega)
    obtain ⟨A3, d3, hv3⟩ := own_shape hs3
    obtain ⟨c3, hc3⟩ : ∃ c3, c3 = (codeL x).length := ⟨_, rfl⟩
    rw [← hc3] at hv3 hcl3
    subst hv3
    have hin3 := hs3.in_
    have HX := Lib.hid (And.intro (HK.out.1.quiet hm3) (And.intro hin3 (And.intro (HK.out.2.1.trans hm3) (And.intro HK.out.2.2 hcl3))))
    clear hs3 hin3 hm3 hc3 f2 HK hcl3
    go_upto_region 6 with (at_builtin; have _t := HX; refine wpList_app_wide _ rfl (.tmp 11) (.tmp 17) rfl w1.heap.size (.slice A2 m2 d2) (digitsL 19273 16) A3 c3 d3 (codeL x) rfl rfl HX.out.1 HX.out.2.1 HX.out.2.2.1.size (by have := HX.out.2.2.2.1; have := HX.out.2.2.2.2; omega) ?_; intro v4 w4 hown4 hmm4; have HO := Lib.hid (And.intro hown4 hmm4); clear hown4 hmm4 _t)
    have hm4 := HO.out.2 w1 (fun _ => False) (Nat.le_refl _) HX.out.2.2.1
    have hl4 : (digitsL 19273 16 ++ codeL x).length ≤ 143 := by
      have h1 := HX.out.2.2.2.1
      have h2 := codeL_length x (by omega)
      rw [List.length_append]
      omega
    have HK := Lib.hid (And.intro HO.out.1 (And.intro hm4 hl4))
    obtain ⟨A4, d4, hv4⟩ := own_shape HO.out.1
    clear hm4 hl4 HO HX
    obtain ⟨m4, hm4⟩ : ∃ m4, m4 = (digitsL 19273 16 ++ codeL x).length := ⟨_, rfl⟩
    rw [← hm4] at hv4
    subst hv4
    clear hm4
    have hb4 := HA.out.2.1.keep HK.out.2.1 (fun h => h)
    have f4 : w4.cell? ⟨w.heap.size, 1, none⟩ = some (.int .i64 H) := hb4.cell 1
    clear hb4
    have q := HQ2.out
    go_wp2_with fail
    clear q
    refine (refCode w4 y (by omega)).mono ?_
    rintro e w5 ⟨s5, rfl, hs5, hm5⟩
    have hcl5 := codeL_length y (by omega)
    obtain ⟨A5, d5, hv5⟩ := own_shape hs5
    obtain ⟨c5, hc5⟩ : ∃ c5, c5 = (codeL y).length := ⟨_, rfl⟩
    rw [← hc5] at hv5 hcl5
    subst hv5
    have hin5 := hs5.in_
    have HX := Lib.hid (And.intro (HK.out.1.quiet hm5) (And.intro hin5 (And.intro (HK.out.2.1.trans hm5) (And.intro HK.out.2.2 hcl5))))
    clear hs5 hin5 hm5 hc5 f4 HK hcl5
    go_upto_region 7 with (at_builtin; have _t := HX; refine wpList_app_wide _ rfl (.tmp 19) (.tmp 25) rfl w1.heap.size (.slice A4 m4 d4) (digitsL 19273 16 ++ codeL x) A5 c5 d5 (codeL y) rfl rfl HX.out.1 HX.out.2.1 HX.out.2.2.1.size (by have := HX.out.2.2.2.1; have := HX.out.2.2.2.2; omega) ?_; intro v6 w6 hown6 hmm6; have HO := Lib.hid (And.intro hown6 hmm6); clear hown6 hmm6 _t)
    have hm6 := HO.out.2 w1 (fun _ => False) (Nat.le_refl _) HX.out.2.2.1
    have hl6 : (digitsL 19273 16 ++ codeL x ++ codeL y).length ≤ 270 := by
      have h1 := HX.out.2.2.2.1
      have h2 := codeL_length y (by omega)
      rw [List.length_append]
      omega
    have HK := Lib.hid (And.intro HO.out.1 (And.intro hm6 hl6))
    obtain ⟨A6, d6, hv6⟩ := own_shape HO.out.1
    clear hm6 hl6 HO HX
    obtain ⟨m6, hm6⟩ : ∃ m6, m6 = (digitsL 19273 16 ++ codeL x ++ codeL y).length := ⟨_, rfl⟩
    rw [← hm6] at hv6
    subst hv6
    clear hm6
    have hb6 := HA.out.2.1.keep HK.out.2.1 (fun h => h)
    have f6 : w6.cell? ⟨w.heap.size, 2, none⟩ = some (.int .i64 G) := hb6.cell 2
    clear hb6
    have q := HQ3.out
    go_wp2_with fail
    clear q
    refine (refCode w6 z (by omega)).mono ?_
    rintro e w7 ⟨s7, rfl, hs7, hm7⟩
    have hcl7 := codeL_length z (by omega)
    obtain ⟨A7, d7, hv7⟩ := own_shape hs7
    obtain ⟨c7, hc7⟩ : ∃ c7, c7 = (codeL z).length := ⟨_, rfl⟩
    rw [← hc7] at hv7 hcl7
    subst hv7
    have hin7 := hs7.in_
    have HX := Lib.hid (And.intro (HK.out.1.quiet hm7) (And.intro hin7 (And.intro (HK.out.2.1.trans hm7) (And.intro HK.out.2.2 hcl7))))
    clear hs7 hin7 hm7 hc7 f6 HK hcl7
    go_upto_region 8 with (at_builtin; have _t := HX; refine wpList_app_wide _ rfl (.tmp 27) (.tmp 32) rfl w1.heap.size (.slice A6 m6 d6) (digitsL 19273 16 ++ codeL x ++ codeL y) A7 c7 d7 (codeL z) rfl rfl HX.out.1 HX.out.2.1 HX.out.2.2.1.size (by have := HX.out.2.2.2.1; have := HX.out.2.2.2.2; omega) ?_; intro v8 w8 hown8 hmm8; have HO := Lib.hid (And.intro hown8 hmm8); clear hown8 hmm8 _t)
    have hm8 := HO.out.2 w1 (fun _ => False) (Nat.le_refl _) HX.out.2.2.1
    have hl8 : (digitsL 19273 16 ++ codeL x ++ codeL y ++ codeL z).length ≤ 397 := by
      have h1 := HX.out.2.2.2.1
      have h2 := codeL_length z (by omega)
      rw [List.length_append]
      omega
    have HK := Lib.hid (And.intro HO.out.1 (And.intro hm8 hl8))
    obtain ⟨A8, d8, hv8⟩ := own_shape HO.out.1
    clear hm8 hl8 HO HX
    obtain ⟨m8, hm8⟩ : ∃ m8, m8 = (digitsL 19273 16 ++ codeL x ++ codeL y ++ codeL z).length := ⟨_, rfl⟩
    rw [← hm8] at hv8
    subst hv8
    have hpos : 0 < m8 := by rw [hm8, List.length_append, List.length_append, List.length_append, digitsL_length]; omega
    have hle : m8 ≤ 1048576 := by rw [hm8]; have := HK.out.2.2; omega
    clear hm8
    go_wp2_with fail
    refine (refPack w8 A8 m8 d8 _ (Bytes.in_ HK.out.1) hpos hle).mono ?_
    rintro e w9 ⟨s9, rfl, hs9, hm9⟩
    have HF := Lib.hid (And.intro (own_low hs9 (Nat.le_trans (Nat.le_of_lt hlw) HK.out.2.1.size)) hm9)
    obtain ⟨A9, d9, hv9⟩ := own_shape hs9
    subst hv9
    clear hs9 hm9
    go_wp2_with fail
    go_ret2
    refine ⟨(HA.out.1.trans HK.out.2.1).trans HF.out.2, .inr ⟨HA.out.2.2.1, .slice A9 (packL (digitsL 19273 16 ++ codeL x ++ codeL y ++ codeL z)).length d9, by simp, ?_⟩⟩
    rw [HA.out.2.2.2]
    exact HF.out.1
end Go.Proofs.YteppnjgfebcmjaaGreat

/-
  The reference's ParseSequence.
-/
namespace Go.Proofs.YteppnjgfebcmjaaGreat
open Go.RowKit

/-- A Golomb number at a place, and the place behind it. -/
def gAt (l : List UInt8) (I : Nat) : Option Nat × Nat := match gget l I 0 32 with | some (v, J) => (some v, J) | none => (none, I)
def GAPost (w : World) (g : Nat) (l : List UInt8) (I : Nat) (e : Ending) (w' : World) : Prop :=
  ∃ (v : Nat) (er : Int), e = .returned (.tuple #[.int .u64 (v : Int), .int .i64 er]) ∧ (((er != 0) = false ∧ (gAt l I).1 = some v) ∨ ((er != 0) = true ∧ (gAt l I).1 = none)) ∧ RRd w' g l (gAt l I).2 ∧ Mod (· = g) w w'
theorem refGGet' (w : World) (g : Nat) (l : List UInt8) (I : Nat) (h : RRd w g l I) (hll : l.length ≤ 1048576) : Calls Tryz.prog 48 #[.pointer (some ⟨g, 0, none⟩)] w (GAPost w g l I) := by
  refine (refGGet w g l I h hll).mono ?_
  rintro e w' (⟨hn, er, her, rfl, hm⟩ | ⟨v, J, hs, rfl, hr, hm⟩)
  · refine ⟨0, er, rfl, .inr ⟨by rw [bne, her]; rfl, by unfold gAt; rw [hn]⟩, ?_, hm.mono (fun _ h => h.elim)⟩
    unfold gAt
    rw [hn]
    exact h.quiet hm
  · refine ⟨v, 0, rfl, .inl ⟨rfl, by unfold gAt; rw [hs]⟩, ?_, hm⟩
    unfold gAt
    rw [hs]
    exact hr
/-- The sequence that bytes may be of, if they are its bytes. -/
def rseqParse (l : List UInt8) : Option (Int × Int × Int) :=
  let a := gAt l (if 16 ≤ 8 * l.length then 16 else 0)
  let b := gAt l a.2
  let c := gAt l b.2
  match a.1, b.1, c.1 with
  | some x, some y, some z => if x ≤ 999 ∧ y ≤ 999 ∧ z ≤ 999 ∧ seqRight (16 * ((x : Int) + 1)) (16 * ((y : Int) + 1)) ((z : Int) + 1) = true ∧ seqB (16 * ((x : Int) + 1)) (16 * ((y : Int) + 1)) ((z : Int) + 1) = l then some (16 * ((x : Int) + 1), 16 * ((y : Int) + 1), (z : Int) + 1) else none
  | _, _, _ => none
def RPSPost (w : World) (l : List UInt8) (e : Ending) (w' : World) : Prop :=
  Mod (fun _ => False) w w' ∧ ((rseqParse l = none ∧ e = .returned (.tuple #[.agg #[.int .i64 0, .int .i64 0, .int .i64 0], .int .i64 121])) ∨
    ∃ W H G, rseqParse l = some (W, H, G) ∧ e = .returned (.tuple #[.agg #[.int .i64 W, .int .i64 H, .int .i64 G], .int .i64 0]))
def BadB (e1 e2 e3 : Int) (x y z : Nat) : Bool := (e1 != 0) || (e2 != 0) || (e3 != 0) || decide (999 < x) || decide (999 < y) || decide (999 < z)
theorem strOf_ne {a b : List UInt8} (h : a ≠ b) : strOf a ≠ strOf b := fun e => h (by
  have := congrArg (fun s : ByteArray => s.data.toList) e
  simpa [strOf] using this)

def GA (e : Int) (v : Nat) (l : List UInt8) (I : Nat) : Prop := ((e != 0) = false ∧ (gAt l I).1 = some v) ∨ ((e != 0) = true ∧ (gAt l I).1 = none)
theorem rseq_bad {l : List UInt8} {I0 : Nat} {e1 e2 e3 : Int} {x y z : Nat} (hI : I0 = if 16 ≤ 8 * l.length then 16 else 0) (h1 : GA e1 x l I0) (h2 : GA e2 y l (gAt l I0).2) (h3 : GA e3 z l (gAt l (gAt l I0).2).2) (hb : BadB e1 e2 e3 x y z = true) : rseqParse l = none := by
  unfold rseqParse
  rw [← hI]
  dsimp only
  unfold GA at h1 h2 h3
  unfold BadB at hb
  rcases h1 with ⟨a1, b1⟩ | ⟨a1, b1⟩ <;> rcases h2 with ⟨a2, b2⟩ | ⟨a2, b2⟩ <;> rcases h3 with ⟨a3, b3⟩ | ⟨a3, b3⟩ <;> rw [b1, b2, b3]
  rw [a1, a2, a3] at hb
  simp only [Bool.false_or, Bool.or_eq_true, decide_eq_true_eq] at hb
  dsimp only
  rw [if_neg (by omega)]
theorem rseq_good {l : List UInt8} {I0 : Nat} {e1 e2 e3 : Int} {x y z : Nat} (hI : I0 = if 16 ≤ 8 * l.length then 16 else 0) (h1 : GA e1 x l I0) (h2 : GA e2 y l (gAt l I0).2) (h3 : GA e3 z l (gAt l (gAt l I0).2).2) (hb : BadB e1 e2 e3 x y z = false) :
    x ≤ 999 ∧ y ≤ 999 ∧ z ≤ 999 ∧ rseqParse l = if seqRight (16 * ((x : Int) + 1)) (16 * ((y : Int) + 1)) ((z : Int) + 1) = true ∧ seqB (16 * ((x : Int) + 1)) (16 * ((y : Int) + 1)) ((z : Int) + 1) = l then some (16 * ((x : Int) + 1), 16 * ((y : Int) + 1), (z : Int) + 1) else none := by
  unfold BadB at hb
  simp only [Bool.or_eq_false_iff, decide_eq_false_iff_not] at hb
  obtain ⟨⟨⟨⟨⟨c1, c2⟩, c3⟩, c4⟩, c5⟩, c6⟩ := hb
  have b1 : (gAt l I0).1 = some x := by
    rcases h1 with h | h
    · exact h.2
    · rw [c1] at h; exact absurd h.1 (by decide)
  have b2 : (gAt l (gAt l I0).2).1 = some y := by
    rcases h2 with h | h
    · exact h.2
    · rw [c2] at h; exact absurd h.1 (by decide)
  have b3 : (gAt l (gAt l (gAt l I0).2).2).1 = some z := by
    rcases h3 with h | h
    · exact h.2
    · rw [c3] at h; exact absurd h.1 (by decide)
  refine ⟨by omega, by omega, by omega, ?_⟩
  unfold rseqParse
  rw [← hI]
  dsimp only
  rw [b1, b2, b3]
  dsimp only
  have d1 : x ≤ 999 := by omega
  have d2 : y ≤ 999 := by omega
  have d3 : z ≤ 999 := by omega
  simp only [d1, d2, d3, true_and]
theorem strL_ne {a b : List UInt8} (h : a ≠ b) : ((strOf a).toList == (strOf b).toList) = false := by
  rw [← beq_toListBytes]
  exact Bool.eq_false_iff.mpr (fun e => strOf_ne h ((Go.MapKept.bytes_beq _ _).1 e))
set_option maxRecDepth 100000 in
set_option maxHeartbeats 4000000 in
theorem refParseSeq (w : World) (A : Option Addr) (n c : Nat) (l : List UInt8) (hin : BytesIn w A n c l) (hn : n ≤ 1048576) : Calls Tryz.prog 23 #[.slice A n c] w (RPSPost w l) := by
  have hll : l.length ≤ 1048576 := by rw [hin.1]; exact hn
  have HS0 := (Sat.nil (fun _ => False) w).alloc 43 #[.int .i64 0, .int .i64 0, .int .i64 0] rfl
  have hO := refOpen _ A n c l (hin.quiet HS0.mod) hn
  have H0 := Lib.hid (And.intro HS0 hin)
  clear HS0 hin
  go_enter Tryz.func23, Tryz.ntmps23
  go_wp2_with fail
  refine hO.mono ?_
  clear hO
  rintro e w1 ⟨g, rfl, hR, hg, hm⟩
  have hg1 : w.heap.size < g := by have : w.heap.size + 1 ≤ g := by simpa using hg
                                   omega
  have H1 := Lib.hid (And.intro hR (Sat.after hm H0.out.1))
  clear hR hm hg
  go_wp2_with fail
  refine (refRGet w1 g l 0 16 H1.out.1 hll (by omega) (by omega)).mono ?_
  intro e w2 hpost
  have hP : ∃ v, e = .returned v ∧ RRd w2 g l (if 16 ≤ 8 * l.length then 16 else 0) ∧ Mod (· = g) w1 w2 := by
    rcases hpost with ⟨h1, rfl, hm⟩ | ⟨h1, rfl, hr, hm⟩
    · exact ⟨_, rfl, by rw [if_neg (by omega)]; exact H1.out.1.quiet hm, hm.mono (fun _ h => h.elim)⟩
    · exact ⟨_, rfl, by rw [if_pos (by omega)]; exact hr, hm⟩
  clear hpost
  obtain ⟨v2, rfl, hR2, hm2⟩ := hP
  have S2 := (H1.out.2).beside hm2 (S' := (· = g)) (fun i e => .inr (by omega)) (by
    intro e he
    simp only [List.append_nil, List.mem_cons, List.not_mem_nil, or_false] at he
    subst he
    dsimp only
    omega)
  obtain ⟨I0, hI0⟩ : ∃ I0, I0 = if 16 ≤ 8 * l.length then 16 else 0 := ⟨_, rfl⟩
  rw [← hI0] at hR2
  have H2 := Lib.hid (And.intro hR2 (And.intro S2 hI0))
  clear hR2 S2 hm2 H1 hI0
  go_wp2_with fail
  refine (refGGet' w2 g l I0 H2.out.1 hll).mono ?_
  rintro e w3 ⟨x, e1, rfl, h1, hR3, hm3⟩
  have S3 := (H2.out.2.1).beside hm3 (fun i e => .inr (by omega)) (by
    intro e he
    simp only [List.append_nil, List.mem_cons, List.not_mem_nil, or_false] at he
    subst he
    dsimp only
    omega)
  have H3 := Lib.hid (And.intro hR3 (And.intro S3 (And.intro h1 H2.out.2.2)))
  clear hR3 S3 hm3 h1 H2
  go_wp2_with fail
  refine (refGGet' w3 g l _ H3.out.1 hll).mono ?_
  rintro e w4 ⟨y, e2, rfl, h1, hR4, hm4⟩
  have S4 := (H3.out.2.1).beside hm4 (fun i e => .inr (by omega)) (by
    intro e he
    simp only [List.append_nil, List.mem_cons, List.not_mem_nil, or_false] at he
    subst he
    dsimp only
    omega)
  have H4 := Lib.hid (And.intro hR4 (And.intro S4 (And.intro h1 H3.out.2.2)))
  clear hR4 S4 hm4 h1 H3
  go_wp2_with fail
  refine (refGGet' w4 g l _ H4.out.1 hll).mono ?_
  rintro e w5 ⟨z, e3, rfl, h1, hR5, hm5⟩
  have S5 := (H4.out.2.1).beside hm5 (fun i e => .inr (by omega)) (by
    intro e he
    simp only [List.append_nil, List.mem_cons, List.not_mem_nil, or_false] at he
    subst he
    dsimp only
    omega)
  have H5 := Lib.hid (And.intro S5 (And.intro h1 H4.out.2.2))
  clear hR5 S5 hm5 h1 H4
  go_upto_region 6 with (fail)
  go_cut [54] (fun v54 wx => v54 = .bool (BadB e1 e2 e3 x y z) ∧ wx = w5)
  case first =>
    cases b1 : (e1 != 0)
    · cases b2 : (e2 != 0)
      · cases b3 : (e3 != 0)
        · by_cases b4 : 999 < x
          · have d4 : decide (999 < (x : Int)) = true := decide_eq_true (by omega)
            have F : true = BadB e1 e2 e3 x y z := by simp [BadB, b4]
            have HF := Lib.hid F
            clear F b4
            go_wp2_with fail
            go_meet
            exact ⟨congrArg Value.bool HF.out, rfl⟩
          · have d4 : decide (999 < (x : Int)) = false := decide_eq_false (by omega)
            by_cases b5 : 999 < y
            · have d5 : decide (999 < (y : Int)) = true := decide_eq_true (by omega)
              have F : true = BadB e1 e2 e3 x y z := by simp [BadB, b5]
              have HF := Lib.hid F
              clear F b4 b5
              go_wp2_with fail
              go_meet
              exact ⟨congrArg Value.bool HF.out, rfl⟩
            · have d5 : decide (999 < (y : Int)) = false := decide_eq_false (by omega)
              by_cases b6 : 999 < z
              · have d6 : decide (999 < (z : Int)) = true := decide_eq_true (by omega)
                have F : true = BadB e1 e2 e3 x y z := by simp [BadB, b6]
                have HF := Lib.hid F
                clear F b4 b5 b6
                go_wp2_with fail
                go_meet
                exact ⟨congrArg Value.bool HF.out, rfl⟩
              · have d6 : decide (999 < (z : Int)) = false := decide_eq_false (by omega)
                have F : false = BadB e1 e2 e3 x y z := by simp [BadB, b1, b2, b3]; omega
                have HF := Lib.hid F
                clear F b4 b5 b6
                go_wp2_with fail
                go_meet
                exact ⟨congrArg Value.bool HF.out, rfl⟩
        · have F : true = BadB e1 e2 e3 x y z := by simp [BadB, b3]
          have HF := Lib.hid F
          clear F
          go_wp2_with fail
          go_meet
          exact ⟨congrArg Value.bool HF.out, rfl⟩
      · have F : true = BadB e1 e2 e3 x y z := by simp [BadB, b2]
        have HF := Lib.hid F
        clear F
        go_wp2_with fail
        go_meet
        exact ⟨congrArg Value.bool HF.out, rfl⟩
    · have F : true = BadB e1 e2 e3 x y z := by simp [BadB, b1]
      have HF := Lib.hid F
      clear F
      go_wp2_with fail
      go_meet
      exact ⟨congrArg Value.bool HF.out, rfl⟩
  case rest =>
    obtain ⟨rfl, rfl⟩ := hcut
    rename World => wx
    obtain ⟨h3, h2, h1, hI⟩ := H5.out.2
    have hz := H5.out.1.own_ 0 rfl
    dsimp only at hz
    obtain ⟨rc, rf⟩ := hz.both
    have hzl := hz.lt
    cases hB : BadB e1 e2 e3 x y z with
    | true =>
      have hN := rseq_bad hI h1 h2 h3 hB
      have HN := Lib.hid (And.intro hN H5.out.1.mod)
      clear hN h1 h2 h3 hI hB hz H5
      go_wp2_with fail
      refine bodyPost_ret (v := .tuple #[.agg #[.int .i64 0, .int .i64 0, .int .i64 0], .int .i64 121]) (by simp [results, Tryz.results23, go_sem, rc]) rfl ⟨?_, .inl ⟨HN.out.1, rfl⟩⟩
      have M := HN.out.2
      exact (by repeat' (first | with_reducible exact M | with_reducible refine Mod.setCell ?_ ?_ _ | exact Or.inr (Nat.le_refl _)))
    | false =>
      obtain ⟨x9, y9, z9, hN⟩ := rseq_good hI h1 h2 h3 hB
      have HN := Lib.hid hN
      clear hN h1 h2 h3 hI hB
      have SA := H5.out.1.alloc 43 #[.int .i64 (16 * ((x : Int) + 1)), .int .i64 (16 * ((y : Int) + 1)), .int .i64 ((z : Int) + 1)] rfl
      have hSq := refSeq (wx.alloc (.cells #[.int .i64 (16 * ((x : Int) + 1)), .int .i64 (16 * ((y : Int) + 1)), .int .i64 ((z : Int) + 1)] 43)) (16 * ((x : Int) + 1)) (16 * ((y : Int) + 1)) ((z : Int) + 1) ⟨by omega, by omega⟩ ⟨by omega, by omega⟩ ⟨by omega, by omega⟩
      have HA := Lib.hid SA
      clear SA hz rc rf hzl
      go_wp2_with fail
      refine hSq.mono ?_
      clear hSq
      rintro e w7 ⟨hm, ⟨hr, rfl⟩ | ⟨hr, s, rfl, hs⟩⟩
      · have S7 := HA.out.quiet hm
        have hz := S7.own_ 1 rfl
        dsimp only at hz
        obtain ⟨rc, rf⟩ := hz.both
        have hzl := hz.lt
        have hN2 : rseqParse l = none := by rw [HN.out, if_neg (fun h => by rw [hr] at h; exact absurd h.1 (by decide))]
        have H7 := Lib.hid (And.intro S7.mod hN2)
        clear S7 hz hm hr hN2 H5 HA
        go_wp2_with fail
        refine bodyPost_ret (v := .tuple #[.agg #[.int .i64 0, .int .i64 0, .int .i64 0], .int .i64 121]) (by simp [results, Tryz.results23, go_sem, rc]) rfl ⟨?_, .inl ⟨H7.out.2, rfl⟩⟩
        have M := H7.out.1
        exact (by repeat' (first | with_reducible exact M | with_reducible refine Mod.setCell ?_ ?_ _ | exact Or.inr (Nat.le_refl _)))
      · have S7 := HA.out.quiet hm
        have hz := S7.own_ 1 rfl
        have hq := S7.own_ 0 rfl
        dsimp only at hz hq
        obtain ⟨rc, rf⟩ := hz.both
        obtain ⟨qc, qf⟩ := hq.both
        have hzl := hz.lt
        have hi7 := H0.out.2.quiet S7.mod
        have k2 := str_src w7 A n c l hi7.1 hi7.2.2.1
        obtain ⟨As, cs, rfl⟩ := own_shape hs
        have k1 := str_bytes hs
        by_cases hEq : seqB (16 * ((x : Int) + 1)) (16 * ((y : Int) + 1)) ((z : Int) + 1) = l
        · have hN2 : rseqParse l = some (16 * ((x : Int) + 1), 16 * ((y : Int) + 1), (z : Int) + 1) := by rw [HN.out, if_pos ⟨hr, hEq⟩]
          have H7 := Lib.hid (And.intro S7 hN2)
          rw [hEq] at k1 ⊢
          clear S7 hz hm hr hN2 H5 HA hi7 hq hs hEq
          go_wp2_with fail
          refine bodyPost_ret (v := .tuple #[.agg #[.int .i64 (16 * ((x : Int) + 1)), .int .i64 (16 * ((y : Int) + 1)), .int .i64 ((z : Int) + 1)], .int .i64 0]) (by simp [results, Tryz.results23, go_sem, rc]) rfl ⟨?_, .inr ⟨_, _, _, H7.out.2, rfl⟩⟩
          have M := H7.out.1.mod
          exact (by repeat' (first | with_reducible exact M | with_reducible refine Mod.setCell ?_ ?_ _ | exact Or.inr (Nat.le_refl _)))
        · have hN2 : rseqParse l = none := by rw [HN.out, if_neg (fun h => hEq h.2)]
          have hne := strOf_ne hEq
          have H7 := Lib.hid (And.intro S7 hN2)
          have hb1 := strL_ne hEq
          generalize strOf (seqB (16 * ((x : Int) + 1)) (16 * ((y : Int) + 1)) ((z : Int) + 1)) = s1 at *
          clear S7 hz hm hr hN2 H5 HA hi7 hq hs hEq
          go_wp2_with fail
          refine bodyPost_ret (v := .tuple #[.agg #[.int .i64 0, .int .i64 0, .int .i64 0], .int .i64 121]) (by simp [results, Tryz.results23, go_sem, rc]) rfl ⟨?_, .inl ⟨H7.out.2, rfl⟩⟩
          have M := H7.out.1.mod
          exact (by repeat' (first | with_reducible exact M | with_reducible refine Mod.setCell ?_ ?_ _ | exact Or.inr (Nat.le_refl _)))
end Go.Proofs.YteppnjgfebcmjaaGreat
