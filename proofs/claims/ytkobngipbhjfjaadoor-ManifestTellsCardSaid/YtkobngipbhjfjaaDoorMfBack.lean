/-
  kinoralaw18.ManifestBack, walked.
-/
import Derived.Test.YtkobngipbhjfjaaDoorMfAlive
import Derived.Test.YtkobngipbhjfjaaDoorMfFits
import Derived.Test.YtkobngipbhjfjaaDoorMfBackP
import Derived.Deep.DeepCutAuto
namespace Go.Proofs.YtkobngipbhjfjaaDoor
open Go.RowKit

theorem strOf_append (a b : Str) : (strOf a) ++ (strOf b) = strOf (a ++ b) := by
  rw [← strOf_of (strOf a ++ strOf b)]
  congr 1
theorem strOf_take (s : Str) (k : Nat) : (strOf s).extract 0 k = strOf (s.take k) := by
  rw [← strOf_of ((strOf s).extract 0 k), Lib.extract_from_zero, strOf_data]
/-- Parse's answer, both ways in one. -/
theorem parse_both {w w' : World} {s : Str} {e : Ending} (h : ParsePost w s e w') : Mod (fun _ => False) w w' ∧ ∃ x A n c k, e = .returned (.tuple #[.agg #[.int .i64 x.scale, .int .i64 x.tick, .slice A n c], .int .i64 k]) ∧
    ((k = 181 ∧ parseO numP s = none) ∨ (k = 0 ∧ parseO numP s = some x ∧ MfIn w' A n x)) := by
  obtain ⟨hm, h⟩ := h
  rcases h with ⟨h1, rfl⟩ | ⟨x, A, n, c, h1, rfl, h2⟩
  · exact ⟨hm, m0, none, 0, 0, 181, rfl, .inl ⟨rfl, h1⟩⟩
  · exact ⟨hm, x, A, n, c, 0, rfl, .inr ⟨rfl, h1, h2⟩⟩
def BkCut (w : World) (cs : Array Value) (wx : World) : Prop := Mod (fun _ => False) w wx ∧ Blk wx w.heap.size 24 cs
def BackPost (w : World) (e : Ending) (w' : World) : Prop := e = .returned (.bool true) ∧ Mod (fun _ => False) w w'
set_option maxRecDepth 100000 in
set_option maxHeartbeats 4000000 in
theorem back_walk (w : World) (m : Mf) (A : Option Addr) (n c : Nat) (s : Str) (h : MfIn w A n m) (he : Env w) (hs : s.length ≤ 9223372036854775807) : Calls Tryd.prog 5 #[.agg (mfV m A n c).toArray, .string (strOf s)] w (BackPost w) := by
  have hz := strOf_size s
  have mA : Mod (fun _ => False) w (w.alloc (.cells (mfV m A n c).toArray 24)) := (Mod.refl _ w).alloc _
  have hb0 : Blk (w.alloc (.cells (mfV m A n c).toArray 24)) w.heap.size 24 (mfV m A n c).toArray := Blk.new _ _ _
  have H := Lib.hid (And.intro h (And.intro he (And.intro mA hb0)))
  clear h he mA hb0
  unfold mfV at H ⊢
  by_cases hlong : 3000 < s.length
  · have d0 : decide ((3000 : Int) < (s.length : Int)) = true := decide_eq_true (by omega)
    go_enter Tryd.func5, Tryd.ntmps5
    go_wp2_with fail
    refine (pFits _ m A n c (H.out.1.quiet H.out.2.2.1)).mono ?_
    rintro e w1 ⟨b, rfl, hm1⟩
    have hM1 := H.out.2.2.1.trans hm1
    have H1 := Lib.hid hM1
    clear hM1 hm1
    cases b with
    | false =>
      go_wp2_with fail
      refine (pAlive _ (H.out.2.1.quiet H1.out)).mono ?_
      rintro e w2 ⟨rfl, hm2⟩
      have H2 := Lib.hid (H1.out.trans hm2)
      clear hm2
      go_wp2_with fail
      go_ret
      exact ⟨rfl, H2.out⟩
    | true =>
      go_wp2_with fail
      refine (pAlive _ (H.out.2.1.quiet H1.out)).mono ?_
      rintro e w2 ⟨rfl, hm2⟩
      have H2 := Lib.hid (H1.out.trans hm2)
      clear hm2
      go_wp2_with fail
      go_ret
      exact ⟨rfl, H2.out⟩
  have d0 : decide ((3000 : Int) < (s.length : Int)) = false := decide_eq_false (by omega)
  go_enter Tryd.func5, Tryd.ntmps5
  go_wp2_with fail
  refine (pFits _ m A n c (H.out.1.quiet H.out.2.2.1)).mono ?_
  rintro e w1 ⟨b, rfl, hm1⟩
  have hM1 := H.out.2.2.1.trans hm1
  cases b with
  | false =>
    have H1 := Lib.hid hM1
    clear hM1 hm1
    go_wp2_with fail
    refine (pAlive _ (H.out.2.1.quiet H1.out)).mono ?_
    rintro e w2 ⟨rfl, hm2⟩
    have H2 := Lib.hid (H1.out.trans hm2)
    clear hm2
    go_wp2_with fail
    go_ret
    exact ⟨rfl, H2.out⟩
  | true =>
    have hb1 := H.out.2.2.2.keep hm1 (fun h => h)
    have H1 := Lib.hid (And.intro hM1 hb1)
    clear hM1 hm1 hb1
    go_wp2_with fail
    refine (pParse _ s (by omega) (H.out.2.1.quiet H1.out.1)).mono ?_
    rintro e w2 h2
    obtain ⟨hm2, x, A2, n2, c2, k, rfl, hk⟩ := parse_both h2
    clear h2
    have hM2 := H1.out.1.trans hm2
    have hb2 := H1.out.2.keep hm2 (fun h => h)
    have mA2 : Mod (fun _ => False) w2 (w2.alloc (.cells #[.int .i64 x.scale, .int .i64 x.tick, .slice A2 n2 c2] 24)) := (Mod.refl _ w2).alloc _
    have hbx : Blk (w2.alloc (.cells #[.int .i64 x.scale, .int .i64 x.tick, .slice A2 n2 c2] 24)) w2.heap.size 24 #[.int .i64 x.scale, .int .i64 x.tick, .slice A2 n2 c2] := Blk.new _ _ _
    have H2 := Lib.hid (And.intro (hM2.trans mA2) (And.intro (hb2.alloc (.cells #[.int .i64 x.scale, .int .i64 x.tick, .slice A2 n2 c2] 24)) (And.intro hk (And.intro hbx mA2))))
    clear hM2 hb2 hm2 hk hbx mA2
    go_upto_if 36 with (fail)
    go_cut [] (fun wx => BkCut w #[.int .i64 m.scale, .int .i64 m.tick, .slice A n c] wx)
    case first =>
      rcases H2.out.2.2.1 with ⟨rfl, _⟩ | ⟨rfl, hp, hin⟩
      · go_wp2_with fail
        go_meet
        exact ⟨H2.out.1, H2.out.2.1⟩
      · have cx := H2.out.2.2.2.1.cell
        have hpp := parse_parts hp
        have hinx := hin.quiet H2.out.2.2.2.2
        have HP := Lib.hid (And.intro hpp.1 (And.intro hpp.2 hinx))
        clear hp hin hpp hinx
        go_wp2_with fail
        refine (pWrite _ x A2 n2 c2 HP.out.2.2 (H.out.2.1.quiet H2.out.1)).mono ?_
        rintro e w3 ⟨rfl, hm3⟩
        rw [show writeOut x = #[.string (strOf s), .int .i64 0] from by unfold writeOut; rw [if_pos HP.out.1, HP.out.2.1]]
        have hin3 := HP.out.2.2.quiet hm3
        have hM3 := H2.out.1.trans hm3
        have hb3 := H2.out.2.1.keep hm3 (fun h => h)
        have cx3 := (H2.out.2.2.2.1.keep hm3 (fun h => h)).cell
        have H3 := Lib.hid (And.intro hin3 (And.intro hM3 hb3))
        clear hin3 hM3 hb3 hm3 cx
        go_wp2_with fail
        refine (pRight _ x A2 n2 c2 H3.out.1).mono ?_
        rintro e w4 ⟨rfl, hm4⟩
        rw [HP.out.1]
        have H4 := Lib.hid (And.intro (H3.out.2.1.trans hm4) (H3.out.2.2.keep hm4 (fun h => h)))
        clear hm4 cx3
        go_wp2_with fail
        go_meet
        exact H4.out
    case rest =>
      rename World => wc
      obtain ⟨hMc, hbc⟩ := hcut
      have cc := hbc.cell
      have HC := Lib.hid (And.intro hMc (And.intro hbc (H.out.1.quiet hMc)))
      clear hMc hbc H2
      go_wp2_with fail
      refine (pWrite _ m A n c HC.out.2.2 (H.out.2.1.quiet HC.out.1)).mono ?_
      rintro e w5 ⟨rfl, hm5⟩
      have hin5 := HC.out.2.2.quiet hm5
      have hM5 := HC.out.1.trans hm5
      have hb5 := HC.out.2.1.keep hm5 (fun h => h)
      have H5 := Lib.hid (And.intro hin5 (And.intro hM5 hb5))
      clear hin5 hM5 hb5 hm5 cc
      by_cases hr : rightB m = true
      · rw [show writeOut m = #[.string (strOf (writeL m)), .int .i64 0] from by unfold writeOut; rw [if_pos hr]]
        obtain ⟨t, ht⟩ : ∃ t, t = writeL m := ⟨_, rfl⟩
        obtain ⟨hl5, hlm⟩ := write_len hr
        have hp1 : parseO numP t = some m := by rw [ht]; exact parse_write numP_spells hr
        have hp2 : parseO numP (t.take (t.length - 4)) = none := by rw [ht]; exact less_none hr
        have hp3 : parseO numP (t ++ [101, 110, 100, 10]) = none := by rw [ht]; exact more_none hr
        have hp4 : parseO numP (32 :: t) = none := blank_none t
        rw [← ht] at hl5 hlm ⊢
        have htz := strOf_size t
        have d5 : decide ((t.length : Int) < 5) = false := decide_eq_false (by omega)
        have HP := Lib.hid (And.intro hp1 (And.intro hp2 (And.intro hp3 hp4)))
        clear hp1 hp2 hp3 hp4 ht hr
        go_wp2_with fail
        refine (pParse _ t (by omega) (H.out.2.1.quiet H5.out.2.1)).mono ?_
        rintro e w6 ⟨hm6, h6⟩
        rcases h6 with ⟨h6, _⟩ | ⟨y, A6, n6, c6, h6, rfl, hin6⟩
        · rw [HP.out.1] at h6
          cases h6
        rw [HP.out.1] at h6
        injection h6 with h6
        subst h6
        have hM6 := H5.out.2.1.trans hm6
        have mA6 : Mod (fun _ => False) w6 (w6.alloc (.cells (mfV m A6 n6 c6).toArray 24)) := (Mod.refl _ w6).alloc _
        have hby : Blk (w6.alloc (.cells (mfV m A6 n6 c6).toArray 24)) w6.heap.size 24 (mfV m A6 n6 c6).toArray := Blk.new _ _ _
        have H6 := Lib.hid (And.intro (hin6.quiet mA6) (And.intro ((H5.out.1.quiet hm6).quiet mA6) (And.intro (hM6.trans mA6) (And.intro ((H5.out.2.2.keep hm6 (fun h => h)).alloc (.cells (mfV m A6 n6 c6).toArray 24)) hby))))
        clear hin6 hM6 mA6 hby hm6
        unfold mfV at H6 ⊢
        go_wp2_with fail
        rw [strOf_take]
        refine (pParse _ (t.take (t.length - 4)) (by rw [List.length_take]; omega) (H.out.2.1.quiet H6.out.2.2.1)).mono ?_
        rintro e w7 ⟨hm_w7, h_w7⟩
        rcases h_w7 with ⟨_, rfl⟩ | ⟨y, _, _, _, h_w7, _, _⟩
        case inr => rw [HP.out.2.1] at h_w7; cases h_w7
        have H7 := Lib.hid (And.intro (H6.out.2.2.1.trans hm_w7) (And.intro (H6.out.1.quiet hm_w7) (And.intro (H6.out.2.1.quiet hm_w7) (And.intro (H6.out.2.2.2.1.keep hm_w7 (fun h => h)) (H6.out.2.2.2.2.keep hm_w7 (fun h => h))))))
        clear hm_w7
        have mAw8 : Mod (fun _ => False) w7 (w7.alloc (.cells #[.int .i64 0, .int .i64 0, .slice none 0 0] 24)) := (Mod.refl _ w7).alloc _
        go_wp2_with fail
        rw [show (strOf t ++ (⟨#[101, 110, 100, 10]⟩ : ByteArray)) = strOf (t ++ [101, 110, 100, 10]) from strOf_append t [101, 110, 100, 10]]
        refine (pParse _ (t ++ [101, 110, 100, 10]) (by rw [List.length_append]; show t.length + 4 ≤ 1000000; omega) (H.out.2.1.quiet (H7.out.1.trans mAw8))).mono ?_
        rintro e w8 ⟨hm_w8, h_w8⟩
        rcases h_w8 with ⟨_, rfl⟩ | ⟨y, _, _, _, h_w8, _, _⟩
        case inr => rw [HP.out.2.2.1] at h_w8; cases h_w8
        have qw8 := mAw8.trans hm_w8
        have Hw8 := Lib.hid (And.intro (H7.out.1.trans qw8) (And.intro (H7.out.2.1.quiet qw8) (And.intro (H7.out.2.2.1.quiet qw8) (And.intro (H7.out.2.2.2.1.keep qw8 (fun h => h)) (H7.out.2.2.2.2.keep qw8 (fun h => h))))))
        clear hm_w8 qw8 mAw8 H7
        have mAw9 : Mod (fun _ => False) w8 (w8.alloc (.cells #[.int .i64 0, .int .i64 0, .slice none 0 0] 24)) := (Mod.refl _ w8).alloc _
        go_wp2_with fail
        rw [show ((⟨#[32]⟩ : ByteArray) ++ strOf t) = strOf (32 :: t) from strOf_append [32] t]
        refine (pParse _ (32 :: t) (by rw [List.length_cons]; omega) (H.out.2.1.quiet (Hw8.out.1.trans mAw9))).mono ?_
        rintro e w9 ⟨hm_w9, h_w9⟩
        rcases h_w9 with ⟨_, rfl⟩ | ⟨y, _, _, _, h_w9, _, _⟩
        case inr => rw [HP.out.2.2.2] at h_w9; cases h_w9
        have qw9 := mAw9.trans hm_w9
        have Hw9 := Lib.hid (And.intro (Hw8.out.1.trans qw9) (And.intro (Hw8.out.2.1.quiet qw9) (And.intro (Hw8.out.2.2.1.quiet qw9) (And.intro (Hw8.out.2.2.2.1.keep qw9 (fun h => h)) (Hw8.out.2.2.2.2.keep qw9 (fun h => h))))))
        clear hm_w9 qw9 mAw9 Hw8
        have mA9 : Mod (fun _ => False) w9 (w9.alloc (.cells #[.int .i64 0, .int .i64 0, .slice none 0 0] 24)) := (Mod.refl _ w9).alloc _
        go_wp2_with fail
        refine (pAlive _ (H.out.2.1.quiet (Hw9.out.1.trans mA9))).mono ?_
        rintro e w10 ⟨rfl, hm10⟩
        have q10 := mA9.trans hm10
        have cy := (Hw9.out.2.2.2.2.keep q10 (fun h => h)).cell
        have cm := (Hw9.out.2.2.2.1.keep q10 (fun h => h)).cell
        have HX := Lib.hid (And.intro (Hw9.out.1.trans q10) (And.intro (Hw9.out.2.1.quiet q10) (Hw9.out.2.2.1.quiet q10)))
        clear hm10 q10 mA9 Hw9
        go_wp2_with fail
        refine (pSame _ m m A6 A n6 c6 n c HX.out.2.1 HX.out.2.2).mono ?_
        rintro e w11 ⟨rfl, hm11⟩
        rw [decide_eq_true (rfl : m = m)]
        have HZ := Lib.hid (HX.out.1.trans hm11)
        clear hm11 cy cm
        go_wp2_with fail
        go_ret
        exact ⟨rfl, HZ.out⟩
      · rw [show writeOut m = #[.string (strOf []), .int .i64 181] from by unfold writeOut; rw [if_neg hr]]
        have hr' : rightB m = false := by simpa using hr
        have hse : (strOf []).toList = [] := strOf_toList []
        have HR := Lib.hid hr'
        clear hr hr'
        go_wp2_with fail
        refine (pAlive _ (H.out.2.1.quiet H5.out.2.1)).mono ?_
        rintro e w6 ⟨rfl, hm6⟩
        have c6 := (H5.out.2.2.keep hm6 (fun h => h)).cell
        have H6 := Lib.hid (And.intro (H5.out.1.quiet hm6) (H5.out.2.1.trans hm6))
        clear hm6
        go_wp2_with fail
        refine (pRight _ m A n c H6.out.1).mono ?_
        rintro e w7 ⟨rfl, hm7⟩
        rw [HR.out]
        have H7 := Lib.hid (H6.out.2.trans hm7)
        clear hm7 c6
        go_wp2_with fail
        go_ret
        exact ⟨rfl, H7.out⟩
end Go.Proofs.YtkobngipbhjfjaaDoor
