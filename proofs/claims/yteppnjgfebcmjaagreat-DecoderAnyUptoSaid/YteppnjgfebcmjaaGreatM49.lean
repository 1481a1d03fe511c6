/-
  kinoralaw13.DecoderAny, walked.
-/
import Derived.Test.YteppnjgfebcmjaaGreatM47
import Derived.Test.YteppnjgfebcmjaaGreatM48
import Derived.Deep.DeepCutAuto
namespace Go.Proofs.YteppnjgfebcmjaaGreat
open Go.RowKit

def AnyRel (w : World) (d : Dim) (G : Int) (dg mg n1 : Nat) (v13 : Value) (wr : World) : Prop :=
  ∃ (k : Nat) (nx : Int) (ah : Option Pix), k ≤ n1 ∧ v13 = .int .i64 (k : Int) ∧ (0 ≤ nx ∧ nx < 64) ∧ DecAt wr dg d G nx ah ∧ DecAt wr mg d G nx ah ∧ Mod (fun _ => False) w wr

set_option maxRecDepth 100000 in
set_option maxHeartbeats 40000000 in
theorem decoderAny_walk (A0 A1 A2 : Option Addr) (n0 c0 n1 c1 n2 c2 : Nat) (l0 l2 : List UInt8) (ls : List (List UInt8)) (w : World) (h0 : BytesIn w A0 n0 c0 l0) (h1 : RowsIn w A1 n1 ls) (h2 : BytesIn w A2 n2 c2 l2) (hn0 : n0 ≤ 1048576) (hn1 : n1 ≤ 9223372036854775807) :
    Calls Tryz.prog 7 #[.slice A0 n0 c0, .slice A1 n1 c1, .slice A2 n2 c2] w fun e w' => e = .returned (.bool true) ∧ Below w.heap.size w w' := by
  have H0 := Lib.hid (And.intro h0 (And.intro h1 h2))
  clear h0 h1 h2
  go_enter Tryz.func7, Tryz.ntmps7
  go_wp2_with fail
  refine (lFits _ A1 n1 c1 ls H0.out.2.1 hn1).mono ?_
  rintro e w1 ⟨b1, rfl, hb1, rfl⟩
  have HB1 := Lib.hid hb1
  clear hb1
  go_wp2_with fail
  refine (lSmall _ A0 n0 c0 l0 H0.out.1 hn0).mono ?_
  rintro e w2 ⟨b2, rfl, hb2, hm2⟩
  have HB2 := Lib.hid (And.intro hb2 hm2)
  clear hb2 hm2
  have hcase : b1 = false ∨ (b1 = true ∧ b2 = false) ∨ (b1 = true ∧ b2 = true ∧ decide (3000 < (n2 : Int)) = true) ∨ (b1 = true ∧ b2 = true ∧ decide (3000 < (n2 : Int)) = false) := by
    cases b1 <;> cases b2 <;> cases h : decide (3000 < (n2 : Int)) <;> simp
  go_wp2_with fail
  refine (decNew' w2 A0 n0 c0 l0 (H0.out.1.quiet HB2.out.2) hn0).mono ?_
  rintro e w3 ⟨hm3, ⟨hs, rfl⟩ | ⟨d, G, dg, hd, hs, rfl, hD, hdg⟩⟩
  · have H3 := Lib.hid (And.intro hs (HB2.out.2.trans hm3))
    clear hs hm3
    go_wp2_with fail
    refine (decNew' w3 A0 n0 c0 l0 (H0.out.1.quiet H3.out.2) hn0).mono ?_
    rintro e w4 ⟨hm4, ⟨hs, rfl⟩ | ⟨d, G, dg, hd, hs, rfl, hD, hdg⟩⟩
    · have H4 := Lib.hid (H3.out.2.trans hm4)
      clear hs hm4
      rcases hcase with rfl | ⟨rfl, rfl⟩ | ⟨rfl, rfl, d1⟩ | ⟨rfl, rfl, d1⟩
      all_goals
        go_wp2_with fail
        refine (alive13 _).mono ?_
        rintro e w5 ⟨rfl, hm⟩
        have H5 := Lib.hid (H4.out.trans hm)
        clear hm
        go_wp2_with fail
        go_ret
        exact ⟨rfl, H5.out.below (fun _ h => h.elim)⟩
    · exfalso
      rw [H3.out.1] at hs
      cases hs
  have H3 := Lib.hid (And.intro hs (And.intro (HB2.out.2.trans hm3) (And.intro hD hd)))
  have hdgl := hD.lt
  have hw2 := HB2.out.2.size
  have hdw : w.heap.size ≤ dg := by omega
  clear hs hm3 hD hd
  go_wp2_with fail
  refine (decNew' w3 A0 n0 c0 l0 (H0.out.1.quiet H3.out.2.1) hn0).mono ?_
  rintro e w4 ⟨hm4, ⟨hs, rfl⟩ | ⟨d', G', mg, hd', hs, rfl, hE, hmg⟩⟩
  · exfalso
    rw [H3.out.1] at hs
    cases hs
  obtain ⟨rfl, hE⟩ : G' = G ∧ DecAt w4 mg d G 0 none := by
    rw [H3.out.1] at hs
    injection hs with hs
    injection hs with e1 e2
    injection e2 with e2 e3
    subst e3
    obtain ⟨fr, ay, au, av, hb, hl, hn, hf⟩ := hE
    exact ⟨rfl, fr, ay, au, av, by rw [e1, e2]; exact hb, hl, hn, fun f e => by cases e⟩
  have hmd : dg ≠ mg := by omega
  have hmw : w.heap.size ≤ mg := by omega
  have H4 := Lib.hid (And.intro (H3.out.2.1.trans hm4) (And.intro (H3.out.2.2.1.quiet hm4) hE))
  clear hs hm4 hE hd'
  rcases hcase with rfl | ⟨rfl, rfl⟩ | ⟨rfl, rfl, d1⟩ | ⟨rfl, rfl, d1⟩
  iterate 3
    · go_wp2_with fail
      refine (alive13 _).mono ?_
      rintro e w5 ⟨rfl, hm⟩
      have H5 := Lib.hid (H4.out.1.trans hm)
      clear hm
      go_wp2_with fail
      go_ret
      exact ⟨rfl, H5.out.below (fun _ h => h.elim)⟩
  have hn2 : n2 ≤ 3000 := by
    have := of_decide_eq_false d1
    omega
  have hn8 : n1 ≤ 8 := (HB1.out (by trivial)).1
  clear hdgl hw2 hdg hmg
  go_wp2_with fail
  go_loopw [13] (AnyRel w d G' dg mg n1) (fun i _ => n1 - (intOf i).toNat)
  case atStart => exact ⟨0, 0, none, by omega, rfl, ⟨by omega, by omega⟩, H4.out.2.1, H4.out.2.2, H4.out.1⟩
  case round =>
    clear H4
    obtain ⟨k, nx, ah, hk, rfl, hnx, hD, hE, hM⟩ := hrel
    rename World => wr
    obtain ⟨nx0, nx1⟩ := hnx
    by_cases hlt : k < n1
    · obtain ⟨b, off, Ai, ni, ci, hA, hbl, hcell, hin⟩ := (H0.out.2.1.quiet hM).at_ k hlt
      have hni : ni ≤ 1048576 := by
        have h1 := (HB1.out (by trivial)).2 k hlt
        have h2 := hin.1
        omega
      subst hA
      have d2 : decide ((k : Int) < (n1 : Int)) = true := decide_eq_true (by omega)
      have HR := Lib.hid (And.intro hD (And.intro hE (And.intro hM hin)))
      clear hD hE hM hin
      go_wp2_with fail
      refine (HR.out.1.next).mono ?_
      rintro e wr' ⟨rfl, rfl⟩
      go_wp2_with fail
      refine (decFrame wr dg d H3.out.2.2.2 G' nx ah Ai ni ci _ HR.out.1 HR.out.2.2.2 hni).mono ?_
      rintro e w5 (⟨er, hfe, rfl, hm5⟩ | ⟨f, nx', p, hf, rfl, ⟨x1, x2, x3, rfl, hfa, lx1, lx2, lx3⟩, hD5, hm5⟩)
      · have hE5 := HR.out.2.1.quiet hm5
        have hM5 := HR.out.2.2.1.trans hm5
        have hD5 := HR.out.1.quiet hm5
        have hin5 := HR.out.2.2.2.quiet hm5
        have hc5 := (World.cell?_of_block (hm5.block b hbl (fun h => h))).trans hcell
        have hbl5 := Nat.lt_of_lt_of_le hbl hm5.size
        have hx5 := Blk.new w5 37 #[.int .i64 0, .int .i64 0, .slice none 0 0, .int .i64 0, .int .i64 0, .slice none 0 0, .int .i64 0, .int .i64 0, .slice none 0 0]
        have mA : Mod (fun _ => False) w5 (w5.alloc (.cells #[.int .i64 0, .int .i64 0, .slice none 0 0, .int .i64 0, .int .i64 0, .slice none 0 0, .int .i64 0, .int .i64 0, .slice none 0 0] 37)) := (Mod.refl _ _).alloc _
        have H5 := Lib.hid (And.intro (hD5.quiet mA) (And.intro (hE5.quiet mA) (And.intro (hM5.trans mA) (And.intro (hin5.quiet mA) (And.intro hx5 hfe)))))
        clear hE5 hM5 hD5 hin5 hx5 hm5 mA hfe hcell
        unfold noFrame
        go_wp2_with fail
        refine (decFrame _ mg d H3.out.2.2.2 G' nx ah Ai ni ci _ H5.out.2.1 H5.out.2.2.2.1 hni).mono ?_
        rintro e w6 (⟨er', hfe', rfl, hm6⟩ | ⟨f, nx', p, hf, rfl, _, _, _⟩)
        · have e1 : er' = er := by
            have h1 := H5.out.2.2.2.2.2
            rw [hfe'] at h1
            injection h1
          subst e1
          have her := frameS_err hfe'
          have her0 : (er' != 0) = true := by simp; omega
          have her1 : (er' == 0) = false := by simp; omega
          have mA : Mod (fun _ => False) w6 (w6.alloc (.cells #[.int .i64 0, .int .i64 0, .slice none 0 0, .int .i64 0, .int .i64 0, .slice none 0 0, .int .i64 0, .int .i64 0, .slice none 0 0] 37)) := (Mod.refl _ _).alloc _
          have mB := hm6.trans mA
          have hx := H5.out.2.2.2.2.1.keep mB (fun h => h)
          have hy := Blk.new w6 37 #[.int .i64 0, .int .i64 0, .slice none 0 0, .int .i64 0, .int .i64 0, .slice none 0 0, .int .i64 0, .int .i64 0, .slice none 0 0]
          have hxl := hx.lt
          have H6 := Lib.hid (And.intro (H5.out.1.quiet mB) (And.intro (H5.out.2.1.quiet mB) (H5.out.2.2.1.trans mB)))
          clear H5 hm6 mA mB hfe' HR
          unfold noFrame
          go_upto_region 13 with (fail)
          go_cut [143] (fun v143 wx => v143 = .bool false ∧ DecAt wx dg d G' nx ah ∧ DecAt wx mg d G' nx ah ∧ Mod (fun _ => False) w wx)
          case first =>
            clear H0 HB1 HB2 H3
            refine wp_region_planS [6, 31, 38, 47] [34, 35, 36, 43, 44, 45] (0 :: 1 :: 2 :: 3 :: 4 :: 5 :: 6 :: 7 :: 8 :: 9 :: 10 :: 11 :: 12 :: 13 :: 14 :: 15 :: 16 :: 17 :: 18 :: 19 :: 20 :: 21 :: 22 :: 23 :: 24 :: 25 :: 26 :: 27 :: 28 :: 29 :: 30 :: 31 :: 32 :: 33 :: 37 :: 34 :: 35 :: 36 :: 38 :: 39 :: 40 :: 41 :: 42 :: 46 :: 43 :: 44 :: 45 :: 47 :: 48 :: 49 :: 50 :: 51 :: 52 :: []) (fun _ => True) (by kernel_rfl) (by kernel_rfl) (fun _ _ _ d _ h => by cases d <;> exact h) trivial ?_
            iterate 4 (refine planS_still rfl rfl (fun K hK => ?_); go_simp; refine hK _ ?_; clear hK K)
            refine planS_row rfl rfl _ _ rfl rfl w5.heap.size rfl 37 #[.int .i64 0, .int .i64 0, .slice none 0 0, .int .i64 0, .int .i64 0, .slice none 0 0, .int .i64 0, .int .i64 0, .slice none 0 0] _ hx.drew Tryz.underlying37 rfl (by kernel_rfl) ?_
            refine planS_row rfl rfl _ _ rfl rfl w6.heap.size rfl 37 #[.int .i64 0, .int .i64 0, .slice none 0 0, .int .i64 0, .int .i64 0, .slice none 0 0, .int .i64 0, .int .i64 0, .slice none 0 0] _ hy.drew Tryz.underlying37 rfl (by kernel_rfl) ?_
            refine planS_loud rfl rfl (fun K hK => ?_)
            go_simp
            refine (same_no _).mono ?_
            rintro e w8 ⟨rfl, hm8⟩
            dsimp only []
            refine hK _ _ trivial ?_
            clear hK K
            have mE : Mod (fun _ => False) (w6.alloc (.cells #[.int .i64 0, .int .i64 0, .slice none 0 0, .int .i64 0, .int .i64 0, .slice none 0 0, .int .i64 0, .int .i64 0, .slice none 0 0] 37)) w8 := ((Mod.refl (fun _ => False) _).drew).trans hm8
            have hx8 := hx.keep mE (fun h => h)
            have k2 : w8.cell? ⟨w5.heap.size, 2, none⟩ = some (.slice none 0 0) := hx8.cell 2
            have H8 := Lib.hid (And.intro (H6.out.1.quiet mE) (And.intro (H6.out.2.1.quiet mE) (H6.out.2.2.trans mE)))
            clear hm8 mE hx8 hx hy
            iterate 13 (refine planS_still rfl rfl (fun K hK => ?_); go_simp; refine hK _ ?_; clear hK K)
            refine planS_still rfl rfl (fun K hK => ?_)
            go_simp
            refine ⟨_, (H8.out.1.next).mono (fun _ _ ⟨a, b⟩ => ⟨a, b.symm⟩), hK _ ?_⟩
            clear hK K
            iterate 10 (refine planS_still rfl rfl (fun K hK => ?_); go_simp; refine hK _ ?_; clear hK K)
            refine planS_loud rfl rfl (fun K hK => ?_); go_simp; refine hK _ _ trivial ?_; clear hK K
            iterate 3 (refine planS_still rfl rfl (fun K hK => ?_); go_simp; refine hK _ ?_; clear hK K)
            iterate 3 (refine planS_not rfl rfl rfl ?_)
            refine planS_loud rfl rfl (fun K hK => ?_); go_simp; refine hK _ _ trivial ?_; clear hK K
            iterate 5 (refine planS_still rfl rfl (fun K hK => ?_); go_simp; refine hK _ ?_; clear hK K)
            iterate 3 (refine planS_not rfl rfl rfl ?_)
            refine planS_loud rfl rfl (fun K hK => ?_); go_simp; refine hK _ _ trivial ?_; clear hK K
            iterate 5 (refine planS_still rfl rfl (fun K hK => ?_); go_simp; refine hK _ ?_; clear hK K)
            refine planS_done ?_
            go_wp2_with fail
            go_meet
            exact ⟨rfl, H8.out.1, H8.out.2.1, H8.out.2.2⟩
          case rest =>
            obtain ⟨rfl, hD, hE, hM⟩ := hcut
            rename World => wx
            have HR := Lib.hid (And.intro hD (And.intro hE hM))
            clear hD hE hM
            go_wp2_with fail
            refine (decNew' wx A0 n0 c0 l0 (H0.out.1.quiet HR.out.2.2) hn0).mono ?_
            rintro e wy ⟨hm, ⟨hs, rfl⟩ | ⟨d', G2, wg, hd', hs, rfl, hW, hwg⟩⟩
            · exfalso
              rw [H3.out.1] at hs
              cases hs
            have hW := same_dim H3.out.1 hs hW
            have hwl := HR.out.1.lt
            have hwl2 := HR.out.2.1.lt
            have HW := Lib.hid (And.intro hW (And.intro (HR.out.1.quiet hm) (And.intro (HR.out.2.1.quiet hm) (HR.out.2.2.trans hm))))
            clear hW hs hd' hm HR
            go_wp2_with fail
            refine (decFrame wy wg d H3.out.2.2.2 G' 0 none A2 n2 c2 l2 HW.out.1 (H0.out.2.2.quiet HW.out.2.2.2) (by omega)).mono ?_
            rintro e wz (⟨er2, hfe, rfl, hm⟩ | ⟨f2, m2, p2, hf2, rfl, ⟨z1, z2, z3, rfl, hfa2, _, _, _⟩, hD2, hm⟩)
            · have HZ := Lib.hid (And.intro (HW.out.2.1.quiet hm) (And.intro (HW.out.2.2.1.quiet hm) (And.intro (HW.out.2.2.2.trans hm) hfe)))
              clear hm HW
              rcases frameS_err hfe with rfl | rfl | rfl
              · clear hfe
                unfold noFrame
                go_wp2_with fail
                have mA : Mod (fun _ => False) wz (wz.alloc (.cells #[.int .i64 0, .int .i64 0, .slice none 0 0, .int .i64 0, .int .i64 0, .slice none 0 0, .int .i64 0, .int .i64 0, .slice none 0 0] 37)) := (Mod.refl _ _).alloc _
                refine (decFrame _ dg d H3.out.2.2.2 G' nx ah A2 n2 c2 l2 (HZ.out.1.quiet mA) ((H0.out.2.2.quiet HZ.out.2.2.1).quiet mA) (by omega)).mono ?_
                rintro e wq (⟨er3, hfe3, rfl, hm⟩ | ⟨f3, m3, p3, hf3, rfl, _, _, _⟩)
                · have HQ := Lib.hid (And.intro ((HZ.out.1.quiet mA).quiet hm) (And.intro ((HZ.out.2.1.quiet mA).quiet hm) ((HZ.out.2.2.1.trans mA).trans hm)))
                  clear hm hfe3 mA HZ
                  unfold noFrame
                  go_wp2_with fail
                  go_roundw
                  case rel => exact ⟨k + 1, nx, ah, by omega, by go_num, ⟨nx0, nx1⟩, HQ.out.1, HQ.out.2.1, HQ.out.2.2⟩
                  case measure => simp [intOf]; omega
                · exfalso
                  have h1 := frameS_bad0 HZ.out.2.2.2 (by simp) (nx := nx) (ah := ah)
                  rw [hf3] at h1
                  cases h1
              · clear hfe
                unfold noFrame
                go_wp2_with fail
                go_roundw
                case rel => exact ⟨k + 1, nx, ah, by omega, by go_num, ⟨nx0, nx1⟩, HZ.out.1.quiet ((Mod.refl _ _).alloc _), HZ.out.2.1.quiet ((Mod.refl _ _).alloc _), HZ.out.2.2.1.alloc _⟩
                case measure => simp [intOf]; omega
              · clear hfe
                unfold noFrame
                go_wp2_with fail
                have mA : Mod (fun _ => False) wz (wz.alloc (.cells #[.int .i64 0, .int .i64 0, .slice none 0 0, .int .i64 0, .int .i64 0, .slice none 0 0, .int .i64 0, .int .i64 0, .slice none 0 0] 37)) := (Mod.refl _ _).alloc _
                refine (decFrame _ dg d H3.out.2.2.2 G' nx ah A2 n2 c2 l2 (HZ.out.1.quiet mA) ((H0.out.2.2.quiet HZ.out.2.2.1).quiet mA) (by omega)).mono ?_
                rintro e wq (⟨er3, hfe3, rfl, hm⟩ | ⟨f3, m3, p3, hf3, rfl, _, _, _⟩)
                · have HQ := Lib.hid (And.intro ((HZ.out.1.quiet mA).quiet hm) (And.intro ((HZ.out.2.1.quiet mA).quiet hm) ((HZ.out.2.2.1.trans mA).trans hm)))
                  clear hm hfe3 mA HZ
                  unfold noFrame
                  go_wp2_with fail
                  go_roundw
                  case rel => exact ⟨k + 1, nx, ah, by omega, by go_num, ⟨nx0, nx1⟩, HQ.out.1, HQ.out.2.1, HQ.out.2.2⟩
                  case measure => simp [intOf]; omega
                · exfalso
                  have h1 := frameS_bad0 HZ.out.2.2.2 (by simp) (nx := nx) (ah := ah)
                  rw [hf3] at h1
                  cases h1
            · have hDw := HW.out.2.1.beside hm (by omega) HW.out.1
              have hEw := HW.out.2.2.1.beside hm (by omega) HW.out.1
              have hMw := HW.out.2.2.2.into hm (fun i e => .inr (by omega))
              have mA : Mod (fun _ => False) wz (wz.alloc (.cells (frameV d z1 z2 z3).toArray 37)) := (Mod.refl _ _).alloc _
              have HZ := Lib.hid (And.intro (hDw.quiet mA) (And.intro (hEw.quiet mA) (hMw.trans mA)))
              clear hDw hEw hMw hm hD2 hfa2 hf2 HW mA
              unfold frameV at HZ ⊢
              go_wp2_with fail
              go_roundw
              case rel => exact ⟨k + 1, nx, ah, by omega, by go_num, ⟨nx0, nx1⟩, HZ.out.1, HZ.out.2.1, HZ.out.2.2⟩
              case measure => simp [intOf]; omega
        · exfalso
          have h1 := H5.out.2.2.2.2.2
          rw [hf] at h1
          cases h1
      · have hE5 := HR.out.2.1.beside hm5 (Ne.symm hmd) HR.out.1
        have hM5 := HR.out.2.2.1.into hm5 (fun i e => .inr (by omega))
        have hin5 := (H0.out.2.1.quiet hM5).at_ k hlt
        obtain ⟨b', off', Ai', ni', ci', hA', hbl', hcell', hin5⟩ := hin5
        injection hA' with hA'
        injection hA' with hb' ho'
        subst hb' ho'
        have hx5 := Blk.new w5 37 (frameV d x1 x2 x3).toArray
        have mA : Mod (fun _ => False) w5 (w5.alloc (.cells (frameV d x1 x2 x3).toArray 37)) := (Mod.refl _ _).alloc _
        have hcell5 := (World.cell?_of_block (mA.block b hbl' (fun h => h))).trans hcell'
        have hni' : ni' ≤ 1048576 := by
          have h1 := (HB1.out (by trivial)).2 k hlt
          have h2 := hin5.1
          omega
        have H5 := Lib.hid (And.intro (hD5.quiet mA) (And.intro (hE5.quiet mA) (And.intro (hM5.trans mA) (And.intro (hin5.quiet mA) (And.intro hx5 (And.intro hf (hfa.quiet mA)))))))
        have hnx' := frameS_ok1 hf
        have hm5s := hm5.size
        clear hE5 hM5 hD5 hin5 hx5 hm5 mA hf hcell hfa hcell'
        unfold frameV at hcell5 ⊢
        go_wp2_with fail
        rw [show w5.alloc (.cells #[.int .i64 (d.W : Int), .int .i64 (d.H : Int), .slice (some ⟨x1, 0, none⟩) d.nY d.nY, .int .i64 (d.W2 : Int), .int .i64 (d.H2 : Int), .slice (some ⟨x2, 0, none⟩) d.nC d.nC, .int .i64 (d.W2 : Int), .int .i64 (d.H2 : Int), .slice (some ⟨x3, 0, none⟩) d.nC d.nC] 37) = w5.alloc (.cells (frameV d x1 x2 x3).toArray 37) from rfl]
        refine (decFrame _ mg d H3.out.2.2.2 G' nx ah Ai' ni' ci' _ H5.out.2.1 H5.out.2.2.2.1 hni').mono ?_
        rintro e w6 (⟨er', hfe', rfl, hm6⟩ | ⟨f', nx'', p, hf', rfl, ⟨y1, y2, y3, rfl, hfa6, ly1, ly2, ly3⟩, hE6, hm6⟩)
        · exfalso
          have h1 := H5.out.2.2.2.2.2.1
          rw [hfe'] at h1
          cases h1
        · obtain ⟨rfl, rfl⟩ : f' = f ∧ nx'' = nx' := by
            have h1 := H5.out.2.2.2.2.2.1
            rw [hf'] at h1
            injection h1 with h1
            injection h1 with h1 h2
            exact ⟨h1, h2⟩
          have mA : Mod (fun _ => False) w6 (w6.alloc (.cells (frameV d y1 y2 y3).toArray 37)) := (Mod.refl _ _).alloc _
          have hmgw : mg < wr.heap.size := HR.out.2.1.lt
          have hmgl : mg < w5.heap.size := Nat.lt_of_lt_of_le hmgw hm5s
          have hx := (H5.out.2.2.2.2.1.keep hm6 (by omega)).alloc (.cells (frameV d y1 y2 y3).toArray 37)
          have hy := Blk.new w6 37 (frameV d y1 y2 y3).toArray
          have hfx := (H5.out.2.2.2.2.2.2.mod hm6 (by omega) (by omega) (by omega)).quiet mA
          have hfy := hfa6.quiet mA
          have H6 := Lib.hid (And.intro ((H5.out.1.beside hm6 hmd H5.out.2.1).quiet mA) (And.intro (hE6.quiet mA) (And.intro ((H5.out.2.2.1.into hm6 (fun i e => .inr (by omega))).trans mA) (And.intro hfx hfy))))
          clear H5 hm6 mA hE6 hfa6 hf' hfx hfy HR hm5s hmgl hmgw lx1 lx2 lx3 ly1 ly2 ly3
          unfold frameV
          go_upto_region 13 with (fail)
          rw [show w6.alloc (.cells #[.int .i64 (d.W : Int), .int .i64 (d.H : Int), .slice (some ⟨y1, 0, none⟩) d.nY d.nY, .int .i64 (d.W2 : Int), .int .i64 (d.H2 : Int), .slice (some ⟨y2, 0, none⟩) d.nC d.nC, .int .i64 (d.W2 : Int), .int .i64 (d.H2 : Int), .slice (some ⟨y3, 0, none⟩) d.nC d.nC] 37) = w6.alloc (.cells (frameV d y1 y2 y3).toArray 37) from rfl]
          go_cut [143] (fun v143 wx => v143 = .bool false ∧ DecAt wx dg d G' nx'' (some f') ∧ DecAt wx mg d G' nx'' (some f') ∧ Mod (fun _ => False) w wx)
          case first =>
            have HD := Lib.hid H3.out.2.2.2
            clear H0 HB1 HB2 H3 hcell5 hbl' hbl hni hni' d1 d2 hn2 hn8 hlt nx0 nx1 hk hnx' hmd hmw hdw hn0 hn1
            generalize hfx : (frameV d x1 x2 x3).toArray = fx at hx ⊢
            generalize hfy : (frameV d y1 y2 y3).toArray = fy at hx hy H6 ⊢
            have s1 : fx.size = 9 := by rw [← hfx]; rfl
            have s2 : fy.size = 9 := by rw [← hfy]; rfl
            have i1 : (Tryz.prog.info? 37).map (·.size) = some fx.size := by rw [s1]; kernel_rfl
            have i2 : (Tryz.prog.info? 37).map (·.size) = some fy.size := by rw [s2]; kernel_rfl
            have f0 : fx[0]? = some (.int .i64 (d.W : Int)) := by rw [← hfx]; rfl
            have f1 : fx[1]? = some (.int .i64 (d.H : Int)) := by rw [← hfx]; rfl
            have fl0 : ∀ w, (Instr.field 43 (.agg #[.int .i64 (d.W : Int), .int .i64 (d.H : Int), .int .i64 G']) 0).run Tryz.prog w = .ok (.int .i64 (d.W : Int)) w := fun _ => by kernel_rfl
            have fl1 : ∀ w, (Instr.field 43 (.agg #[.int .i64 (d.W : Int), .int .i64 (d.H : Int), .int .i64 G']) 1).run Tryz.prog w = .ok (.int .i64 (d.H : Int)) w := fun _ => by kernel_rfl
            have HF := Lib.hid (And.intro hfx hfy)
            have HX := Lib.hid (And.intro hx hy)
            clear hfx hfy hx hy s1 s2
            refine wp_region_planS [6, 31, 38, 47] [34, 35, 36, 43, 44, 45] (0 :: 1 :: 2 :: 3 :: 4 :: 5 :: 6 :: 7 :: 8 :: 9 :: 10 :: 11 :: 12 :: 13 :: 14 :: 15 :: 16 :: 17 :: 18 :: 19 :: 20 :: 21 :: 22 :: 23 :: 24 :: 25 :: 26 :: 27 :: 28 :: 29 :: 30 :: 31 :: 32 :: 33 :: 37 :: 34 :: 35 :: 36 :: 38 :: 39 :: 40 :: 41 :: 42 :: 46 :: 43 :: 44 :: 45 :: 47 :: 48 :: 49 :: 50 :: 51 :: 52 :: []) (fun w' => Blk w' w5.heap.size 37 fx) (by kernel_rfl) (by kernel_rfl) (fun _ _ _ d _ h => by cases d <;> exact h) HX.out.1.drew ?_
            iterate 4 (refine planS_still rfl rfl (fun K hK => ?_); go_simp; refine hK _ ?_; clear hK K)
            refine planS_row rfl rfl _ _ rfl rfl w5.heap.size rfl 37 fx _ HX.out.1.drew Tryz.underlying37 rfl i1 ?_
            refine planS_row rfl rfl _ _ rfl rfl w6.heap.size rfl 37 fy _ HX.out.2.drew Tryz.underlying37 rfl i2 ?_
            refine planS_loud rfl rfl (fun K hK => ?_)
            go_simp
            have mD : Mod (fun _ => False) (w6.alloc (.cells fy 37)) (w6.alloc (.cells fy 37)).drew := (Mod.refl (fun _ => False) _).drew
            have hS := same_fr (w6.alloc (.cells fy 37)).drew d HD.out f' x1 x2 x3 y1 y2 y3 (H6.out.2.2.2.1.quiet mD) (H6.out.2.2.2.2.quiet mD)
            rw [HF.out.1, HF.out.2] at hS
            refine hS.mono ?_
            clear hS
            rintro e w8 ⟨rfl, hm8⟩
            have mE := mD.trans hm8
            have hx8 := HX.out.1.keep mE (fun h => h)
            dsimp only []
            refine hK _ _ hx8 ?_
            clear hK K
            have H8 := Lib.hid (And.intro (H6.out.1.quiet mE) (And.intro (H6.out.2.1.quiet mE) (And.intro (H6.out.2.2.1.trans mE) hx8)))
            clear hm8 mE mD HX H6 hx8
            iterate 23 (refine planS_still rfl rfl (fun K hK => ?_); go_simp; refine hK _ ?_; clear hK K)
            refine planS_row rfl rfl _ _ rfl rfl w5.heap.size rfl 37 fx _ H8.out.2.2.2 Tryz.underlying37 rfl i1 ?_
            refine planS_loud rfl rfl (fun K hK => ?_)
            go_simp
            have hS := pWhole w8 d HD.out x1 x2 x3
            rw [HF.out.1] at hS
            refine hS.mono ?_
            clear hS
            rintro e w9 ⟨rfl, hm9⟩
            have hx9 := H8.out.2.2.2.keep hm9 (fun h => h)
            dsimp only []
            refine hK _ _ hx9 ?_
            clear hK K
            have H9 := Lib.hid (And.intro (H8.out.1.quiet hm9) (And.intro (H8.out.2.1.quiet hm9) (And.intro (H8.out.2.2.1.trans hm9) hx9)))
            clear hm9 hx9 H8
            iterate 3 (refine planS_still rfl rfl (fun K hK => ?_); go_simp; refine hK _ ?_; clear hK K)
            iterate 2 (refine planS_pure rfl rfl rfl (fun _ _ => rfl) ?_)
            refine planS_pure (v := .int .i64 (d.W : Int)) rfl rfl rfl (fun w' hS => ?_) ?_
            · have c0 : w'.cell? ⟨w5.heap.size, 0, none⟩ = some (.int .i64 (d.W : Int)) := (Blk.cell hS 0).trans f0
              go_simp
            refine planS_loud rfl rfl (fun K hK => ?_)
            go_simp
            refine (H9.out.1.seq).mono ?_
            rintro e w10 ⟨rfl, hm10⟩
            have hx10 := H9.out.2.2.2.keep hm10 (fun h => h)
            dsimp only []
            refine hK _ _ hx10 ?_
            clear hK K
            have H10 := Lib.hid (And.intro (H9.out.1.quiet hm10) (And.intro (H9.out.2.1.quiet hm10) (And.intro (H9.out.2.2.1.trans hm10) hx10)))
            clear hm10 hx10 H9
            iterate 5 (refine planS_still rfl rfl (fun K hK => ?_); go_simp; refine hK _ ?_; clear hK K)
            iterate 2 (refine planS_pure rfl rfl rfl (fun _ _ => rfl) ?_)
            refine planS_pure (v := .int .i64 (d.H : Int)) rfl rfl rfl (fun w' hS => ?_) ?_
            · have c0 : w'.cell? ⟨w5.heap.size, 1, none⟩ = some (.int .i64 (d.H : Int)) := (Blk.cell hS 1).trans f1
              go_simp
            refine planS_loud rfl rfl (fun K hK => ?_)
            go_simp
            refine (H10.out.1.seq).mono ?_
            rintro e w11 ⟨rfl, hm11⟩
            have hx11 := H10.out.2.2.2.keep hm11 (fun h => h)
            dsimp only []
            refine hK _ _ hx11 ?_
            clear hK K
            have H11 := Lib.hid (And.intro (H10.out.1.quiet hm11) (And.intro (H10.out.2.1.quiet hm11) (H10.out.2.2.1.trans hm11)))
            clear hm11 hx11 H10
            iterate 5 (refine planS_still rfl rfl (fun K hK => ?_); go_simp; refine hK _ ?_; clear hK K)
            refine planS_done ?_
            go_wp2_with fail
            go_meet
            exact ⟨rfl, H11.out.1, H11.out.2.1, H11.out.2.2⟩
          case rest =>
            obtain ⟨rfl, hD, hE, hM⟩ := hcut
            rename World => wx
            have HR := Lib.hid (And.intro hD (And.intro hE hM))
            clear hD hE hM
            go_wp2_with fail
            refine (decNew' wx A0 n0 c0 l0 (H0.out.1.quiet HR.out.2.2) hn0).mono ?_
            rintro e wy ⟨hm, ⟨hs, rfl⟩ | ⟨d', G2, wg, hd', hs, rfl, hW, hwg⟩⟩
            · exfalso
              rw [H3.out.1] at hs
              cases hs
            have hW := same_dim H3.out.1 hs hW
            have hwl := HR.out.1.lt
            have hwl2 := HR.out.2.1.lt
            have HW := Lib.hid (And.intro hW (And.intro (HR.out.1.quiet hm) (And.intro (HR.out.2.1.quiet hm) (HR.out.2.2.trans hm))))
            clear hW hs hd' hm HR
            go_wp2_with fail
            refine (decFrame wy wg d H3.out.2.2.2 G' 0 none A2 n2 c2 l2 HW.out.1 (H0.out.2.2.quiet HW.out.2.2.2) (by omega)).mono ?_
            rintro e wz (⟨er2, hfe, rfl, hm⟩ | ⟨f2, m2, p2, hf2, rfl, ⟨z1, z2, z3, rfl, hfa2, _, _, _⟩, hD2, hm⟩)
            · have HZ := Lib.hid (And.intro (HW.out.2.1.quiet hm) (And.intro (HW.out.2.2.1.quiet hm) (And.intro (HW.out.2.2.2.trans hm) hfe)))
              clear hm HW
              rcases frameS_err hfe with rfl | rfl | rfl
              · clear hfe
                unfold noFrame
                go_wp2_with fail
                have mA : Mod (fun _ => False) wz (wz.alloc (.cells #[.int .i64 0, .int .i64 0, .slice none 0 0, .int .i64 0, .int .i64 0, .slice none 0 0, .int .i64 0, .int .i64 0, .slice none 0 0] 37)) := (Mod.refl _ _).alloc _
                refine (decFrame _ dg d H3.out.2.2.2 G' nx'' (some f') A2 n2 c2 l2 (HZ.out.1.quiet mA) ((H0.out.2.2.quiet HZ.out.2.2.1).quiet mA) (by omega)).mono ?_
                rintro e wq (⟨er3, hfe3, rfl, hm⟩ | ⟨f3, m3, p3, hf3, rfl, _, _, _⟩)
                · have HQ := Lib.hid (And.intro ((HZ.out.1.quiet mA).quiet hm) (And.intro ((HZ.out.2.1.quiet mA).quiet hm) ((HZ.out.2.2.1.trans mA).trans hm)))
                  clear hm hfe3 mA HZ
                  unfold noFrame
                  go_wp2_with fail
                  go_roundw
                  case rel => exact ⟨k + 1, nx'', some f', by omega, by go_num, ⟨hnx'.1, hnx'.2⟩, HQ.out.1, HQ.out.2.1, HQ.out.2.2⟩
                  case measure => simp [intOf]; omega
                · exfalso
                  have h1 := frameS_bad0 HZ.out.2.2.2 (by simp) (nx := nx'') (ah := some f')
                  rw [hf3] at h1
                  cases h1
              · clear hfe
                unfold noFrame
                go_wp2_with fail
                go_roundw
                case rel => exact ⟨k + 1, nx'', some f', by omega, by go_num, ⟨hnx'.1, hnx'.2⟩, HZ.out.1.quiet ((Mod.refl _ _).alloc _), HZ.out.2.1.quiet ((Mod.refl _ _).alloc _), HZ.out.2.2.1.alloc _⟩
                case measure => simp [intOf]; omega
              · clear hfe
                unfold noFrame
                go_wp2_with fail
                have mA : Mod (fun _ => False) wz (wz.alloc (.cells #[.int .i64 0, .int .i64 0, .slice none 0 0, .int .i64 0, .int .i64 0, .slice none 0 0, .int .i64 0, .int .i64 0, .slice none 0 0] 37)) := (Mod.refl _ _).alloc _
                refine (decFrame _ dg d H3.out.2.2.2 G' nx'' (some f') A2 n2 c2 l2 (HZ.out.1.quiet mA) ((H0.out.2.2.quiet HZ.out.2.2.1).quiet mA) (by omega)).mono ?_
                rintro e wq (⟨er3, hfe3, rfl, hm⟩ | ⟨f3, m3, p3, hf3, rfl, _, _, _⟩)
                · have HQ := Lib.hid (And.intro ((HZ.out.1.quiet mA).quiet hm) (And.intro ((HZ.out.2.1.quiet mA).quiet hm) ((HZ.out.2.2.1.trans mA).trans hm)))
                  clear hm hfe3 mA HZ
                  unfold noFrame
                  go_wp2_with fail
                  go_roundw
                  case rel => exact ⟨k + 1, nx'', some f', by omega, by go_num, ⟨hnx'.1, hnx'.2⟩, HQ.out.1, HQ.out.2.1, HQ.out.2.2⟩
                  case measure => simp [intOf]; omega
                · exfalso
                  have h1 := frameS_bad0 HZ.out.2.2.2 (by simp) (nx := nx'') (ah := some f')
                  rw [hf3] at h1
                  cases h1
            · have hDw := HW.out.2.1.beside hm (by omega) HW.out.1
              have hEw := HW.out.2.2.1.beside hm (by omega) HW.out.1
              have hMw := HW.out.2.2.2.into hm (fun i e => .inr (by omega))
              have mA : Mod (fun _ => False) wz (wz.alloc (.cells (frameV d z1 z2 z3).toArray 37)) := (Mod.refl _ _).alloc _
              have HZ := Lib.hid (And.intro (hDw.quiet mA) (And.intro (hEw.quiet mA) (hMw.trans mA)))
              clear hDw hEw hMw hm hD2 hfa2 hf2 HW mA
              unfold frameV at HZ ⊢
              go_wp2_with fail
              go_roundw
              case rel => exact ⟨k + 1, nx'', some f', by omega, by go_num, ⟨hnx'.1, hnx'.2⟩, HZ.out.1, HZ.out.2.1, HZ.out.2.2⟩
              case measure => simp [intOf]; omega
    · obtain rfl : k = n1 := by omega
      have d2 : decide ((k : Int) < (k : Int)) = false := decide_eq_false (by omega)
      have HR := Lib.hid (And.intro hD (And.intro hE hM))
      clear hD hE hM
      go_wp2_with fail
      refine (HR.out.1.any.reset A2 n2 c2 l2 (H0.out.2.2.quiet HR.out.2.2) (by omega)).mono ?_
      rintro e wa (⟨hno, rfl, hm⟩ | ⟨W, H, G1, hs2, rfl, hb, hm⟩)
      · have HA := Lib.hid (And.intro (HR.out.1.quiet hm) (And.intro (HR.out.2.1.quiet hm) (HR.out.2.2.trans hm)))
        clear hno hm HR
        go_wp2_with fail
        refine (HA.out.1.next).mono ?_
        rintro e wa' ⟨rfl, rfl⟩
        go_wp2_with fail
        refine (HA.out.2.1.next).mono ?_
        rintro e wa' ⟨rfl, rfl⟩
        go_wp2_with fail
        refine (HA.out.1.any.reset A0 n0 c0 l0 (H0.out.1.quiet HA.out.2.2) hn0).mono ?_
        rintro e wb (⟨hno, rfl, hm⟩ | ⟨W, H, G1, hs2, rfl, hb, hm⟩)
        · exfalso
          rw [H3.out.1] at hno
          cases hno
        · have HB := Lib.hid (And.intro hb (HA.out.2.2.into hm (fun i e => .inr (by omega))))
          clear hs2 hb hm HA
          go_wp2_with fail
          refine (alive13 _).mono ?_
          rintro e wc ⟨rfl, hm⟩
          have HC := Lib.hid (And.intro (HB.out.1.keep hm (fun h => h)) (HB.out.2.trans hm))
          clear hm HB
          go_wp2_with fail
          refine (decNext wc dg W H G1 0 noFrame HC.out.1).mono ?_
          rintro e wd ⟨rfl, rfl⟩
          go_wp2_with fail
          go_ret
          exact ⟨rfl, HC.out.2.below (fun _ h => h.elim)⟩
      · have hany : DecAny wa dg := ⟨_, _, _, _, _, rfl, hb⟩
        have HA := Lib.hid (And.intro hany (HR.out.2.2.into hm (fun i e => .inr (by omega))))
        clear hs2 hb hm HR hany
        go_wp2_with fail
        refine (HA.out.1.reset A0 n0 c0 l0 (H0.out.1.quiet HA.out.2) hn0).mono ?_
        rintro e wb (⟨hno, rfl, hm⟩ | ⟨W, H, G1, hs2, rfl, hb, hm⟩)
        · exfalso
          rw [H3.out.1] at hno
          cases hno
        · have HB := Lib.hid (And.intro hb (HA.out.2.into hm (fun i e => .inr (by omega))))
          clear hs2 hb hm HA
          go_wp2_with fail
          refine (alive13 _).mono ?_
          rintro e wc ⟨rfl, hm⟩
          have HC := Lib.hid (And.intro (HB.out.1.keep hm (fun h => h)) (HB.out.2.trans hm))
          clear hm HB
          go_wp2_with fail
          refine (decNext wc dg W H G1 0 noFrame HC.out.1).mono ?_
          rintro e wd ⟨rfl, rfl⟩
          go_wp2_with fail
          go_ret
          exact ⟨rfl, HC.out.2.below (fun _ h => h.elim)⟩
end Go.Proofs.YteppnjgfebcmjaaGreat
