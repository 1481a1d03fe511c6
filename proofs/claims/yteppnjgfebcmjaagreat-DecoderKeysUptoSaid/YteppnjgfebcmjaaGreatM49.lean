/-
  kinoralaw13.DecoderKeys, walked. Written by gen_deckeys.py.
-/
import Derived.Test.YteppnjgfebcmjaaGreatM48
import Derived.Deep.DeepCutAuto
namespace Go.Proofs.YteppnjgfebcmjaaGreat
open Go.RowKit

def KeyRel1 (w : World) (d : Dim) (G : Int) (dg mg n1 : Nat) (v14 : Value) (wr : World) : Prop :=
  ∃ (k : Nat) (nx : Int) (ah : Option Pix), k ≤ n1 ∧ v14 = .int .i64 (k : Int) ∧ DecAt wr dg d G nx ah ∧ DecAt wr mg d G 0 none ∧ Mod (fun _ => False) w wr
def KeyRel2 (w : World) (d : Dim) (G : Int) (dg mg n2 : Nat) (v15 v16 : Value) (wr : World) : Prop :=
  ∃ (k : Nat) (bg : Bool) (nx nx2 : Int) (ah ah2 : Option Pix), k ≤ n2 ∧ v15 = .bool bg ∧ v16 = .int .i64 (k : Int) ∧ (bg = true → nx = nx2 ∧ ah = ah2) ∧ DecAt wr dg d G nx ah ∧ DecAt wr mg d G nx2 ah2 ∧ Mod (fun _ => False) w wr
/-- Is a frame passed over? -/
def skipB (bg : Bool) (l : List UInt8) : Bool := !bg && (decide (l.length = 0) || decide ((l.getD 0 0).toNat < 128))
theorem frame_same {d : Dim} {G nx nx2 : Int} {ah ah2 : Option Pix} {l : List UInt8} {bg : Bool} (hs : skipB bg l = false) (hb : bg = true → nx = nx2 ∧ ah = ah2) : frameS d G nx ah l = frameS d G nx2 ah2 l := by
  cases bg with
  | true =>
    obtain ⟨rfl, rfl⟩ := hb rfl
    rfl
  | false =>
    have h128 : 128 ≤ (l.getD 0 0).toNat := by
      simp only [skipB, Bool.not_false, Bool.true_and, Bool.or_eq_false_iff, decide_eq_false_iff_not] at hs
      omega
    cases hp : hdrParse l d.W d.H G with
    | none =>
      unfold frameS
      rw [hp]
    | some x =>
      obtain ⟨⟨K, N, Q⟩, a4⟩ := x
      obtain rfl := hdr_key hp h128
      exact frameS_key hp

set_option maxRecDepth 100000 in
set_option maxHeartbeats 40000000 in
theorem decoderKeys_walk (A0 A1 A2 : Option Addr) (n0 c0 n1 c1 n2 c2 : Nat) (l0 : List UInt8) (ls lt : List (List UInt8)) (w : World) (h0 : BytesIn w A0 n0 c0 l0) (h1 : RowsIn w A1 n1 ls) (h2 : RowsIn w A2 n2 lt) (hn0 : n0 ≤ 1048576) (hn1 : n1 ≤ 9223372036854775807) (hn2 : n2 ≤ 9223372036854775807) :
    Calls Tryz.prog 6 #[.slice A0 n0 c0, .slice A1 n1 c1, .slice A2 n2 c2] w fun e w' => e = .returned (.bool true) ∧ Below w.heap.size w w' := by
  have H0 := Lib.hid (And.intro h0 (And.intro h1 h2))
  clear h0 h1 h2
  go_enter Tryz.func6, Tryz.ntmps6
  go_wp2_with fail
  refine (lFits _ A1 n1 c1 ls H0.out.2.1 hn1).mono ?_
  rintro e w1 ⟨b1, rfl, hb1, rfl⟩
  have HB1 := Lib.hid hb1
  clear hb1
  go_wp2_with fail
  refine (lFits _ A2 n2 c2 lt H0.out.2.2 hn2).mono ?_
  rintro e w1 ⟨b2, rfl, hb2, rfl⟩
  have HB2 := Lib.hid hb2
  clear hb2
  go_wp2_with fail
  refine (lSmall _ A0 n0 c0 l0 H0.out.1 hn0).mono ?_
  rintro e w2 ⟨b3, rfl, hb3, hm2⟩
  have HB3 := Lib.hid hm2
  clear hb3 hm2
  have hcase : b1 = false ∨ (b1 = true ∧ b2 = false) ∨ (b1 = true ∧ b2 = true ∧ b3 = false) ∨ (b1 = true ∧ b2 = true ∧ b3 = true) := by
    cases b1 <;> cases b2 <;> cases b3 <;> simp
  go_wp2_with fail
  refine (decNew' w2 A0 n0 c0 l0 (H0.out.1.quiet HB3.out) hn0).mono ?_
  rintro e w3 ⟨hm3, ⟨hs, rfl⟩ | ⟨d, G, dg, hd, hs, rfl, hD, hdg⟩⟩
  · have H3 := Lib.hid (And.intro hs (HB3.out.trans hm3))
    clear hs hm3
    go_wp2_with fail
    refine (decNew' w3 A0 n0 c0 l0 (H0.out.1.quiet H3.out.2) hn0).mono ?_
    rintro e w4 ⟨hm4, ⟨hs, rfl⟩ | ⟨d, G, dg, hd, hs, rfl, hD, hdg⟩⟩
    · have H4 := Lib.hid (H3.out.2.trans hm4)
      clear hs hm4
      rcases hcase with rfl | ⟨rfl, rfl⟩ | ⟨rfl, rfl, rfl⟩ | ⟨rfl, rfl, rfl⟩
      all_goals
        go_wp2_with fail
        refine (alive13 _).mono ?_
        rintro e w5 ⟨rfl, hm⟩
        have H5 := Lib.hid (H4.out.trans hm)
        clear hm
        go_wp2_with fail
        go_ret
        exact ⟨rfl, H5.out.below (fun _ h => h.elim)⟩
    · exfalso
      rw [H3.out.1] at hs
      cases hs
  have H3 := Lib.hid (And.intro hs (And.intro (HB3.out.trans hm3) (And.intro hD hd)))
  have hdgl := hD.lt
  have hw2 := HB3.out.size
  have hdw : w.heap.size ≤ dg := by omega
  clear hs hm3 hD hd
  go_wp2_with fail
  refine (decNew' w3 A0 n0 c0 l0 (H0.out.1.quiet H3.out.2.1) hn0).mono ?_
  rintro e w4 ⟨hm4, ⟨hs, rfl⟩ | ⟨d', G', mg, hd', hs, rfl, hE, hmg⟩⟩
  · exfalso
    rw [H3.out.1] at hs
    cases hs
  have hE := same_dim H3.out.1 hs hE
  have hmd : dg ≠ mg := by omega
  have hmw : w.heap.size ≤ mg := by omega
  have H4 := Lib.hid (And.intro (H3.out.2.1.trans hm4) (And.intro (H3.out.2.2.1.quiet hm4) hE))
  clear hs hm4 hE hd'
  rcases hcase with rfl | ⟨rfl, rfl⟩ | ⟨rfl, rfl, rfl⟩ | ⟨rfl, rfl, rfl⟩
  iterate 3
    · go_wp2_with fail
      refine (alive13 _).mono ?_
      rintro e w5 ⟨rfl, hm⟩
      have H5 := Lib.hid (H4.out.1.trans hm)
      clear hm
      go_wp2_with fail
      go_ret
      exact ⟨rfl, H5.out.below (fun _ h => h.elim)⟩
  have hn8 : n1 ≤ 8 := (HB1.out (by trivial)).1
  have hn9 : n2 ≤ 8 := (HB2.out (by trivial)).1
  clear hdgl hw2 hdg hmg
  go_wp2_with fail
  go_loopw [14] (KeyRel1 w d G dg mg n1) (fun i _ => n1 - (intOf i).toNat)
  case atStart => exact ⟨0, 0, none, by omega, rfl, H4.out.2.1, H4.out.2.2, H4.out.1⟩
  case round =>
    clear H4
    obtain ⟨k, nx, ah, hk, rfl, hD, hE, hM⟩ := hrel
    rename World => wr
    by_cases hlt : k < n1
    · obtain ⟨b, off, Ai, ni, ci, hA, hbl, hcell, hin⟩ := (H0.out.2.1.quiet hM).at_ k hlt
      have hni : ni ≤ 1048576 := by
        have h1 := (HB1.out (by trivial)).2 k hlt
        have h2 := hin.1
        omega
      subst hA
      have d2 : decide ((k : Int) < (n1 : Int)) = true := decide_eq_true (by omega)
      have HR := Lib.hid (And.intro hD (And.intro hE (And.intro hM hin)))
      clear hD hE hM hin
      go_wp2_with fail
      refine (decFrame wr dg d H3.out.2.2.2 G nx ah Ai ni ci _ HR.out.1 HR.out.2.2.2 hni).mono ?_
      rintro e w5 (⟨er, hfe, rfl, hm5⟩ | ⟨f, nx', p, hf, rfl, _, hD5, hm5⟩)
      · have H5 := Lib.hid (And.intro (HR.out.1.quiet hm5) (And.intro (HR.out.2.1.quiet hm5) (HR.out.2.2.1.trans hm5)))
        clear hfe hm5 HR
        go_wp2_with fail
        go_roundw
        case rel => exact ⟨k + 1, nx, ah, by omega, by go_num, H5.out.1, H5.out.2.1, H5.out.2.2⟩
        case measure => simp [intOf]; omega
      · have H5 := Lib.hid (And.intro hD5 (And.intro (HR.out.2.1.beside hm5 (Ne.symm hmd) HR.out.1) (HR.out.2.2.1.into hm5 (fun i e => .inr (by omega)))))
        clear hf hm5 HR hD5
        go_wp2_with fail
        go_roundw
        case rel => exact ⟨k + 1, nx', some f, by omega, by go_num, H5.out.1, H5.out.2.1, H5.out.2.2⟩
        case measure => simp [intOf]; omega
    · obtain rfl : k = n1 := by omega
      have d2 : decide ((k : Int) < (k : Int)) = false := decide_eq_false (by omega)
      have HR := Lib.hid (And.intro hD (And.intro hE hM))
      clear hD hE hM
      go_wp2_with fail
      go_loopw [15, 16] (KeyRel2 w d G dg mg n2) (fun _ i _ => n2 - (intOf i).toNat)
      case atStart => exact ⟨0, false, nx, 0, ah, none, by omega, rfl, rfl, fun h => (by cases h), HR.out.1, HR.out.2.1, HR.out.2.2⟩
      case round =>
        clear HR
        obtain ⟨j, bg, nx, nx2, ah, ah2, hj, rfl, rfl, hbg, hD, hE, hM⟩ := hrel
        rename World => wq
        by_cases hlt2 : j < n2
        · obtain ⟨b, off, Ai, ni, ci, hA, hbw, hcw, hiw⟩ := H0.out.2.2.at_ j hlt2
          have hcell := (World.cell?_of_block (hM.block b hbw (fun h => h))).trans hcw
          have hin := hiw.quiet hM
          have hni : ni ≤ 1048576 := by
            have h1 := (HB2.out (by trivial)).2 j hlt2
            have h2 := hin.1
            omega
          subst hA
          have d3 : decide ((j : Int) < (n2 : Int)) = true := decide_eq_true (by omega)
          obtain ⟨li, hli⟩ : ∃ li, li = lt.getD j [] := ⟨_, rfl⟩
          rw [← hli] at hin hiw
          have HR := Lib.hid (And.intro hbg (And.intro hD (And.intro hE (And.intro hM hin))))
          have HI := Lib.hid (And.intro hcw hiw)
          clear hD hE hM hbg hli hcw hiw
          go_upto_region 16 with (fail)
          go_cut [100] (fun v100 wx => v100 = .bool (skipB bg li) ∧ wx = wq)
          case first =>
            have hl := hin.1
            cases bg
            · by_cases hz : ni = 0
              · subst hz
                have F : true = skipB false li := by simp [skipB, hl]
                have HF := Lib.hid F
                clear F hin hl
                go_wp2_with fail
                go_meet
                exact ⟨congrArg Value.bool HF.out, rfl⟩
              · obtain ⟨b2, o2, hA2, hb2, hc2⟩ := hin.place (by omega)
                subst hA2
                have e1 : wq.cell? ⟨b2, o2, none⟩ = some (.int .u8 ((li.getD 0 0).toNat : Int)) := hc2 0 (by omega)
                have d4 : ((ni : Int) == 0) = false := by simp; omega
                have i1 : 0 < ni := by omega
                have hx : (li.getD 0 0).toNat < 256 := UInt8.toNat_lt _
                by_cases hx8 : (li.getD 0 0).toNat < 128
                · have F : true = skipB false li := by simp only [skipB, hx8]; simp
                  have d5 : decide (((li.getD 0 0).toNat : Int) < 128) = true := decide_eq_true (by omega)
                  generalize (li.getD 0 0).toNat = x at *
                  have HF := Lib.hid F
                  clear F hin hl hc2 hx8
                  go_wp2_with fail
                  go_meet
                  exact ⟨congrArg Value.bool HF.out, rfl⟩
                · have F : false = skipB false li := by simp only [skipB, hx8]; simp; intro h0; rw [h0] at hl; simp at hl; omega
                  have d5 : decide (((li.getD 0 0).toNat : Int) < 128) = false := decide_eq_false (by omega)
                  generalize (li.getD 0 0).toNat = x at *
                  have HF := Lib.hid F
                  clear F hin hl hc2 hx8
                  go_wp2_with fail
                  go_meet
                  exact ⟨congrArg Value.bool HF.out, rfl⟩
            · go_wp2_with fail
              go_meet
              exact ⟨rfl, rfl⟩
          case rest =>
            obtain ⟨rfl, rfl⟩ := hcut
            rename World => wq
            clear hin
            cases hsk : skipB bg li with
            | true =>
              clear hsk
              go_wp2_with fail
              go_roundw
              case rel => exact ⟨j + 1, bg, nx, nx2, ah, ah2, by omega, rfl, by go_num, HR.out.1, HR.out.2.1, HR.out.2.2.1, HR.out.2.2.2.1⟩
              case measure => simp [intOf]; omega
            | false =>
              have hEq := frame_same (d := d) (G := G) hsk HR.out.1
              have HE := Lib.hid hEq
              clear hEq hsk
              go_wp2_with fail
              refine (decFrame wq dg d H3.out.2.2.2 G nx ah Ai ni ci li HR.out.2.1 HR.out.2.2.2.2 hni).mono ?_
              rintro e w5 (⟨er, hfe, rfl, hm5⟩ | ⟨f, nx', p, hf, rfl, ⟨x1, x2, x3, rfl, hfa, lx1, lx2, lx3⟩, hD5, hm5⟩)
              · have mA : Mod (fun _ => False) w5 (w5.alloc (.cells #[.int .i64 0, .int .i64 0, .slice none 0 0, .int .i64 0, .int .i64 0, .slice none 0 0, .int .i64 0, .int .i64 0, .slice none 0 0] 37)) := (Mod.refl _ _).alloc _
                have hcell5 := (World.cell?_of_block (((HR.out.2.2.2.1.trans hm5).trans mA).block b hbw (fun h => h))).trans HI.out.1
                have H5 := Lib.hid (And.intro ((HR.out.2.1.quiet hm5).quiet mA) (And.intro ((HR.out.2.2.1.quiet hm5).quiet mA) (And.intro ((HR.out.2.2.2.1.trans hm5).trans mA) (And.intro ((HR.out.2.2.2.2.quiet hm5).quiet mA) (And.intro (Blk.new w5 37 #[.int .i64 0, .int .i64 0, .slice none 0 0, .int .i64 0, .int .i64 0, .slice none 0 0, .int .i64 0, .int .i64 0, .slice none 0 0]) (And.intro hfe HR.out.1))))))
                clear hm5 hfe mA hcell HR
                unfold noFrame
                go_wp2_with fail
                refine (decFrame _ mg d H3.out.2.2.2 G nx2 ah2 Ai ni ci li H5.out.2.1 H5.out.2.2.2.1 hni).mono ?_
                rintro e w6 (⟨er', hfe', rfl, hm6⟩ | ⟨f, nx', p, hf, rfl, _, _, _⟩)
                · have e1 : er' = er := by
                    have h1 := H5.out.2.2.2.2.2.1
                    rw [HE.out, hfe'] at h1
                    injection h1
                  subst e1
                  have her := frameS_err hfe'
                  have her0 : (er' != 0) = true := by simp; omega
                  have her1 : (er' == 0) = false := by simp; omega
                  have mB : Mod (fun _ => False) (w5.alloc (.cells #[.int .i64 0, .int .i64 0, .slice none 0 0, .int .i64 0, .int .i64 0, .slice none 0 0, .int .i64 0, .int .i64 0, .slice none 0 0] 37)) (w6.alloc (.cells #[.int .i64 0, .int .i64 0, .slice none 0 0, .int .i64 0, .int .i64 0, .slice none 0 0, .int .i64 0, .int .i64 0, .slice none 0 0] 37)) := hm6.trans ((Mod.refl _ _).alloc _)
                  have hx := H5.out.2.2.2.2.1.keep mB (fun h => h)
                  have hy := Blk.new w6 37 #[.int .i64 0, .int .i64 0, .slice none 0 0, .int .i64 0, .int .i64 0, .slice none 0 0, .int .i64 0, .int .i64 0, .slice none 0 0]
                  obtain ⟨xc, xf⟩ := hx.both
                  obtain ⟨yc, yf⟩ := hy.both
                  have H6 := Lib.hid (And.intro (H5.out.1.quiet mB) (And.intro (H5.out.2.1.quiet mB) (And.intro (H5.out.2.2.1.trans mB) H5.out.2.2.2.2.2.2)))
                  clear hm6 hfe' mB hx hy H5 her
                  unfold noFrame
                  cases bg
                  · go_wp2_with fail
                    refine (same_no _).mono ?_
                    rintro e w8 ⟨rfl, hm8⟩
                    have H8 := Lib.hid (And.intro (H6.out.1.quiet hm8) (And.intro (H6.out.2.1.quiet hm8) (H6.out.2.2.1.trans hm8)))
                    clear hm8 xc xf yc yf
                    go_wp2_with fail
                    go_roundw
                    case rel => exact ⟨j + 1, false, nx, nx2, ah, ah2, by omega, rfl, by go_num, fun h => (by cases h), H8.out.1, H8.out.2.1, H8.out.2.2⟩
                    case measure => simp [intOf]; omega
                  · go_wp2_with fail
                    refine (same_no _).mono ?_
                    rintro e w8 ⟨rfl, hm8⟩
                    obtain ⟨rfl, rfl⟩ := H6.out.2.2.2 (by trivial)
                    have H8 := Lib.hid (And.intro (H6.out.1.quiet hm8) (And.intro (H6.out.2.1.quiet hm8) (H6.out.2.2.1.trans hm8)))
                    clear hm8 xc xf yc yf
                    go_wp2_with fail
                    refine (H8.out.1.next).mono ?_
                    rintro e w9 ⟨rfl, rfl⟩
                    go_wp2_with fail
                    refine (H8.out.2.1.next).mono ?_
                    rintro e w9 ⟨rfl, rfl⟩
                    go_wp2_with fail
                    go_roundw
                    case rel => exact ⟨j + 1, true, nx, nx, ah, ah, by omega, rfl, by go_num, fun _ => ⟨rfl, rfl⟩, H8.out.1, H8.out.2.1, H8.out.2.2⟩
                    case measure => simp [intOf]; omega
                · exfalso
                  have h1 := H5.out.2.2.2.2.2.1
                  rw [HE.out, hf] at h1
                  cases h1
              · have hm5s := hm5.size
                have hmgw : mg < wq.heap.size := HR.out.2.2.1.lt
                have hM5 := HR.out.2.2.2.1.into hm5 (fun i e => .inr (by omega))
                have mA : Mod (fun _ => False) w5 (w5.alloc (.cells (frameV d x1 x2 x3).toArray 37)) := (Mod.refl _ _).alloc _
                have hcell5 := (World.cell?_of_block ((hM5.trans mA).block b hbw (fun h => h))).trans HI.out.1
                have H5 := Lib.hid (And.intro (hD5.quiet mA) (And.intro ((HR.out.2.2.1.beside hm5 (Ne.symm hmd) HR.out.2.1).quiet mA) (And.intro (hM5.trans mA) (And.intro (HI.out.2.quiet (hM5.trans mA)) (And.intro (Blk.new w5 37 (frameV d x1 x2 x3).toArray) (And.intro hf (hfa.quiet mA)))))))
                clear hm5 hf mA hcell HR hM5 hD5 hfa
                unfold frameV at hcell5 ⊢
                go_wp2_with fail
                rw [show w5.alloc (.cells #[.int .i64 (d.W : Int), .int .i64 (d.H : Int), .slice (some ⟨x1, 0, none⟩) d.nY d.nY, .int .i64 (d.W2 : Int), .int .i64 (d.H2 : Int), .slice (some ⟨x2, 0, none⟩) d.nC d.nC, .int .i64 (d.W2 : Int), .int .i64 (d.H2 : Int), .slice (some ⟨x3, 0, none⟩) d.nC d.nC] 37) = w5.alloc (.cells (frameV d x1 x2 x3).toArray 37) from rfl]
                refine (decFrame _ mg d H3.out.2.2.2 G nx2 ah2 Ai ni ci li H5.out.2.1 H5.out.2.2.2.1 hni).mono ?_
                rintro e w6 (⟨er', hfe', rfl, hm6⟩ | ⟨f', nx'', p, hf', rfl, ⟨y1, y2, y3, rfl, hfa6, _, _, _⟩, hE6, hm6⟩)
                · exfalso
                  have h1 := H5.out.2.2.2.2.2.1
                  rw [HE.out, hfe'] at h1
                  cases h1
                · obtain ⟨rfl, rfl⟩ : f' = f ∧ nx'' = nx' := by
                    have h1 := H5.out.2.2.2.2.2.1
                    rw [HE.out, hf'] at h1
                    injection h1 with h1
                    injection h1 with h1 h2
                    exact ⟨h1, h2⟩
                  have mA : Mod (fun _ => False) w6 (w6.alloc (.cells (frameV d y1 y2 y3).toArray 37)) := (Mod.refl _ _).alloc _
                  have hmgl : mg < w5.heap.size := Nat.lt_of_lt_of_le hmgw hm5s
                  have hx := (H5.out.2.2.2.2.1.keep hm6 (by omega)).alloc (.cells (frameV d y1 y2 y3).toArray 37)
                  have hy := Blk.new w6 37 (frameV d y1 y2 y3).toArray
                  have hfx := (H5.out.2.2.2.2.2.2.mod hm6 (by omega) (by omega) (by omega)).quiet mA
                  have hfy := hfa6.quiet mA
                  obtain ⟨xc, xf⟩ := hx.both
                  obtain ⟨yc, yf⟩ := hy.both
                  have hSm := same_fr (w6.alloc (.cells (frameV d y1 y2 y3).toArray 37)) d H3.out.2.2.2 f' x1 x2 x3 y1 y2 y3 hfx hfy
                  have H6 := Lib.hid (And.intro ((H5.out.1.beside hm6 hmd H5.out.2.1).quiet mA) (And.intro (hE6.quiet mA) ((H5.out.2.2.1.into hm6 (fun i e => .inr (by omega))).trans mA)))
                  clear H5 hm6 mA hE6 hfa6 hf' hfx hfy hm5s hmgl hmgw lx1 lx2 lx3 hx hy
                  unfold frameV at hSm xc xf yc yf ⊢
                  cases bg
                  all_goals
                    go_wp2_with fail
                    refine hSm.mono ?_
                    clear hSm
                    rintro e w8 ⟨rfl, hm8⟩
                    have H8 := Lib.hid (And.intro (H6.out.1.quiet hm8) (And.intro (H6.out.2.1.quiet hm8) (H6.out.2.2.trans hm8)))
                    clear hm8 xc xf yc yf
                    go_wp2_with fail
                    refine (H8.out.1.next).mono ?_
                    rintro e w9 ⟨rfl, rfl⟩
                    go_wp2_with fail
                    refine (H8.out.2.1.next).mono ?_
                    rintro e w9 ⟨rfl, rfl⟩
                    go_wp2_with fail
                    go_roundw
                    case rel => exact ⟨j + 1, true, nx'', nx'', some f', some f', by omega, rfl, by go_num, fun _ => ⟨rfl, rfl⟩, H8.out.1, H8.out.2.1, H8.out.2.2⟩
                    case measure => simp [intOf]; omega
        · obtain rfl : j = n2 := by omega
          have d3 : decide ((j : Int) < (j : Int)) = false := decide_eq_false (by omega)
          have HR := Lib.hid hM
          clear hD hE hM hbg
          go_wp2_with fail
          refine (alive13 _).mono ?_
          rintro e w5 ⟨rfl, hm⟩
          have H5 := Lib.hid (HR.out.trans hm)
          clear hm
          go_wp2_with fail
          go_ret
          exact ⟨rfl, H5.out.below (fun _ h => h.elim)⟩
end Go.Proofs.YteppnjgfebcmjaaGreat
