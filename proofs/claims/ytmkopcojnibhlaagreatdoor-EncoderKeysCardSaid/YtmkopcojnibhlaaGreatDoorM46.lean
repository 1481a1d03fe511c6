/-
  kinoralaw14.EncoderRates, walked.
-/
import Derived.Test.YtmkopcojnibhlaaGreatDoorM44
import Derived.Test.YtmkopcojnibhlaaGreatDoorM45
namespace Go.Proofs.YtmkopcojnibhlaaGreatDoor
open Go.RowKit

theorem eframe_len {d : Dim} {fr ahd : Pix} {nu q : Nat} (hn : nu < 64) (hq : q ≤ 31) (hW : d.W ≤ 64) (hH : d.H ≤ 64) : 5 ≤ (eframe d fr ahd nu q).1.length ∧ (eframe d fr ahd nu q).1.length ≤ 300003 := by
  have h1 := hdrB_len nu hn q (by omega)
  have h2 := ecode_len (d := d) (fr := fr) (ahd := ahd) (K := nu == 0) (Q := (q : Int)) ⟨by omega, by omega⟩ hW hH
  unfold eframe
  dsimp only
  rw [List.length_append]
  omega
theorem newQ_bd {q tg G n : Nat} (hq : q ≤ 31) : newQ q tg G n ≤ 31 ∧ newQ q tg G n ≤ q + 1 ∧ q ≤ newQ q tg G n + 1 := by
  unfold newQ
  split
  · split
    · omega
    · split <;> omega
  · omega
theorem newN_lt {nu G : Nat} (hG : 1 ≤ G) : newN nu G < G := by
  unfold newN
  split <;> omega
theorem newQ_zero (q G n : Nat) : newQ q 0 G n = q := rfl
theorem newQ_one {q G n : Nat} (hn : 5 ≤ n) (hq : q ≤ 31) : newQ q 1 G n = if q < 31 then q + 1 else 31 := by
  have h : 1 / G ≤ 1 := Nat.div_le_self _ _
  unfold newQ
  rw [if_pos (by omega), if_pos (by omega)]
  split <;> omega
theorem newQ_most {q G n : Nat} (h : 4 * n < 3 * (1048576 / G)) : newQ q 1048576 G n = q - 1 := by
  unfold newQ
  rw [if_pos (by omega), if_neg (by omega), if_pos h]
/-- What the law looks at behind a frame. -/
structure RateOk (tg G q n m : Nat) (ok : Bool) : Prop where
  hi : n ≤ 31
  up : n ≤ q + 1
  dn : q ≤ n + 1
  bad : ok = false → n = q
  zero : tg = 0 → n = q
  one : ok = true → tg = 1 → n = if q < 31 then q + 1 else 31
  most : ok = true → tg = 1048576 → 4 * m < 3 * (1048576 / G) → n = q - 1
def RatRel (w0 : World) (d : Dim) (G tg g n1 : Nat) (v11 : Value) (wr : World) : Prop :=
  ∃ (k q nu : Nat) (ahd : Pix), k ≤ n1 ∧ v11 = .int .i64 (k : Int) ∧ EncAt wr g d G q tg nu ahd ∧ q ≤ 31 ∧ nu < G ∧ Mod (fun _ => False) w0 wr
def RatCut (w0 : World) (d : Dim) (G tg g q : Nat) (v13 v15 : Value) (wr : World) : Prop :=
  ∃ (A : Option Addr) (m c n nu : Nat) (ahd : Pix) (ok : Bool), v13 = .slice A m c ∧ m ≤ 300003 ∧ v15 = .int .i64 (if ok then 0 else 61) ∧ EncAt wr g d G n tg nu ahd ∧ nu < G ∧ RateOk tg G q n m ok ∧ Mod (fun _ => False) w0 wr

set_option maxRecDepth 100000 in
set_option maxHeartbeats 8000000 in
theorem encoderRates_walk (w : World) (he : EnvP w) (W H G0 a b : Int) (A : Option Addr) (n1 c1 : Nat) (fs : List FrX) (hin : FrsIn w A n1 fs) (hn1 : n1 ≤ 9223372036854775807) :
    Calls Tryz.prog 4 #[.agg #[.int .i64 W, .int .i64 H, .int .i64 G0], .agg #[.int .i64 a, .int .i64 b], .slice A n1 c1] w fun e w' => e = .returned (.bool true) ∧ Mod (fun _ => False) w w' := by
  have hs := ((Sat.nil (fun _ => False) w).alloc 23 #[.int .i64 W, .int .i64 H, .int .i64 G0] rfl).alloc (g := w.heap.size + 1) 24 #[.int .i64 a, .int .i64 b] (by simp)
  have H0 := Lib.hid (And.intro hs (And.intro he hin))
  clear hs he hin
  go_enter Tryz.func4, Tryz.ntmps4
  go_wp2_with fail
  refine (lFits14 _ A n1 c1 fs (H0.out.2.2.quiet H0.out.1.mod) hn1).mono ?_
  rintro e w1 ⟨b7, rfl, hb7, hm1⟩
  have hs1 := Sat.after hm1 H0.out.1
  have hq := hs1.own_ 1 rfl
  dsimp only at hq
  obtain ⟨sc, sf⟩ := hq.both
  have sl := hq.lt
  have H1 := Lib.hid (And.intro hs1 hb7)
  clear hm1 hs1 hq hb7
  go_wp2_with fail
  refine (lSmall14 _ W H G0).mono ?_
  rintro e w2 ⟨b8, rfl, hb8, hm2⟩
  have hs2 := H1.out.1.quiet hm2
  clear sc sf sl
  have hq := hs2.own_ 1 rfl
  dsimp only at hq
  obtain ⟨sc, sf⟩ := hq.both
  have sl := hq.lt
  have hq4 := hs2.own_ 0 rfl
  dsimp only at hq4
  obtain ⟨tc, tf⟩ := hq4.both
  have tl := hq4.lt
  have t0 : w2.cell? ⟨w.heap.size + 1, 0, none⟩ = some (.int .i64 a) := tc 0
  have t1 : w2.cell? ⟨w.heap.size + 1, 1, none⟩ = some (.int .i64 b) := tc 1
  have H2 := Lib.hid (And.intro hs2 (And.intro H1.out.2 hb8))
  clear hm2 hs2 hq hq4 hb8 H1 tc
  go_wp2_with fail
  refine (encNew' _ W H G0 a b).mono ?_
  rintro e w3 ⟨hm3, hcase⟩
  have hs3 := Lib.hid (H2.out.1.quiet hm3)
  clear sc sf sl t0 t1 tf tl
  rcases hcase with ⟨hr, rfl⟩ | ⟨hr, ha, rfl⟩ | ⟨d, G, q, tg, g, hr, ha, hd, rfl, rfl, rfl, hG, rfl, hq31, rfl, ht, rfl, hE, hg⟩
  iterate 2
    · clear hm3 hr
      cases b7 <;> cases b8
      all_goals
        go_wp2_with fail
        refine (alive14 _ (H0.out.2.1.quiet hs3.out.mod)).mono ?_
        rintro e w4 ⟨rfl, hm4⟩
        have H4 := Lib.hid (hs3.out.mod.trans hm4)
        clear hm4
        go_wp2_with fail
        go_ret
        exact ⟨rfl, H4.out⟩
  · have hb : (b7 = true ∧ b8 = true) ∨ ¬ (b7 = true ∧ b8 = true) := Classical.em _
    have hgw : w.heap.size ≤ g := Nat.le_trans H2.out.1.mod.size hg
    have hg3 : w2.heap.size ≤ g := hg
    have HM3 := Lib.hid hm3
    have H3 := Lib.hid (And.intro hd (And.intro hG (And.intro hE (And.intro hr ha))))
    clear hm3 hd hG hE hr ha hg
    by_cases hb2 : b7 = true ∧ b8 = true
    · obtain ⟨rfl, rfl⟩ := hb2
      have hW32 := (H2.out.2.2 rfl H3.out.2.2.2.1)
      have hfit := H2.out.2.1 rfl
      have HF := Lib.hid hfit
      have hW64 : d.W ≤ 64 := by omega
      have hH64 : d.H ≤ 64 := by omega
      clear hW32 hfit hb
      have HGW := Lib.hid hg3
      clear hg3
      go_wp2_with fail
      go_loopw [11] (RatRel w2 d G tg g n1) (fun i _ => n1 - (intOf i).toNat)
      case atStart => exact ⟨0, q, 0, noPix, by omega, rfl, H3.out.2.2.1 _, hq31, by have := H3.out.2.1; omega, HM3.out⟩
      case round =>
        clear hq31
        obtain ⟨k, q, nu, ahd, hk, rfl, hE, hq31, hnu, hM⟩ := hrel
        rename World => wr
        by_cases hlt : k < n1
        · have hMM := H2.out.1.mod.trans hM
          obtain ⟨bb, o, hA, hbw, hcells, hfi⟩ := (H0.out.2.2.quiet hMM).at_ k hlt
          subst hA
          have d1 : decide ((k : Int) < (n1 : Int)) = true := decide_eq_true (by omega)
          obtain ⟨f, hf⟩ : ∃ f, f = fs.getD k FrX.zero := ⟨_, rfl⟩
          rw [← hf] at hcells hfi
          have k0 : wr.cell? ⟨bb, o + k * 9, none⟩ = some (.int .i64 f.W0) := hcells 0 _ rfl
          have k1 := hcells 1 _ rfl
          have k2 := hcells 2 _ rfl
          have k3 := hcells 3 _ rfl
          have k4 := hcells 4 _ rfl
          have k5 := hcells 5 _ rfl
          have k6 := hcells 6 _ rfl
          have k7 := hcells 7 _ rfl
          have k8 := hcells 8 _ rfl
          have hFC := encFrameAt hE (H0.out.2.1.quiet hMM) H3.out.1 hW64 hH64 H3.out.2.1 hq31 ht hnu f hfi
          unfold FrX.cells at hFC
          have HFC := Lib.hid (And.intro hFC (And.intro hE hM))
          clear hcells hfi hf hFC hE hM hMM
          go_wp2_with fail
          refine HFC.out.2.1.q.mono ?_
          rintro e w4 ⟨rfl, rfl⟩
          go_upto_region 10 with (fail)
          go_cut [13, 15] (fun v13 v15 wx => RatCut w2 d G tg g q v13 v15 wx)
          case first =>
            go_wp2_with fail
            refine HFC.out.1.mono ?_
            rintro e w5 (⟨hgd, rfl, hm5⟩ | ⟨hgd, v, p, rfl, hB, ⟨p0, p1, p2, rfl, hfp, _⟩, hE5, hm5⟩)
            · have H5 := Lib.hid hm5
              clear hm5 hgd k0 k1 k2 k3 k4 k5 k6 k7 k8
              unfold NoFr noFrame
              go_wp2_with fail
              go_meet
              have hm6 := H5.out.alloc (.cells #[.int .i64 0, .int .i64 0, .slice none 0 0, .int .i64 0, .int .i64 0, .slice none 0 0, .int .i64 0, .int .i64 0, .slice none 0 0] 40)
              exact ⟨none, 0, 0, q, nu, ahd, false, rfl, by omega, rfl, HFC.out.2.1.quiet hm6, hnu, ⟨hq31, by omega, by omega, fun _ => rfl, fun _ => rfl, (fun h => by cases h), fun h => by cases h⟩, HFC.out.2.2.trans hm6⟩
            · obtain ⟨A5, c5, rfl⟩ := own_shape hB
              have hl := eframe_len (d := d) (fr := f.pix) (ahd := ahd) (nu := nu) (q := q) (by have := H3.out.2.1; omega) hq31 hW64 hH64
              obtain ⟨m, hm⟩ : ∃ m, m = (eframe d f.pix ahd nu q).1.length := ⟨_, rfl⟩
              rw [← hm] at hE5 hl ⊢
              have H5 := Lib.hid (And.intro hm5 (And.intro hE5 hl))
              clear hm5 hgd hE5 hl hB hfp hm k0 k1 k2 k3 k4 k5 k6 k7 k8
              unfold frameV
              go_wp2_with fail
              go_meet
              have hm6 := (Mod.refl (fun _ => False) w5).alloc (.cells (frameV d p0 p1 p2).toArray 40)
              have hb := newQ_bd (tg := tg) (G := G) (n := m) hq31
              refine ⟨A5, m, c5, newQ q tg G m, newN nu G, (eframe d f.pix ahd nu q).2, true, rfl, H5.out.2.2.2, rfl, H5.out.2.1.quiet hm6, newN_lt H3.out.2.1.1, ⟨hb.1, hb.2.1, hb.2.2, (fun h => by cases h), ?_, ?_, ?_⟩, ?_⟩
              · rintro rfl; exact newQ_zero q G m
              · rintro - rfl; exact newQ_one H5.out.2.2.1 hq31
              · rintro - rfl h; exact newQ_most h
              · exact (HFC.out.2.2.into H5.out.1 (fun i e => .inr (by have := HGW.out; omega))).trans hm6
          case rest =>
            clear HFC k0 k1 k2 k3 k4 k5 k6 k7 k8
            obtain ⟨A5, m, c5, n, nu', ahd', ok, rfl, hm3, rfl, hE5, hnu', hOk, hM5⟩ := hcut
            rename World => w6
            clear hq31 hnu
            have hsx := H2.out.1.quiet hM5
            have hqs := hsx.own_ 1 rfl
            dsimp only at hqs
            obtain ⟨sc, sf⟩ := hqs.both
            have sl := hqs.lt
            have hqt := hsx.own_ 0 rfl
            dsimp only at hqt
            obtain ⟨tc, tf⟩ := hqt.both
            have tl := hqt.lt
            have sg : w6.cell? ⟨w.heap.size, 2, none⟩ = some (.int .i64 (G : Int)) := sc 2
            have t1 : w6.cell? ⟨w.heap.size + 1, 1, none⟩ = some (.int .i64 (tg : Int)) := tc 1
            have H6 := Lib.hid (And.intro hE5 (And.intro hOk hM5))
            obtain ⟨o1, o2, o3, o4, o5, o6, o7⟩ := hOk
            have d2 : decide ((n : Int) < 0) = false := decide_eq_false (by omega)
            have d3 : decide (31 < (n : Int)) = false := decide_eq_false (by omega)
            have d4 : decide ((q : Int) + 1 < (n : Int)) = false := decide_eq_false (by omega)
            have d5 : decide ((n : Int) < (q : Int) - 1) = false := decide_eq_false (by omega)
            clear hE5 hM5 hsx hqs hqt sc tc
            cases ok
            · obtain rfl := o4 rfl
              clear o2 o3 o4 o5 o6 o7
              go_wp2_with fail
              refine H6.out.1.q.mono ?_
              rintro e w7 ⟨rfl, rfl⟩
              have d6 : ((n : Int) != (n : Int)) = false := by simp
              go_wp2_with fail
              go_roundw
              case rel => exact ⟨k + 1, n, nu', ahd', by omega, by go_num, H6.out.1, o1, hnu', H6.out.2.2⟩
              case measure => simp [intOf]; omega
            · have hml : m ≤ 300003 := hm3
              obtain ⟨hG1, hG2⟩ := H3.out.2.1
              have hG0 : ((G : Int) == 0) = false := by simp; omega
              obtain ⟨sh, hsh⟩ : ∃ sh, sh = 1048576 / G := ⟨_, rfl⟩
              have hshl : sh ≤ 1048576 := by rw [hsh]; exact Nat.div_le_self _ _
              have t5 : (1048576 : Int).tdiv (G : Int) = (sh : Int) := by rw [Int.tdiv_eq_ediv_of_nonneg (by omega), hsh]; exact (Int.natCast_ediv 1048576 G).symm
              rw [← hsh] at o7
              clear hsh
              by_cases z0 : tg = 0
              · obtain rfl := o5 z0
                have y0 : ((tg : Int) == 0) = true := by simp; omega
                have y1 : ((tg : Int) == 1) = false := by simp; omega
                have y2 : ((tg : Int) == 1048576) = false := by simp; omega
                have d6 : ((n : Int) != (n : Int)) = false := by simp
                clear o2 o3 o4 o5 o6 o7 z0
                go_wp2_with fail
                refine H6.out.1.q.mono ?_
                rintro e w7 ⟨rfl, rfl⟩
                go_wp2_with fail
                go_roundw
                case rel => exact ⟨k + 1, n, nu', ahd', by omega, by go_num, H6.out.1, o1, hnu', H6.out.2.2⟩
                case measure => simp [intOf]; omega
              · have y0 : ((tg : Int) == 0) = false := by simp; omega
                by_cases z1 : tg = 1
                · have hn := o6 rfl z1
                  have y1 : ((tg : Int) == 1) = true := by simp; omega
                  have y2 : ((tg : Int) == 1048576) = false := by simp; omega
                  clear o4 o5 o6 o7 z0 z1
                  by_cases hq : q < 31
                  · rw [if_pos hq] at hn
                    have d6 : ((n : Int) != (q : Int) + 1) = false := by simp; omega
                    clear hn
                    go_wp2_with fail
                    refine H6.out.1.q.mono ?_
                    rintro e w7 ⟨rfl, rfl⟩
                    go_wp2_with fail
                    go_roundw
                    case rel => exact ⟨k + 1, n, nu', ahd', by omega, by go_num, H6.out.1, o1, hnu', H6.out.2.2⟩
                    case measure => simp [intOf]; omega
                  · rw [if_neg hq] at hn
                    have d6 : ((n : Int) != 31) = false := by simp; omega
                    have hq2 : 31 ≤ q := by omega
                    clear hn hq
                    go_wp2_with fail
                    refine H6.out.1.q.mono ?_
                    rintro e w7 ⟨rfl, rfl⟩
                    go_wp2_with fail
                    go_roundw
                    case rel => exact ⟨k + 1, n, nu', ahd', by omega, by go_num, H6.out.1, o1, hnu', H6.out.2.2⟩
                    case measure => simp [intOf]; omega
                · have y1 : ((tg : Int) == 1) = false := by simp; omega
                  by_cases z2 : tg = 1048576
                  · have y2 : ((tg : Int) == 1048576) = true := by simp; omega
                    by_cases hlen : 4 * m < 3 * sh
                    · have hn := o7 rfl z2 hlen
                      have d7 : decide (4 * (m : Int) < 3 * (sh : Int)) = true := decide_eq_true (by omega)
                      clear o4 o5 o6 o7 z0 z1 z2
                      by_cases hq : q = 0
                      · have d6 : ((n : Int) != 0) = false := by simp; omega
                        have hq2 : (q : Int) ≤ 0 := by omega
                        clear hn hq
                        go_wp2_with fail
                        refine H6.out.1.q.mono ?_
                        rintro e w7 ⟨rfl, rfl⟩
                        go_wp2_with fail
                        go_roundw
                        case rel => exact ⟨k + 1, n, nu', ahd', by omega, by go_num, H6.out.1, o1, hnu', H6.out.2.2⟩
                        case measure => simp [intOf]; omega
                      · have d6 : ((n : Int) != (q : Int) - 1) = false := by simp; omega
                        have hq2 : 1 ≤ q := by omega
                        clear hn hq
                        go_wp2_with fail
                        refine H6.out.1.q.mono ?_
                        rintro e w7 ⟨rfl, rfl⟩
                        go_wp2_with fail
                        go_roundw
                        case rel => exact ⟨k + 1, n, nu', ahd', by omega, by go_num, H6.out.1, o1, hnu', H6.out.2.2⟩
                        case measure => simp [intOf]; omega
                    · have d7 : decide (4 * (m : Int) < 3 * (sh : Int)) = false := decide_eq_false (by omega)
                      clear o4 o5 o6 o7 z0 z1 z2
                      go_wp2_with fail
                      refine H6.out.1.q.mono ?_
                      rintro e w7 ⟨rfl, rfl⟩
                      go_wp2_with fail
                      go_roundw
                      case rel => exact ⟨k + 1, n, nu', ahd', by omega, by go_num, H6.out.1, o1, hnu', H6.out.2.2⟩
                      case measure => simp [intOf]; omega
                  · have y2 : ((tg : Int) == 1048576) = false := by simp; omega
                    clear o4 o5 o6 o7 z0 z1 z2
                    go_wp2_with fail
                    refine H6.out.1.q.mono ?_
                    rintro e w7 ⟨rfl, rfl⟩
                    go_wp2_with fail
                    go_roundw
                    case rel => exact ⟨k + 1, n, nu', ahd', by omega, by go_num, H6.out.1, o1, hnu', H6.out.2.2⟩
                    case measure => simp [intOf]; omega
        · obtain rfl : k = n1 := by omega
          have d1 : decide ((k : Int) < (k : Int)) = false := decide_eq_false (by omega)
          have HL := Lib.hid (H2.out.1.mod.trans hM)
          clear hM hE
          go_wp2_with fail
          refine (alive14 _ (H0.out.2.1.quiet HL.out)).mono ?_
          rintro e w4 ⟨rfl, hm4⟩
          have H4 := Lib.hid (HL.out.trans hm4)
          clear hm4
          go_wp2_with fail
          go_ret
          exact ⟨rfl, H4.out⟩
    · have hb3 : b7 = false ∨ (b7 = true ∧ b8 = false) := by cases b7 <;> cases b8 <;> simp_all
      clear hb hb2
      rcases hb3 with rfl | ⟨rfl, rfl⟩
      all_goals
        go_wp2_with fail
        refine (alive14 _ (H0.out.2.1.quiet hs3.out.mod)).mono ?_
        rintro e w4 ⟨rfl, hm4⟩
        have H4 := Lib.hid (hs3.out.mod.trans hm4)
        clear hm4
        go_wp2_with fail
        go_ret
        exact ⟨rfl, H4.out⟩
end Go.Proofs.YtmkopcojnibhlaaGreatDoor
