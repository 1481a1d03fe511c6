/-
  kinoralaw14.EncoderDecoder, walked.
-/
import Derived.Test.YtmkopcojnibhlaaGreatDoorM47
import Derived.Test.YtmkopcojnibhlaaGreatDoorM46
namespace Go.Proofs.YtmkopcojnibhlaaGreatDoor
open Go.RowKit

/-- An encoder and a decoder that are where they should be. -/
structure TwoAt (w : World) (g dg : Nat) (d : Dim) (G q tg nu : Nat) (ahd : Pix) (nx : Int) (ah : Option Pix) : Prop where
  enc : EncAt w g d G q tg nu ahd
  dec : DecAt w dg d (G : Int) nx ah
  hq : q ≤ 31
  hnu : nu < G
  hnx : nu ≠ 0 → nx = (nu : Int)
  hah : ah.getD noPix = ahd
theorem TwoAt.quiet {w w' : World} {g dg : Nat} {d : Dim} {G q tg nu : Nat} {ahd : Pix} {nx : Int} {ah : Option Pix} (h : TwoAt w g dg d G q tg nu ahd nx ah) (hm : Mod (fun _ => False) w w') : TwoAt w' g dg d G q tg nu ahd nx ah :=
  ⟨h.enc.quiet hm, h.dec.quiet hm, h.hq, h.hnu, h.hnx, h.hah⟩
theorem EncAt.blk {w : World} {g : Nat} {d : Dim} {G q tg nu : Nat} {ahd : Pix} (h : EncAt w g d G q tg nu ahd) : ∃ cs, Blk w g 92 cs := by
  obtain ⟨al, hb, _⟩ := h
  exact ⟨_, hb⟩
theorem DecAt.blk {w : World} {g : Nat} {d : Dim} {G nx : Int} {ah : Option Pix} (h : DecAt w g d G nx ah) : ∃ cs, Blk w g 136 cs := by
  obtain ⟨fr, ay, au, av, hb, _⟩ := h
  exact ⟨_, hb⟩
theorem DecAt.enc {w w' : World} {g dg : Nat} {d d2 : Dim} {G q tg nu : Nat} {ahd : Pix} {G2 nx : Int} {ah : Option Pix} (hd : DecAt w dg d2 G2 nx ah) (he : EncAt w g d G q tg nu ahd) (hm : Mod (· = g) w w') : DecAt w' dg d2 G2 nx ah := by
  obtain ⟨c1, h1⟩ := he.blk
  obtain ⟨c2, h2⟩ := hd.blk
  exact hd.keep hm (h2.ne_ h1 (by decide)) (fun j e => by subst e; exact ⟨_, _, h1, by decide⟩)
theorem EncAt.dec {w w' : World} {g dg : Nat} {d d2 : Dim} {G q tg nu : Nat} {ahd : Pix} {G2 nx : Int} {ah : Option Pix} (he : EncAt w g d G q tg nu ahd) (hd : DecAt w dg d2 G2 nx ah) (hm : Mod (· = dg) w w') : EncAt w' g d G q tg nu ahd := by
  obtain ⟨c1, h1⟩ := he.blk
  obtain ⟨c2, h2⟩ := hd.blk
  exact he.mod hm (h1.ne_ h2 (by decide)) (fun j e => by subst e; exact ⟨_, _, h2, by decide⟩)
theorem DecAt.apart {w : World} {dg : Nat} {d : Dim} {G nx : Int} {ah : Option Pix} (h : DecAt w dg d G nx ah) {j : Nat} {t : TypeId} {cs : Array Value} (hb : Blk w j t cs) (ht : t ≠ 136) : j ≠ dg := by
  obtain ⟨c, h2⟩ := h.blk
  exact hb.ne_ h2 ht
theorem DecAt.fr {w w' : World} {dg : Nat} {d d' : Dim} {G nx : Int} {ah : Option Pix} {f : Pix} {gy gu gv : Nat} (h : DecAt w dg d G nx ah) (hf : FrameAt w d' gy gu gv f) (hm : Mod (· = dg) w w') : FrameAt w' d' gy gu gv f :=
  hf.mod hm (h.apart hf.by_ (by decide)) (h.apart hf.bu (by decide)) (h.apart hf.bv (by decide))
theorem same_fr (w : World) (d : Dim) (hd : d.Ok) (f : Pix) (p0 p1 p2 r0 r1 r2 : Nat) (ha : FrameAt w d p0 p1 p2 f) (hb : FrameAt w d r0 r1 r2 f) : Calls Tryz.prog 38 #[.agg (frameV d p0 p1 p2).toArray, .agg (frameV d r0 r1 r2).toArray] w fun e w' => e = .returned (.bool true) ∧ Mod (fun _ => False) w w' :=
  pSame w d.W d.H d.W2 d.H2 d.W2 d.H2 _ _ _ _ _ _ d.nY d.nY d.nY d.nY d.nC d.nC d.nC d.nC d.nC d.nC d.nC d.nC ⟨f.Y, blkIn ha.by_ ha.ly hd.nyle, blkIn hb.by_ hb.ly hd.nyle⟩ ⟨f.U, blkIn ha.bu ha.lu hd.ncle, blkIn hb.bu hb.lu hd.ncle⟩ ⟨f.V, blkIn ha.bv ha.lv hd.ncle, blkIn hb.bv hb.lv hd.ncle⟩
/-- What the header of a coded frame reads as. -/
def HdrOf (w : World) (K : Bool) (nu q : Nat) (e : Ending) (w' : World) : Prop := ∃ v, e = .returned (.tuple #[.agg #[.bool K, .int .i64 (nu : Int), .int .i64 (q : Int)], v, .int .i64 0]) ∧ Mod (fun _ => False) w w'
theorem hdr_of (w : World) (d : Dim) (hd : d.Ok) (A : Option Addr) (n c : Nat) (fr ahd : Pix) (nu q G : Nat) (hG : 1 ≤ G ∧ G ≤ 64) (hnu : nu < G) (hq : q ≤ 31) (hin : BytesIn w A n c (eframe d fr ahd nu q).1) (hn : n ≤ 1048576) :
    Calls Tryz.prog 35 #[.slice A n c, .agg #[.int .i64 (d.W : Int), .int .i64 (d.H : Int), .int .i64 (G : Int)]] w (HdrOf w (nu == 0) nu q) := by
  refine (parseHdr w A n c _ d.W d.H G hin hn).mono ?_
  have hfits : hdrFits (nu == 0) (nu : Int) (q : Int) (d.W : Int) (d.H : Int) (G : Int) = true := by
    have a := hd.sides
    have b := hd.w16
    have c := hd.h16
    have e : ((nu : Int) == 0) = (nu == 0) := by cases nu <;> rfl
    unfold sidesB at a
    rw [decide_eq_true_eq] at a
    unfold hdrFits seqRight
    rw [e]
    simp only [Bool.and_eq_true, decide_eq_true_eq, beq_self_eq_true, and_true]
    omega
  have hp := hdr_back (nu := nu) (q := q) (by omega) (by omega) hfits (ecode d fr ahd (nu == 0) (q : Int)).2.code
  rintro e w' ⟨hm, ⟨h1, _⟩ | ⟨K, N, Q, a4, v, h1, rfl, _⟩⟩
  · exact absurd (h1.symm.trans hp) (by intro h; cases h)
  · have h2 := h1.symm.trans hp
    injection h2 with h2
    injection h2 with h2 h3
    injection h2 with h4 h5
    injection h5 with h5 h6
    subst h4 h5 h6
    exact ⟨v, rfl, hm⟩
def DkRel (w2 : World) (d : Dim) (G tg g dg n1 : Nat) (v15 : Value) (wr : World) : Prop :=
  ∃ (k q nu : Nat) (ahd : Pix) (nx : Int) (ah : Option Pix), k ≤ n1 ∧ v15 = .int .i64 (k : Int) ∧ TwoAt wr g dg d G q tg nu ahd nx ah ∧ Mod (fun _ => False) w2 wr
def DkCut (w2 : World) (d : Dim) (G tg g dg : Nat) (wr : World) : Prop :=
  ∃ (q nu : Nat) (ahd : Pix) (nx : Int) (ah : Option Pix), TwoAt wr g dg d G q tg nu ahd nx ah ∧ Mod (fun _ => False) w2 wr

set_option maxRecDepth 100000 in
set_option maxHeartbeats 8000000 in
theorem encoderDecoder_walk (w : World) (he : EnvP w) (W H G0 a b : Int) (ha64 : -9223372036854775808 ≤ a ∧ a ≤ 9223372036854775807) (A : Option Addr) (n1 c1 : Nat) (fs : List FrX) (hin : FrsIn w A n1 fs) (hn1 : n1 ≤ 9223372036854775807) :
    Calls Tryz.prog 10 #[.agg #[.int .i64 W, .int .i64 H, .int .i64 G0], .agg #[.int .i64 a, .int .i64 b], .slice A n1 c1] w fun e w' => e = .returned (.bool true) ∧ Mod (fun _ => False) w w' := by
  obtain ⟨ha1, ha2⟩ := ha64
  have hs := ((Sat.nil (fun _ => False) w).alloc 23 #[.int .i64 W, .int .i64 H, .int .i64 G0] rfl).alloc (g := w.heap.size + 1) 24 #[.int .i64 a, .int .i64 b] (by simp)
  have H0 := Lib.hid (And.intro hs (And.intro he hin))
  clear hs he hin
  go_enter Tryz.func10, Tryz.ntmps10
  go_wp2_with fail
  refine (lFits14 _ A n1 c1 fs (H0.out.2.2.quiet H0.out.1.mod) hn1).mono ?_
  rintro e w1 ⟨b7, rfl, hb7, hm1⟩
  have hs1 := Sat.after hm1 H0.out.1
  have hq := hs1.own_ 1 rfl
  dsimp only at hq
  obtain ⟨sc, sf⟩ := hq.both
  have sl := hq.lt
  have H1 := Lib.hid (And.intro hs1 hb7)
  clear hm1 hs1 hq hb7
  go_wp2_with fail
  refine (lSmall14 _ W H G0).mono ?_
  rintro e w2 ⟨b8, rfl, hb8, hm2⟩
  have hs2 := H1.out.1.quiet hm2
  clear sc sf sl
  have hq := hs2.own_ 1 rfl
  dsimp only at hq
  obtain ⟨sc, sf⟩ := hq.both
  have sl := hq.lt
  have hq4 := hs2.own_ 0 rfl
  dsimp only at hq4
  obtain ⟨tc, tf⟩ := hq4.both
  have tl := hq4.lt
  have t0 : w2.cell? ⟨w.heap.size + 1, 0, none⟩ = some (.int .i64 a) := tc 0
  have t1 : w2.cell? ⟨w.heap.size + 1, 1, none⟩ = some (.int .i64 b) := tc 1
  have H2 := Lib.hid (And.intro hs2 (And.intro H1.out.2 hb8))
  clear hm2 hs2 hq hq4 hb8 H1 tc
  go_wp2_with fail
  generalize bits BinOp.and IntKind.i64 a 31 = z
  refine (encNew' _ W H G0 z b).mono ?_
  rintro e w3 ⟨hm3, hcase⟩
  have hs3 := Lib.hid (H2.out.1.quiet hm3)
  clear sc sf sl t0 t1 tf tl
  have hq := hs3.out.own_ 1 rfl
  dsimp only at hq
  obtain ⟨sc, sf⟩ := hq.both
  have sl := hq.lt
  clear hq
  rcases hcase with ⟨hr, rfl⟩ | ⟨hr, ha, rfl⟩ | ⟨d, G, q, tg, g, hr, ha, hd, rfl, rfl, rfl, hG, rfl, hq31, rfl, ht, rfl, hE, hg⟩
  · have HR := Lib.hid hr
    clear hr hm3
    go_wp2_with fail
    refine (synSeq_no _ W H G0 HR.out).mono ?_
    rintro e w4 ⟨rfl, hm4⟩
    have H4 := Lib.hid (hs3.out.mod.trans hm4)
    clear hm4 sc sf sl
    cases b7 <;> cases b8
    all_goals
      go_wp2_with fail
      refine (alive14 _ (H0.out.2.1.quiet H4.out)).mono ?_
      rintro e w5 ⟨rfl, hm5⟩
      have H5 := Lib.hid (H4.out.trans hm5)
      clear hm5
      go_wp2_with fail
      go_ret
      exact ⟨rfl, H5.out⟩
  · have HR := Lib.hid hr
    have hr2 := of_decide_eq_true hr
    obtain ⟨W', rfl⟩ : ∃ W' : Nat, W = (W' : Int) := ⟨W.toNat, by omega⟩
    obtain ⟨H', rfl⟩ : ∃ H' : Nat, H = (H' : Int) := ⟨H.toNat, by omega⟩
    obtain ⟨G', rfl⟩ : ∃ G' : Nat, G0 = (G' : Int) := ⟨G0.toNat, by omega⟩
    clear hr hr2 hm3 ha
    go_wp2_with fail
    refine (synSeq _ W' H' G' HR.out).mono ?_
    rintro e w4 ⟨sg, rfl, _, _, hm4⟩
    have H4 := Lib.hid (hs3.out.mod.trans hm4)
    clear hm4 sc sf sl
    cases b7 <;> cases b8
    all_goals
      go_wp2_with fail
      refine (alive14 _ (H0.out.2.1.quiet H4.out)).mono ?_
      rintro e w5 ⟨rfl, hm5⟩
      have H5 := Lib.hid (H4.out.trans hm5)
      clear hm5
      go_wp2_with fail
      go_ret
      exact ⟨rfl, H5.out⟩
  · have hgw : w2.heap.size ≤ g := hg
    have H3 := Lib.hid (And.intro hd (And.intro hG (And.intro hE (And.intro hr (And.intro hm3 hgw)))))
    clear hm3 hd hG hE hr ha hg hgw
    go_wp2_with fail
    refine (synSeq _ d.W d.H G H3.out.2.2.2.1).mono ?_
    rintro e w4 ⟨sg, rfl, hsb, lsg, hm4⟩
    have H4 := Lib.hid (And.intro (hs3.out.quiet hm4) (And.intro hsb hm4))
    clear hm4 sc sf sl hsb lsg
    have hb : (b7 = true ∧ b8 = true) ∨ ¬ (b7 = true ∧ b8 = true) := Classical.em _
    by_cases hb2 : b7 = true ∧ b8 = true
    · obtain ⟨rfl, rfl⟩ := hb2
      have hW32 := (H2.out.2.2 rfl H3.out.2.2.2.1)
      have hfit := H2.out.2.1 rfl
      have HF := Lib.hid hfit
      have hW64 : d.W ≤ 64 := by omega
      have hH64 : d.H ≤ 64 := by omega
      obtain ⟨hsk, hsl⟩ := seq_back H3.out.1 (by omega) (by omega) H3.out.2.1
      have HSK := Lib.hid (And.intro hsk hsl)
      obtain ⟨sn, hsn⟩ : ∃ n, n = (seqBy d.W d.H G).length := ⟨_, rfl⟩
      rw [← hsn]
      have HSN := Lib.hid hsn
      clear hW32 hfit hb hsk hsl hsn
      go_wp2_with fail
      refine (decNew_of _ d G _ sn sn (seqBy d.W d.H G) (blkIn H4.out.2.1 HSN.out.symm (by have := HSK.out.2; have := HSN.out; omega)) (by have := HSK.out.2; have := HSN.out; omega) HSK.out.1).mono ?_
      rintro e w5 ⟨dg, rfl, hD, ldg, hm5⟩
      have hdw : w2.heap.size ≤ dg := Nat.le_trans (Nat.le_trans H3.out.2.2.2.2.1.size H4.out.2.2.size) ldg
      have hm25 := (H3.out.2.2.2.2.1.trans H4.out.2.2).trans hm5
      have HT5 : Hid (TwoAt w5 g dg d G q tg 0 noPix 0 none) := ⟨(H3.out.2.2.1 noPix).quiet (H4.out.2.2.trans hm5), hD, hq31, by have := H3.out.2.1; omega, fun h => absurd rfl h, rfl⟩
      have H5 := Lib.hid (And.intro hm25 (And.intro hdw H3.out.2.2.2.2.2))
      clear hD ldg hm5 hdw hm25 hq31
      go_wp2_with fail
      go_loopw [15] (DkRel w2 d G tg g dg n1) (fun i _ => n1 - (intOf i).toNat)
      case atStart => exact ⟨0, q, 0, noPix, 0, none, by omega, rfl, HT5.out, H5.out.1⟩
      case round =>
        clear HT5
        obtain ⟨k, q, nu, ahd, nx, ah, hk, rfl, hTw, hM⟩ := hrel
        rename World => wr
        by_cases hlt : k < n1
        · have d1 : decide ((k : Int) < (n1 : Int)) = true := decide_eq_true (by omega)
          have hqt := (H2.out.1.quiet hM).own_ 0 rfl
          dsimp only at hqt
          obtain ⟨tc, tf⟩ := hqt.both
          have tl := hqt.lt
          have t0 : wr.cell? ⟨w.heap.size + 1, 0, none⟩ = some (.int .i64 a) := tc 0
          have HR := Lib.hid (And.intro hTw hM)
          clear hqt tc hTw hM
          go_upto_if 85 with (fail)
          go_cut [] (fun wx => DkCut w2 d G tg g dg wx)
          case first =>
            clear t0 tf tl
            go_wp2_with fail
            · refine HR.out.1.enc.end_.mono ?_
              rintro e w6 ⟨rfl, hE6, hm6⟩
              have H6 := Lib.hid (And.intro hE6 hm6)
              clear hE6 hm6
              go_wp2_with fail
              go_meet
              exact ⟨q, 0, ahd, nx, ah, ⟨H6.out.1, HR.out.1.dec.enc HR.out.1.enc H6.out.2, HR.out.1.hq, by have := H3.out.2.1; omega, fun h => absurd rfl h, HR.out.1.hah⟩, HR.out.2.into H6.out.2 (fun i e => .inr (by have := H5.out.2.2; omega))⟩
            · go_meet
              exact ⟨q, nu, ahd, nx, ah, HR.out.1, HR.out.2⟩
          case rest =>
            clear HR t0 tf tl
            obtain ⟨q, nu, ahd, nx, ah, hTw, hM⟩ := hcut
            rename World => w6
            obtain ⟨K, hK⟩ : ∃ K : Bool, K = (nu == 0) := ⟨_, rfl⟩
            have eK : ((nu : Int) == 0) = K := by rw [hK]; cases nu <;> rfl
            have hMM := H2.out.1.mod.trans hM
            obtain ⟨bb, o, hA, hbw, hcells, hfi⟩ := (H0.out.2.2.quiet hMM).at_ k hlt
            subst hA
            obtain ⟨f, hf⟩ : ∃ f, f = fs.getD k FrX.zero := ⟨_, rfl⟩
            rw [← hf] at hcells hfi
            have k0 : w6.cell? ⟨bb, o + k * 9, none⟩ = some (.int .i64 f.W0) := hcells 0 _ rfl
            have k1 := hcells 1 _ rfl
            have k2 := hcells 2 _ rfl
            have k3 := hcells 3 _ rfl
            have k4 := hcells 4 _ rfl
            have k5 := hcells 5 _ rfl
            have k6 := hcells 6 _ rfl
            have k7 := hcells 7 _ rfl
            have k8 := hcells 8 _ rfl
            have hFC := encFrameAt hTw.enc (H0.out.2.1.quiet hMM) H3.out.1 hW64 hH64 H3.out.2.1 hTw.hq ht hTw.hnu f hfi
            unfold FrX.cells at hFC
            have HR := Lib.hid (And.intro hTw (And.intro hM (And.intro hFC hK)))
            clear hTw hM hMM hcells hfi hf hFC hK
            go_wp2_with fail
            refine HR.out.1.enc.number.mono ?_
            rintro e w7 ⟨rfl, rfl⟩
            go_wp2_with fail
            refine HR.out.2.2.1.mono ?_
            rintro e w7 (⟨hgd, rfl, hm7⟩ | ⟨hgd, v, p, rfl, hB, ⟨p0, p1, p2, rfl, hfp, l0, l1, l2⟩, hE7, hm7⟩)
            · have H7 := Lib.hid hm7
              clear hm7 hgd k0 k1 k2 k3 k4 k5 k6 k7 k8
              unfold NoFr noFrame
              go_wp2_with fail
              go_roundw
              case rel => exact ⟨k + 1, q, nu, ahd, nx, ah, by omega, by go_num, HR.out.1.quiet (H7.out.alloc _), HR.out.2.1.trans (H7.out.alloc _)⟩
              case measure => simp [intOf]; omega
            · obtain ⟨A7, c7, rfl⟩ := own_shape hB
              have hl := eframe_len (d := d) (fr := f.pix) (ahd := ahd) (nu := nu) (q := q) (by have := HR.out.1.hnu; have := H3.out.2.1; omega) HR.out.1.hq hW64 hH64
              have hfb := frame_back (fr := f.pix) H3.out.1 H3.out.2.1 HR.out.1.hnu HR.out.1.hq HR.out.1.hnx HR.out.1.hah
              have hho := fun w' n hin hn => hdr_of w' d H3.out.1 A7 n c7 f.pix ahd nu q G H3.out.2.1 HR.out.1.hnu HR.out.1.hq hin hn
              rw [← HR.out.2.2.2] at hho
              obtain ⟨R, hR⟩ : ∃ R, R = eframe d f.pix ahd nu q := ⟨_, rfl⟩
              rw [← hR] at hB hfp hE7 hl hfb hho ⊢
              obtain ⟨m, hm⟩ : ∃ m, m = R.1.length := ⟨_, rfl⟩
              rw [← hm] at hB hE7 hl ⊢
              have hin7 := hB.in_
              obtain ⟨nn, hnn⟩ : ∃ nn, nn = newN nu G := ⟨_, rfl⟩
              have hnl : nn < G := by rw [hnn]; exact newN_lt H3.out.2.1.1
              rw [← hnn] at hE7 hfb
              obtain ⟨qq, hqq⟩ : ∃ qq, qq = newQ q tg G m := ⟨_, rfl⟩
              have hql : qq ≤ 31 := by rw [hqq]; exact (newQ_bd HR.out.1.hq).1
              rw [← hqq] at hE7
              have hD7 := HR.out.1.dec.enc HR.out.1.enc hm7
              have hM7 := HR.out.2.1.into hm7 (fun i e => .inr (by have := H5.out.2.2; omega))
              have hml : m ≤ 300003 := hl.2
              have H7 := Lib.hid (And.intro hM7 (And.intro hE7 (And.intro hD7 (And.intro hin7 (And.intro hfp (And.intro hfb (And.intro hho (And.intro hnl hql))))))))
              clear hM7 hE7 hD7 hin7 hfp hfb hho hnl hql hl hm7 hgd hB hR hm hnn hqq l0 l1 l2 k0 k1 k2 k3 k4 k5 k6 k7 k8
              unfold frameV
              go_upto_region 20 with (fail)
              have hpb := Blk.new w7 40 #[.int .i64 (d.W : Int), .int .i64 (d.H : Int), .slice (some ⟨p0, 0, none⟩) d.nY d.nY, .int .i64 (d.W2 : Int), .int .i64 (d.H2 : Int), .slice (some ⟨p1, 0, none⟩) d.nC d.nC, .int .i64 (d.W2 : Int), .int .i64 (d.H2 : Int), .slice (some ⟨p2, 0, none⟩) d.nC d.nC]
              have hma : Mod (fun _ => False) w7 (w7.alloc (.cells #[.int .i64 (d.W : Int), .int .i64 (d.H : Int), .slice (some ⟨p0, 0, none⟩) d.nY d.nY, .int .i64 (d.W2 : Int), .int .i64 (d.H2 : Int), .slice (some ⟨p1, 0, none⟩) d.nC d.nC, .int .i64 (d.W2 : Int), .int .i64 (d.H2 : Int), .slice (some ⟨p2, 0, none⟩) d.nC d.nC] 40)) := (Mod.refl _ w7).alloc _
              obtain ⟨pb, hpbe⟩ : ∃ pb, pb = w7.heap.size := ⟨_, rfl⟩
              rw [← hpbe] at hpb ⊢
              generalize w7.alloc (.cells #[.int .i64 (d.W : Int), .int .i64 (d.H : Int), .slice (some ⟨p0, 0, none⟩) d.nY d.nY, .int .i64 (d.W2 : Int), .int .i64 (d.H2 : Int), .slice (some ⟨p1, 0, none⟩) d.nC d.nC, .int .i64 (d.W2 : Int), .int .i64 (d.H2 : Int), .slice (some ⟨p2, 0, none⟩) d.nC d.nC] 40) = w8 at hpb hma ⊢
              have hqs := (H2.out.1.quiet (H7.out.1.trans hma)).own_ 1 rfl
              dsimp only at hqs
              obtain ⟨sc, sf⟩ := hqs.both
              have sl := hqs.lt
              have H8 := Lib.hid (And.intro (H7.out.1.trans hma) (And.intro (H7.out.2.1.quiet hma) (And.intro (H7.out.2.2.1.quiet hma) (And.intro (H7.out.2.2.2.1.quiet hma) (And.intro (H7.out.2.2.2.2.1.quiet hma) (And.intro hpb H7.out.2.2.2.2.2))))))
              clear hpb hma hpbe hqs H7
              go_wp2_with fail
              refine (H8.out.2.2.2.2.2.2.2.1 w8 m H8.out.2.2.2.1 (by omega)).mono ?_
              rintro e w9 ⟨v9, rfl, hm9⟩
              clear sc sf sl
              go_upto_region 21 with (fail)
              have hhb := Blk.new w9 82 #[.bool K, .int .i64 (nu : Int), .int .i64 (q : Int)]
              have hma : Mod (fun _ => False) w9 (w9.alloc (.cells #[.bool K, .int .i64 (nu : Int), .int .i64 (q : Int)] 82)) := (Mod.refl _ w9).alloc _
              obtain ⟨hb, hhbe⟩ : ∃ hb, hb = w9.heap.size := ⟨_, rfl⟩
              rw [← hhbe] at hhb ⊢
              generalize w9.alloc (.cells #[.bool K, .int .i64 (nu : Int), .int .i64 (q : Int)] 82) = w10 at hhb hma ⊢
              have hma2 := hm9.trans hma
              have H10 := Lib.hid (And.intro (H8.out.1.trans hma2) (And.intro (H8.out.2.1.quiet hma2) (And.intro (H8.out.2.2.1.quiet hma2) (And.intro (H8.out.2.2.2.1.quiet hma2) (And.intro (H8.out.2.2.2.2.1.quiet hma2) (And.intro (H8.out.2.2.2.2.2.1.keep hma2 (fun h => h)) (And.intro hhb (And.intro H8.out.2.2.2.2.2.2.1 H8.out.2.2.2.2.2.2.2.2))))))))
              clear hhb hma hma2 hm9 hhbe H8
              go_wp2_with fail
              refine (decFrame w10 dg d H3.out.1 G nx ah A7 m c7 R.1 H10.out.2.2.1 H10.out.2.2.2.1 (by omega)).mono ?_
              rintro e w11 (⟨er, hfe, _, _⟩ | ⟨f', nx', p', hf', rfl, ⟨r0, r1, r2, rfl, hfr, _, _, _⟩, hD11, hm11⟩)
              · exfalso
                rw [H10.out.2.2.2.2.2.2.2.1] at hfe
                cases hfe
              · obtain ⟨rfl, rfl⟩ : f' = R.2 ∧ nx' = (nn : Int) := by
                  have h1 := H10.out.2.2.2.2.2.2.2.1
                  rw [hf'] at h1
                  injection h1 with h1
                  injection h1 with h1 h2
                  exact ⟨h1, h2⟩
                have hD10 := H10.out.2.2.1
                have hM11 := H10.out.1.into hm11 (fun i e => .inr (by have := H5.out.2.1; omega))
                have hE11 := H10.out.2.1.dec hD10 hm11
                have hfp11 := hD10.fr H10.out.2.2.2.2.1 hm11
                have hpb11 := H10.out.2.2.2.2.2.1.keep hm11 (hD10.apart H10.out.2.2.2.2.2.1 (by decide))
                have hhb11 := H10.out.2.2.2.2.2.2.1.keep hm11 (hD10.apart H10.out.2.2.2.2.2.2.1 (by decide))
                have H11 := Lib.hid (And.intro hM11 (And.intro hE11 (And.intro hfp11 (And.intro hpb11 (And.intro hhb11 (And.intro hfr hD11))))))
                have HNL := Lib.hid H10.out.2.2.2.2.2.2.2.2
                clear hM11 hE11 hfp11 hpb11 hhb11 hfr hD11 hm11 hf' hD10 H10
                unfold frameV
                go_upto_region 22 with (fail)
                have hrb := Blk.new w11 40 #[.int .i64 (d.W : Int), .int .i64 (d.H : Int), .slice (some ⟨r0, 0, none⟩) d.nY d.nY, .int .i64 (d.W2 : Int), .int .i64 (d.H2 : Int), .slice (some ⟨r1, 0, none⟩) d.nC d.nC, .int .i64 (d.W2 : Int), .int .i64 (d.H2 : Int), .slice (some ⟨r2, 0, none⟩) d.nC d.nC]
                have hma : Mod (fun _ => False) w11 (w11.alloc (.cells #[.int .i64 (d.W : Int), .int .i64 (d.H : Int), .slice (some ⟨r0, 0, none⟩) d.nY d.nY, .int .i64 (d.W2 : Int), .int .i64 (d.H2 : Int), .slice (some ⟨r1, 0, none⟩) d.nC d.nC, .int .i64 (d.W2 : Int), .int .i64 (d.H2 : Int), .slice (some ⟨r2, 0, none⟩) d.nC d.nC] 40)) := (Mod.refl _ w11).alloc _
                obtain ⟨rb, hrbe⟩ : ∃ rb, rb = w11.heap.size := ⟨_, rfl⟩
                rw [← hrbe] at hrb ⊢
                generalize w11.alloc (.cells #[.int .i64 (d.W : Int), .int .i64 (d.H : Int), .slice (some ⟨r0, 0, none⟩) d.nY d.nY, .int .i64 (d.W2 : Int), .int .i64 (d.H2 : Int), .slice (some ⟨r1, 0, none⟩) d.nC d.nC, .int .i64 (d.W2 : Int), .int .i64 (d.H2 : Int), .slice (some ⟨r2, 0, none⟩) d.nC d.nC] 40) = w12 at hrb hma ⊢
                have hpb := H11.out.2.2.2.1.keep hma (fun h => h)
                have hhb := H11.out.2.2.2.2.1.keep hma (fun h => h)
                obtain ⟨rc, rf⟩ := hrb.both
                have rl := hrb.lt
                obtain ⟨pc, pf⟩ := hpb.both
                have pl := hpb.lt
                have hSm := same_fr w12 d H3.out.1 R.2 r0 r1 r2 p0 p1 p2 (H11.out.2.2.2.2.2.1.quiet hma) (H11.out.2.2.1.quiet hma)
                unfold frameV at hSm
                have H12 := Lib.hid (And.intro (H11.out.1.trans hma) (And.intro (H11.out.2.1.quiet hma) (And.intro (H11.out.2.2.2.2.2.2.quiet hma) (And.intro hhb hSm))))
                clear hrb hma hrbe hpb hhb hSm H11
                go_wp2_with fail
                refine H12.out.2.2.2.2.mono ?_
                rintro e w13 ⟨rfl, hm13⟩
                have hhb := H12.out.2.2.2.1.keep hm13 (fun h => h)
                have hk0 : w13.cell? ⟨hb, 0, none⟩ = some (.bool K) := hhb.cell 0
                have dK : (K != K) = false := by cases K <;> rfl
                have dn : ((nn : Int) != (nn : Int)) = false := by simp
                have H13 := Lib.hid (And.intro (H12.out.1.trans hm13) (And.intro (H12.out.2.1.quiet hm13) (H12.out.2.2.1.quiet hm13)))
                clear hhb hm13 rc rf rl pc pf pl H12
                go_wp2_with fail
                refine (H13.out.2.2.next).mono ?_
                rintro e w14 ⟨rfl, rfl⟩
                go_wp2_with fail
                refine (H13.out.2.1.number).mono ?_
                rintro e w15 ⟨rfl, rfl⟩
                go_wp2_with fail
                go_roundw
                case rel => exact ⟨k + 1, qq, nn, R.2, nn, some R.2, by omega, by go_num, ⟨H13.out.2.1, H13.out.2.2, HNL.out.2, HNL.out.1, fun _ => rfl, rfl⟩, H13.out.1⟩
                case measure => simp [intOf]; omega
        · obtain rfl : k = n1 := by omega
          have d1 : decide ((k : Int) < (k : Int)) = false := decide_eq_false (by omega)
          have HL := Lib.hid (H2.out.1.mod.trans hM)
          clear hM hTw
          go_wp2_with fail
          refine (alive14 _ (H0.out.2.1.quiet HL.out)).mono ?_
          rintro e w6 ⟨rfl, hm6⟩
          have H6 := Lib.hid (HL.out.trans hm6)
          clear hm6
          go_wp2_with fail
          go_ret
          exact ⟨rfl, H6.out⟩
    · have hb3 : b7 = false ∨ (b7 = true ∧ b8 = false) := by cases b7 <;> cases b8 <;> simp_all
      clear hb hb2
      rcases hb3 with rfl | ⟨rfl, rfl⟩
      all_goals
        go_wp2_with fail
        refine (alive14 _ (H0.out.2.1.quiet H4.out.1.mod)).mono ?_
        rintro e w5 ⟨rfl, hm5⟩
        have H5 := Lib.hid (H4.out.1.mod.trans hm5)
        clear hm5
        go_wp2_with fail
        go_ret
        exact ⟨rfl, H5.out⟩
end Go.Proofs.YtmkopcojnibhlaaGreatDoor
