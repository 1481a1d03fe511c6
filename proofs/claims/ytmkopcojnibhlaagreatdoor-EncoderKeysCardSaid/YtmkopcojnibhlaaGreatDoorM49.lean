/-
  kinoralaw14.EncoderKeys, walked.
-/
import Derived.Test.YtmkopcojnibhlaaGreatDoorM48
namespace Go.Proofs.YtmkopcojnibhlaaGreatDoor
open Go.RowKit

theorem newN_mod {nu n G : Nat} (hG : 1 ≤ G) (h : nu = n % G) : newN nu G = (n + 1) % G := by
  have h1 : nu < G := by rw [h]; exact Nat.mod_lt _ hG
  unfold newN
  have e : (n + 1) % G = (nu + 1) % G := by rw [h, Nat.mod_add_mod]
  rw [e]
  split
  · rw [Nat.mod_eq_of_lt (by assumption)]
  · rw [show nu + 1 = G by omega, Nat.mod_self]
theorem encNew_of (w : World) (d : Dim) (G q tg : Nat) (hs : seqRight d.W d.H G = true) (hq : q ≤ 31) (ht : tg ≤ 1048576) : Calls Tryz.prog 14 #[.agg #[.int .i64 (d.W : Int), .int .i64 (d.H : Int), .int .i64 (G : Int)], .int .i64 (q : Int), .int .i64 (tg : Int)] w fun e w' => ∃ g, e = .returned (.tuple #[.pointer (some ⟨g, 0, none⟩), .int .i64 0]) ∧ (∀ ahd, EncAt w' g d G q tg 0 ahd) ∧ w.heap.size ≤ g ∧ Mod (fun _ => False) w w' := by
  refine (encNew w d.W d.H G q tg).mono ?_
  rintro e w' ⟨hm, ⟨h, _⟩ | ⟨_, h, _⟩ | ⟨g, _, _, rfl, hb, hg⟩⟩
  · rw [hs] at h; cases h
  · have : encArgs (q : Int) (tg : Int) = true := by unfold encArgs; rw [decide_eq_true_eq]; omega
    rw [this] at h; cases h
  · exact ⟨g, rfl, fun _ => ⟨zeroFr, hb, .inl ⟨rfl, rfl⟩⟩, hg, hm⟩
theorem EncAt.enc {w w' : World} {g g2 : Nat} {d d2 : Dim} {G q tg nu G2 q2 tg2 nu2 : Nat} {ahd ahd2 : Pix} (he : EncAt w g d G q tg nu ahd) (hne : g ≠ g2) (h2 : EncAt w g2 d2 G2 q2 tg2 nu2 ahd2) (hm : Mod (· = g2) w w') : EncAt w' g d G q tg nu ahd := by
  obtain ⟨c2, hb⟩ := h2.blk
  exact he.mod hm hne (fun j e => by subst e; exact ⟨_, _, hb, by decide⟩)
def KyRel (w2 : World) (d : Dim) (G tg g sg n1 : Nat) (v13 v14 : Value) (wr : World) : Prop :=
  ∃ (k q n : Nat), k ≤ n1 ∧ n ≤ k ∧ v13 = .int .i64 (n : Int) ∧ v14 = .int .i64 (k : Int) ∧ q ≤ 31 ∧ (∃ ahd, EncAt wr g d G q tg (n % G) ahd) ∧ Blk wr sg 5 (u8s (seqBy d.W d.H G)).toArray ∧ Mod (fun _ => False) w2 wr
/-- What the law keeps of a coded frame. -/
structure KyAt (w2 : World) (d : Dim) (G tg g sg qq nn : Nat) (R : List UInt8 × Pix) (A7 : Option Addr) (m c7 p0 p1 p2 pb : Nat) (wr : World) : Prop where
  mod : Mod (fun _ => False) w2 wr
  enc : EncAt wr g d G qq tg nn R.2
  inb : ∃ B, Bytes wr B (.slice A7 m c7) R.1
  fa : FrameAt wr d p0 p1 p2 R.2
  box : Blk wr pb 40 (frameV d p0 p1 p2).toArray
  seq : Blk wr sg 5 (u8s (seqBy d.W d.H G)).toArray
section
variable {w2 wr w' : World} {d : Dim} {G tg g sg qq nn : Nat} {R : List UInt8 × Pix} {A7 : Option Addr} {m c7 p0 p1 p2 pb : Nat}
theorem KyAt.quiet (h : KyAt w2 d G tg g sg qq nn R A7 m c7 p0 p1 p2 pb wr) (hm : Mod (fun _ => False) wr w') : KyAt w2 d G tg g sg qq nn R A7 m c7 p0 p1 p2 pb w' :=
  ⟨h.mod.trans hm, h.enc.quiet hm, (by obtain ⟨B, hB⟩ := h.inb; exact ⟨B, hB.quiet hm⟩), h.fa.quiet hm, h.box.keep hm (fun h => h), h.seq.keep hm (fun h => h)⟩
theorem KyAt.bytes (h : KyAt w2 d G tg g sg qq nn R A7 m c7 p0 p1 p2 pb wr) : BytesIn wr A7 m c7 R.1 := by
  obtain ⟨B, hB⟩ := h.inb
  exact hB.in_
theorem KyAt.other {j : Nat} {t : TypeId} {cs : Array Value} (h : KyAt w2 d G tg g sg qq nn R A7 m c7 p0 p1 p2 pb wr) (hm : Mod (· = j) wr w') (hb : Blk wr j t cs) (h1 : t ≠ 5) (h2 : t ≠ 40) (hg : g ≠ j) (hj : w2.heap.size ≤ j) : KyAt w2 d G tg g sg qq nn R A7 m c7 p0 p1 p2 pb w' := by
  have nb : ∀ {i : Nat} {u : TypeId} {c : Array Value}, Blk wr i u c → t ≠ u → ¬ i = j := fun hi hu e => hb.ne_ hi hu e.symm
  refine ⟨h.mod.into hm (fun i e => .inr (e ▸ hj)), h.enc.mod hm hg (fun i e => by subst e; exact ⟨_, _, hb, h1⟩), ?_, h.fa.mod hm (nb h.fa.by_ h1) (nb h.fa.bu h1) (nb h.fa.bv h1), h.box.keep hm (nb h.box h2), h.seq.keep hm (nb h.seq h1)⟩
  obtain ⟨B, hB⟩ := h.inb
  exact ⟨B, hB.mod hm (fun i hi e => own_ne_blk hB hb (Ne.symm h1) (e ▸ hi))⟩
end
set_option maxRecDepth 100000 in
set_option maxHeartbeats 8000000 in
theorem encoderKeys_walk (w : World) (he : EnvP w) (W H G0 a b : Int) (A : Option Addr) (n1 c1 : Nat) (fs : List FrX) (hin : FrsIn w A n1 fs) (hn1 : n1 ≤ 9223372036854775807) :
    Calls Tryz.prog 9 #[.agg #[.int .i64 W, .int .i64 H, .int .i64 G0], .agg #[.int .i64 a, .int .i64 b], .slice A n1 c1] w fun e w' => e = .returned (.bool true) ∧ Mod (fun _ => False) w w' := by
  have hs := ((Sat.nil (fun _ => False) w).alloc 23 #[.int .i64 W, .int .i64 H, .int .i64 G0] rfl).alloc (g := w.heap.size + 1) 24 #[.int .i64 a, .int .i64 b] (by simp)
  have H0 := Lib.hid (And.intro hs (And.intro he hin))
  clear hs he hin
  go_enter Tryz.func9, Tryz.ntmps9
  go_wp2_with fail
  refine (lFits14 _ A n1 c1 fs (H0.out.2.2.quiet H0.out.1.mod) hn1).mono ?_
  rintro e w1 ⟨b7, rfl, hb7, hm1⟩
  have hs1 := Sat.after hm1 H0.out.1
  have hq := hs1.own_ 1 rfl
  dsimp only at hq
  obtain ⟨sc, sf⟩ := hq.both
  have sl := hq.lt
  have H1 := Lib.hid (And.intro hs1 hb7)
  clear hm1 hs1 hq hb7
  go_wp2_with fail
  refine (lSmall14 _ W H G0).mono ?_
  rintro e w2 ⟨b8, rfl, hb8, hm2⟩
  have hs2 := H1.out.1.quiet hm2
  clear sc sf sl
  have hq := hs2.own_ 1 rfl
  dsimp only at hq
  obtain ⟨sc, sf⟩ := hq.both
  have sl := hq.lt
  have hq4 := hs2.own_ 0 rfl
  dsimp only at hq4
  obtain ⟨tc, tf⟩ := hq4.both
  have tl := hq4.lt
  have t0 : w2.cell? ⟨w.heap.size + 1, 0, none⟩ = some (.int .i64 a) := tc 0
  have t1 : w2.cell? ⟨w.heap.size + 1, 1, none⟩ = some (.int .i64 b) := tc 1
  have H2 := Lib.hid (And.intro hs2 (And.intro H1.out.2 hb8))
  clear hm2 hs2 hq hq4 hb8 H1 tc
  go_wp2_with fail
  refine (encNew' _ W H G0 a b).mono ?_
  rintro e w3 ⟨hm3, hcase⟩
  have hs3 := Lib.hid (H2.out.1.quiet hm3)
  clear sc sf sl t0 t1 tf tl
  have hq := hs3.out.own_ 1 rfl
  dsimp only at hq
  obtain ⟨sc, sf⟩ := hq.both
  have sl := hq.lt
  clear hq
  rcases hcase with ⟨hr, rfl⟩ | ⟨hr, ha, rfl⟩ | ⟨d, G, q, tg, g, hr, ha, hd, rfl, rfl, rfl, hG, rfl, hq31, rfl, ht, rfl, hE, hg⟩
  · have HR := Lib.hid hr
    clear hr hm3
    go_wp2_with fail
    refine (synSeq_no _ W H G0 HR.out).mono ?_
    rintro e w4 ⟨rfl, hm4⟩
    have H4 := Lib.hid (hs3.out.mod.trans hm4)
    clear hm4 sc sf sl
    cases b7 <;> cases b8
    all_goals
      go_wp2_with fail
      refine (alive14 _ (H0.out.2.1.quiet H4.out)).mono ?_
      rintro e w5 ⟨rfl, hm5⟩
      have H5 := Lib.hid (H4.out.trans hm5)
      clear hm5
      go_wp2_with fail
      go_ret
      exact ⟨rfl, H5.out⟩
  · have HR := Lib.hid hr
    have hr2 := of_decide_eq_true hr
    obtain ⟨W', rfl⟩ : ∃ W' : Nat, W = (W' : Int) := ⟨W.toNat, by omega⟩
    obtain ⟨H', rfl⟩ : ∃ H' : Nat, H = (H' : Int) := ⟨H.toNat, by omega⟩
    obtain ⟨G', rfl⟩ : ∃ G' : Nat, G0 = (G' : Int) := ⟨G0.toNat, by omega⟩
    clear hr hr2 hm3 ha
    go_wp2_with fail
    refine (synSeq _ W' H' G' HR.out).mono ?_
    rintro e w4 ⟨sg, rfl, _, _, hm4⟩
    have H4 := Lib.hid (hs3.out.mod.trans hm4)
    clear hm4 sc sf sl
    cases b7 <;> cases b8
    all_goals
      go_wp2_with fail
      refine (alive14 _ (H0.out.2.1.quiet H4.out)).mono ?_
      rintro e w5 ⟨rfl, hm5⟩
      have H5 := Lib.hid (H4.out.trans hm5)
      clear hm5
      go_wp2_with fail
      go_ret
      exact ⟨rfl, H5.out⟩
  · have hgw : w2.heap.size ≤ g := hg
    have H3 := Lib.hid (And.intro hd (And.intro hG (And.intro hE (And.intro hr (And.intro hm3 hgw)))))
    clear hm3 hd hG hE hr ha hg hgw
    go_wp2_with fail
    refine (synSeq _ d.W d.H G H3.out.2.2.2.1).mono ?_
    rintro e w4 ⟨sg, rfl, hsb, lsg, hm4⟩
    have H4 := Lib.hid (And.intro (hs3.out.quiet hm4) (And.intro hsb (And.intro hm4 lsg)))
    clear hm4 sc sf sl hsb lsg
    have hb : (b7 = true ∧ b8 = true) ∨ ¬ (b7 = true ∧ b8 = true) := Classical.em _
    by_cases hb2 : b7 = true ∧ b8 = true
    · obtain ⟨rfl, rfl⟩ := hb2
      have hW32 := (H2.out.2.2 rfl H3.out.2.2.2.1)
      have hfit := H2.out.2.1 rfl
      have HF := Lib.hid hfit
      have hW64 : d.W ≤ 64 := by omega
      have hH64 : d.H ≤ 64 := by omega
      obtain ⟨hsk, hsl⟩ := seq_back H3.out.1 (by omega) (by omega) H3.out.2.1
      have HSK := Lib.hid (And.intro hsk hsl)
      obtain ⟨sn, hsn⟩ : ∃ n, n = (seqBy d.W d.H G).length := ⟨_, rfl⟩
      rw [← hsn]
      have HSN := Lib.hid hsn
      clear hW32 hfit hb hsk hsl hsn
      go_wp2_with fail
      have hdw : w2.heap.size ≤ sg := Nat.le_trans H3.out.2.2.2.2.1.size H4.out.2.2.2
      have hm24 := H3.out.2.2.2.2.1.trans H4.out.2.2.1
      have HE4 := Lib.hid ((H3.out.2.2.1 noPix).quiet H4.out.2.2.1)
      have H5 := Lib.hid (And.intro hm24 (And.intro hdw H3.out.2.2.2.2.2))
      have HQ := Lib.hid hq31
      clear hdw hm24 hq31
      go_loopw [13, 14] (KyRel w2 d G tg g sg n1) (fun _ i _ => n1 - (intOf i).toNat)
      case atStart => exact ⟨0, q, 0, by omega, by omega, rfl, rfl, HQ.out, ⟨noPix, by rw [Nat.zero_mod]; exact HE4.out⟩, H4.out.2.1, H5.out.1⟩
      case round =>
        clear HE4 HQ
        obtain ⟨k, q, n, hk, hnk, rfl, rfl, hq31, ⟨ahd0, hE0⟩, hSB, hM⟩ := hrel
        rename World => wr
        by_cases hlt : k < n1
        · have d1 : decide ((k : Int) < (n1 : Int)) = true := decide_eq_true (by omega)
          have hG1 := H3.out.2.1.1
          have hG2 := H3.out.2.1.2
          obtain ⟨nu, hnu⟩ : ∃ nu, nu = n % G := ⟨_, rfl⟩
          rw [← hnu] at hE0
          have hnul : nu < G := by rw [hnu]; exact Nat.mod_lt _ hG1
          obtain ⟨ahd, hE, hA0⟩ : ∃ A, EncAt wr g d G q tg nu A ∧ (nu = 0 → A = noPix) := by
            by_cases h0 : nu = 0
            · subst h0
              exact ⟨noPix, hE0.any noPix, fun _ => rfl⟩
            · exact ⟨ahd0, hE0, fun h => absurd h h0⟩
          obtain ⟨K, hK⟩ : ∃ K : Bool, K = (nu == 0) := ⟨_, rfl⟩
          have eK : ((nu : Int) == 0) = K := by rw [hK]; cases nu <;> rfl
          have hMM := H2.out.1.mod.trans hM
          obtain ⟨bb, o, hA, hbw, hcells, hfi⟩ := (H0.out.2.2.quiet hMM).at_ k hlt
          subst hA
          obtain ⟨f, hf⟩ : ∃ f, f = fs.getD k FrX.zero := ⟨_, rfl⟩
          rw [← hf] at hcells hfi
          have k0 : wr.cell? ⟨bb, o + k * 9, none⟩ = some (.int .i64 f.W0) := hcells 0 _ rfl
          have k1 := hcells 1 _ rfl
          have k2 := hcells 2 _ rfl
          have k3 := hcells 3 _ rfl
          have k4 := hcells 4 _ rfl
          have k5 := hcells 5 _ rfl
          have k6 := hcells 6 _ rfl
          have k7 := hcells 7 _ rfl
          have k8 := hcells 8 _ rfl
          have hFC := encFrameAt hE (H0.out.2.1.quiet hMM) H3.out.1 hW64 hH64 H3.out.2.1 hq31 ht hnul f hfi
          unfold FrX.cells at hFC
          have HR := Lib.hid (And.intro hE (And.intro hM (And.intro hFC (And.intro hK (And.intro hA0 (And.intro hSB (And.intro hnu hf)))))))
          clear hE hE0 hM hMM hcells hfi hf hFC hK hA0 hSB hnu hbw
          go_wp2_with fail
          refine HR.out.1.q.mono ?_
          rintro e w7 ⟨rfl, rfl⟩
          go_wp2_with fail
          refine HR.out.2.2.1.mono ?_
          rintro e w7 (⟨hgd, rfl, hm7⟩ | ⟨hgd, v, p, rfl, hB, ⟨p0, p1, p2, rfl, hfp, l0, l1, l2⟩, hE7, hm7⟩)
          · have H7 := Lib.hid hm7
            clear hm7 hgd k0 k1 k2 k3 k4 k5 k6 k7 k8
            unfold NoFr noFrame
            go_wp2_with fail
            go_roundw
            case rel => exact ⟨k + 1, q, n, by omega, by omega, rfl, by go_num, hq31, ⟨ahd, by rw [← HR.out.2.2.2.2.2.2.1]; exact HR.out.1.quiet (H7.out.alloc _)⟩, HR.out.2.2.2.2.2.1.keep (H7.out.alloc _) (fun h => h), HR.out.2.1.trans (H7.out.alloc _)⟩
            case measure => simp [intOf]; omega
          · obtain ⟨A7, c7, rfl⟩ := own_shape hB
            have hl := eframe_len (d := d) (fr := f.pix) (ahd := ahd) (nu := nu) (q := q) (by omega) hq31 hW64 hH64
            have hho := fun w' n hin hn => hdr_of w' d H3.out.1 A7 n c7 f.pix ahd nu q G H3.out.2.1 hnul hq31 hin hn
            rw [← HR.out.2.2.2.1] at hho
            obtain ⟨R, hR⟩ : ∃ R, R = eframe d f.pix ahd nu q := ⟨_, rfl⟩
            rw [← hR] at hB hfp hE7 hl hho ⊢
            obtain ⟨m, hm⟩ : ∃ m, m = R.1.length := ⟨_, rfl⟩
            rw [← hm] at hB hE7 hl ⊢
            obtain ⟨nn, hnn⟩ : ∃ nn, nn = newN nu G := ⟨_, rfl⟩
            have hnm : nn = (n + 1) % G := by rw [hnn]; exact newN_mod hG1 HR.out.2.2.2.2.2.2.1
            rw [← hnn] at hE7
            obtain ⟨qq, hqq⟩ : ∃ qq, qq = newQ q tg G m := ⟨_, rfl⟩
            have hql : qq ≤ 31 := by rw [hqq]; exact (newQ_bd hq31).1
            rw [← hqq] at hE7
            have hM7 := HR.out.2.1.into hm7 (fun i e => .inr (by have := H5.out.2.2; omega))
            have hml : m ≤ 300003 := hl.2
            have hsb7 := HR.out.2.2.2.2.2.1.keep hm7 (HR.out.1.apart HR.out.2.2.2.2.2.1 (by decide))
            have H7 := Lib.hid (And.intro hM7 (And.intro hE7 (And.intro hB (And.intro hfp (And.intro hsb7 (And.intro hho (And.intro hql (And.intro hgd (And.intro hR (And.intro hnm hm))))))))))
            clear hM7 hE7 hfp hho hql hl hm7 hgd hB hR hm hnn hqq hsb7 hnm l0 l1 l2 k0 k1 k2 k3 k4 k5 k6 k7 k8
            unfold frameV
            go_upto_region 14 with (fail)
            have hpb := Blk.new w7 40 #[.int .i64 (d.W : Int), .int .i64 (d.H : Int), .slice (some ⟨p0, 0, none⟩) d.nY d.nY, .int .i64 (d.W2 : Int), .int .i64 (d.H2 : Int), .slice (some ⟨p1, 0, none⟩) d.nC d.nC, .int .i64 (d.W2 : Int), .int .i64 (d.H2 : Int), .slice (some ⟨p2, 0, none⟩) d.nC d.nC]
            have hma : Mod (fun _ => False) w7 (w7.alloc (.cells #[.int .i64 (d.W : Int), .int .i64 (d.H : Int), .slice (some ⟨p0, 0, none⟩) d.nY d.nY, .int .i64 (d.W2 : Int), .int .i64 (d.H2 : Int), .slice (some ⟨p1, 0, none⟩) d.nC d.nC, .int .i64 (d.W2 : Int), .int .i64 (d.H2 : Int), .slice (some ⟨p2, 0, none⟩) d.nC d.nC] 40)) := (Mod.refl _ w7).alloc _
            obtain ⟨pb, hpbe⟩ : ∃ pb, pb = w7.heap.size := ⟨_, rfl⟩
            rw [← hpbe] at hpb ⊢
            generalize w7.alloc (.cells #[.int .i64 (d.W : Int), .int .i64 (d.H : Int), .slice (some ⟨p0, 0, none⟩) d.nY d.nY, .int .i64 (d.W2 : Int), .int .i64 (d.H2 : Int), .slice (some ⟨p1, 0, none⟩) d.nC d.nC, .int .i64 (d.W2 : Int), .int .i64 (d.H2 : Int), .slice (some ⟨p2, 0, none⟩) d.nC d.nC] 40) = w8 at hpb hma ⊢
            have hqs := (H2.out.1.quiet (H7.out.1.trans hma)).own_ 1 rfl
            dsimp only at hqs
            obtain ⟨sc, sf⟩ := hqs.both
            have sl := hqs.lt
            have hKy : KyAt w2 d G tg g sg qq nn R A7 m c7 p0 p1 p2 pb w8 := ⟨H7.out.1.trans hma, H7.out.2.1.quiet hma, ⟨_, H7.out.2.2.1.quiet hma⟩, H7.out.2.2.2.1.quiet hma, hpb, H7.out.2.2.2.2.1.keep hma (fun h => h)⟩
            have H8 := Lib.hid (And.intro hKy (And.intro H7.out.2.2.2.2.2.1 H7.out.2.2.2.2.2.2))
            clear hpb hma hpbe hqs hKy H7
            go_wp2_with fail
            refine (H8.out.2.1 w8 m H8.out.1.bytes (by omega)).mono ?_
            rintro e w9 ⟨v9, rfl, hm9⟩
            clear sc sf sl
            go_upto_region 15 with (fail)
            have hhb := Blk.new w9 82 #[.bool K, .int .i64 (nu : Int), .int .i64 (q : Int)]
            have hma : Mod (fun _ => False) w9 (w9.alloc (.cells #[.bool K, .int .i64 (nu : Int), .int .i64 (q : Int)] 82)) := (Mod.refl _ w9).alloc _
            obtain ⟨hb, hhbe⟩ : ∃ hb, hb = w9.heap.size := ⟨_, rfl⟩
            rw [← hhbe] at hhb ⊢
            generalize w9.alloc (.cells #[.bool K, .int .i64 (nu : Int), .int .i64 (q : Int)] 82) = w10 at hhb hma ⊢
            have hma2 := hm9.trans hma
            have hKy := H8.out.1.quiet hma2
            have hqs := (H2.out.1.quiet hKy.mod).own_ 1 rfl
            dsimp only at hqs
            have g2 : w10.cell? ⟨w.heap.size, 2, none⟩ = some (.int .i64 (G : Int)) := hqs.cell 2
            have z0 : w10.cell? ⟨hb, 0, none⟩ = some (.bool K) := hhb.cell 0
            have z1 : w10.cell? ⟨hb, 1, none⟩ = some (.int .i64 (nu : Int)) := hhb.cell 1
            have z2 : w10.cell? ⟨hb, 2, none⟩ = some (.int .i64 (q : Int)) := hhb.cell 2
            have H10 := Lib.hid (And.intro hKy (And.intro hhb H8.out.2.2))
            clear hhb hma hma2 hm9 hhbe hKy hqs H8
            have hG0 : ((G : Int) == 0) = false := by simp; omega
            have em : (n : Int) % (G : Int) = (nu : Int) := by rw [HR.out.2.2.2.2.2.2.1]; exact (Int.natCast_emod n G).symm
            have et : (n : Int).tmod (G : Int) = (nu : Int) := by rw [Int.tmod_eq_emod_of_nonneg (by omega)]; exact em
            have dn : ((nu : Int) != (nu : Int)) = false := by simp
            have dq : ((q : Int) != (q : Int)) = false := by simp
            have dK : (K != K) = false := by cases K <;> rfl
            go_quiet (fail)
            have hKy := H10.out.1.quiet ((Mod.refl (fun _ => False) w10).drewN nq)
            have hhb := H10.out.2.1.drewN nq
            clear g2 z0 z1 z2
            generalize w10.drewN nq = w11 at hKy hhb ⊢
            have z0 : w11.cell? ⟨hb, 0, none⟩ = some (.bool K) := hhb.cell 0
            have H11 := Lib.hid (And.intro hKy (And.intro hhb H10.out.2.2))
            clear hKy hhb H10 em et dn dq dK
            cases K
            · go_wp2_with fail
              go_roundw
              case rel => exact ⟨k + 1, qq, n + 1, by omega, by omega, by go_num, by go_num, H11.out.2.2.1, ⟨R.2, by rw [← H11.out.2.2.2.2.2.1]; exact H11.out.1.enc⟩, H11.out.1.seq, H11.out.1.mod⟩
              case measure => simp [intOf]; omega
            · have hn0 : nu = 0 := by have := HR.out.2.2.2.1; simpa using this.symm
              have hR0 : R = eframe d f.pix noPix 0 q := by rw [H11.out.2.2.2.2.1, HR.out.2.2.2.2.1 hn0, hn0]
              have HR0 := Lib.hid hR0
              clear hn0 hR0
              go_wp2_with fail
              refine (decNew_of w11 d G _ sn sn (seqBy d.W d.H G) (blkIn H11.out.1.seq HSN.out.symm (by have := HSK.out.2; have := HSN.out; omega)) (by have := HSK.out.2; have := HSN.out; omega) HSK.out.1).mono ?_
              rintro e w12 ⟨dg, rfl, hD, ldg, hm12⟩
              have hKy := H11.out.1.quiet hm12
              have hbx := H2.out.1.quiet hKy.mod
              have hqs := hbx.own_ 1 rfl
              dsimp only at hqs
              obtain ⟨sc, sf⟩ := hqs.both
              have sl := hqs.lt
              have hqt := hbx.own_ 0 rfl
              dsimp only at hqt
              have t1 : w12.cell? ⟨w.heap.size + 1, 1, none⟩ = some (.int .i64 (tg : Int)) := hqt.cell 1
              have H12 := Lib.hid (And.intro hKy (And.intro hD (Nat.le_trans H11.out.1.mod.size ldg)))
              clear hKy hbx hqs hqt hD ldg hm12 z0
              go_wp2_with fail
              refine (encNew_of w12 d G q tg H3.out.2.2.2.1 hq31 ht).mono ?_
              rintro e w13 ⟨g2, rfl, hE2, lg2, hm13⟩
              have H13 := Lib.hid (And.intro (H12.out.1.quiet hm13) (And.intro (H12.out.2.1.quiet hm13) (And.intro (hE2 noPix) (And.intro H12.out.2.2 (And.intro (Nat.le_trans H12.out.1.mod.size lg2) (show g ≠ g2 from by have := H12.out.1.enc.lt; omega))))))
              clear sc sf sl t1 hE2 lg2 hm13 H12
              go_wp2_with fail
              refine (decFrame w13 dg d H3.out.1 G 0 none A7 m c7 R.1 H13.out.2.1 H13.out.1.bytes (by omega)).mono ?_
              have hfb := frame_back (fr := f.pix) (A := noPix) (nu := 0) (q := q) (nx := 0) (ah := none) H3.out.1 H3.out.2.1 (by omega) hq31 (fun h => absurd rfl h) rfl
              rw [← HR0.out] at hfb
              rintro e w14 (⟨er, hfe, _, _⟩ | ⟨f', nx', p', hf', rfl, ⟨r0, r1, r2, rfl, hfr, _, _, _⟩, _, hm14⟩)
              · exfalso
                rw [hfb] at hfe
                cases hfe
              · obtain rfl : f' = R.2 := by
                  rw [hfb] at hf'
                  injection hf' with h1
                  injection h1 with h1 h2
                  exact h1.symm
                obtain ⟨dc, hdb⟩ := H13.out.2.1.blk
                obtain ⟨ec, heb⟩ := H13.out.1.enc.blk
                have hKy := H13.out.1.other hm14 hdb (by decide) (by decide) (heb.ne_ hdb (by decide)) H13.out.2.2.2.1
                have hE14 := H13.out.2.2.1.dec H13.out.2.1 hm14
                have H14 := Lib.hid (And.intro hKy (And.intro hE14 (And.intro hfr H13.out.2.2.2.2)))
                clear hdb heb hKy hE14 hfr hm14 hf' hfb H13
                unfold frameV
                go_upto_region 23 with (fail)
                have hrb := Blk.new w14 40 #[.int .i64 (d.W : Int), .int .i64 (d.H : Int), .slice (some ⟨r0, 0, none⟩) d.nY d.nY, .int .i64 (d.W2 : Int), .int .i64 (d.H2 : Int), .slice (some ⟨r1, 0, none⟩) d.nC d.nC, .int .i64 (d.W2 : Int), .int .i64 (d.H2 : Int), .slice (some ⟨r2, 0, none⟩) d.nC d.nC]
                have hma : Mod (fun _ => False) w14 (w14.alloc (.cells #[.int .i64 (d.W : Int), .int .i64 (d.H : Int), .slice (some ⟨r0, 0, none⟩) d.nY d.nY, .int .i64 (d.W2 : Int), .int .i64 (d.H2 : Int), .slice (some ⟨r1, 0, none⟩) d.nC d.nC, .int .i64 (d.W2 : Int), .int .i64 (d.H2 : Int), .slice (some ⟨r2, 0, none⟩) d.nC d.nC] 40)) := (Mod.refl _ w14).alloc _
                obtain ⟨rb, hrbe⟩ : ∃ rb, rb = w14.heap.size := ⟨_, rfl⟩
                rw [← hrbe] at hrb ⊢
                generalize w14.alloc (.cells #[.int .i64 (d.W : Int), .int .i64 (d.H : Int), .slice (some ⟨r0, 0, none⟩) d.nY d.nY, .int .i64 (d.W2 : Int), .int .i64 (d.H2 : Int), .slice (some ⟨r1, 0, none⟩) d.nC d.nC, .int .i64 (d.W2 : Int), .int .i64 (d.H2 : Int), .slice (some ⟨r2, 0, none⟩) d.nC d.nC] 40) = w15 at hrb hma ⊢
                have hKy := H14.out.1.quiet hma
                have hE15 := H14.out.2.1.quiet hma
                have hMM := H2.out.1.mod.trans hKy.mod
                obtain ⟨bb', o', hA', hbw, hcells, hfi⟩ := (H0.out.2.2.quiet hMM).at_ k hlt
                injection hA' with hA'
                injection hA' with e1 e2
                subst e1 e2
                rw [← HR.out.2.2.2.2.2.2.2] at hcells hfi
                have k0 : w15.cell? ⟨bb, o + k * 9, none⟩ = some (.int .i64 f.W0) := hcells 0 _ rfl
                have k1 := hcells 1 _ rfl
                have k2 := hcells 2 _ rfl
                have k3 := hcells 3 _ rfl
                have k4 := hcells 4 _ rfl
                have k5 := hcells 5 _ rfl
                have k6 := hcells 6 _ rfl
                have k7 := hcells 7 _ rfl
                have k8 := hcells 8 _ rfl
                have hFC := encFrameAt hE15 (H0.out.2.1.quiet hMM) H3.out.1 hW64 hH64 H3.out.2.1 hq31 ht (by omega) f hfi
                unfold FrX.cells at hFC
                have H15 := Lib.hid (And.intro hKy (And.intro hE15 (And.intro (H14.out.2.2.1.quiet hma) (And.intro hrb (And.intro hFC H14.out.2.2.2)))))
                clear hrb hma hrbe hKy hE15 hMM hcells hfi hFC hbw H14
                go_wp2_with fail
                refine H15.out.2.2.2.2.1.mono ?_
                rintro e w16 (⟨hgd, _, _⟩ | ⟨_, v8, p8, rfl, hB8, ⟨y0, y1, y2, rfl, hfy, _, _, _⟩, _, hm16⟩)
                · exact absurd (hgd.symm.trans H11.out.2.2.2.1) (by decide)
                · rw [← HR0.out] at hB8
                  obtain ⟨A8, c8, rfl⟩ := own_shape hB8
                  rw [← H11.out.2.2.2.2.2.2] at hB8 ⊢
                  obtain ⟨ec, heb⟩ := H15.out.2.1.blk
                  have hKy := H15.out.1.other hm16 heb (by decide) (by decide) H15.out.2.2.2.2.2.2 H15.out.2.2.2.2.2.1
                  have hrb := H15.out.2.2.2.1.keep hm16 (H15.out.2.1.apart H15.out.2.2.2.1 (by decide))
                  have hfr := H15.out.2.1.fr H15.out.2.2.1 hm16
                  have H16 := Lib.hid (And.intro hKy (And.intro hrb (And.intro hfr hB8)))
                  clear heb hKy hrb hfr hB8 hm16 hfy k0 k1 k2 k3 k4 k5 k6 k7 k8 H15
                  unfold frameV
                  go_upto_region 24 with (fail)
                  have hma : Mod (fun _ => False) w16 (w16.alloc (.cells (frameV d y0 y1 y2).toArray 40)) := (Mod.refl _ w16).alloc _
                  unfold frameV at hma
                  generalize w16.alloc (.cells #[.int .i64 (d.W : Int), .int .i64 (d.H : Int), .slice (some ⟨y0, 0, none⟩) d.nY d.nY, .int .i64 (d.W2 : Int), .int .i64 (d.H2 : Int), .slice (some ⟨y1, 0, none⟩) d.nC d.nC, .int .i64 (d.W2 : Int), .int .i64 (d.H2 : Int), .slice (some ⟨y2, 0, none⟩) d.nC d.nC] 40) = w17 at hma ⊢
                  have hKy := H16.out.1.quiet hma
                  have hrb := H16.out.2.1.keep hma (fun h => h)
                  obtain ⟨rc, rf⟩ := hrb.both
                  have rl := hrb.lt
                  obtain ⟨pc, pf⟩ := hKy.box.both
                  have pl := hKy.box.lt
                  unfold frameV at pc
                  have hSm := same_fr w17 d H3.out.1 R.2 r0 r1 r2 p0 p1 p2 (H16.out.2.2.1.quiet hma) hKy.fa
                  unfold frameV at hSm
                  have H17 := Lib.hid (And.intro hKy (And.intro hSm (H16.out.2.2.2.quiet hma)))
                  clear hKy hrb hSm hma H16
                  go_wp2_with fail
                  refine H17.out.2.1.mono ?_
                  rintro e w18 ⟨rfl, hm18⟩
                  have hKy := H17.out.1.quiet hm18
                  have hb7 := hKy.bytes
                  have hb8 := (H17.out.2.2.quiet hm18).in_
                  have s1 := str_src _ A7 m c7 R.1 hb7.1 hb7.2.2.1
                  have s2 := str_src _ A8 m c8 R.1 hb8.1 hb8.2.2.1
                  have H18 := Lib.hid hKy
                  clear hKy hb7 hb8 hm18 rc rf rl pc pf pl H17
                  go_wp2_with fail
                  go_roundw
                  case rel => exact ⟨k + 1, qq, n + 1, by omega, by omega, by go_num, by go_num, H11.out.2.2.1, ⟨R.2, by rw [← H11.out.2.2.2.2.2.1]; exact H18.out.enc⟩, H18.out.seq, H18.out.mod⟩
                  case measure => simp [intOf]; omega
        · obtain rfl : k = n1 := by omega
          have d1 : decide ((k : Int) < (k : Int)) = false := decide_eq_false (by omega)
          have HL := Lib.hid (H2.out.1.mod.trans hM)
          clear hM hE0 hSB
          go_wp2_with fail
          refine (alive14 _ (H0.out.2.1.quiet HL.out)).mono ?_
          rintro e w6 ⟨rfl, hm6⟩
          have H6 := Lib.hid (HL.out.trans hm6)
          clear hm6
          go_wp2_with fail
          go_ret
          exact ⟨rfl, H6.out⟩
    · have hb3 : b7 = false ∨ (b7 = true ∧ b8 = false) := by cases b7 <;> cases b8 <;> simp_all
      clear hb hb2
      rcases hb3 with rfl | ⟨rfl, rfl⟩
      all_goals
        go_wp2_with fail
        refine (alive14 _ (H0.out.2.1.quiet H4.out.1.mod)).mono ?_
        rintro e w5 ⟨rfl, hm5⟩
        have H5 := Lib.hid (H4.out.1.mod.trans hm5)
        clear hm5
        go_wp2_with fail
        go_ret
        exact ⟨rfl, H5.out⟩
end Go.Proofs.YtmkopcojnibhlaaGreatDoor
