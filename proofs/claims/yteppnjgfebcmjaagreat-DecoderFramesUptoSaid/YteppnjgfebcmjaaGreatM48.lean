/-
  The reference's decoder: a coded frame.
-/
import Derived.Test.YteppnjgfebcmjaaGreatM46
import Derived.Test.YteppnjgfebcmjaaGreatM47
import Derived.Test.YteppnjgfebcmjaaGreatM19
import Derived.Test.YteppnjgfebcmjaaGreatM34
import Derived.Test.YteppnjgfebcmjaaGreatM18
namespace Go.Proofs.YteppnjgfebcmjaaGreat
open Go.RowKit

/-- What the reference's Frame does. -/
def RFrPost (w : World) (mg : Nat) (d : Dim) (G nx : Int) (ah : Option Pix) (l : List UInt8) (e : Ending) (w' : World) : Prop :=
  (∃ er : Int, frameS d G nx ah l = .error er ∧ e = .returned (.tuple #[.agg noFrame.toArray, .int .i64 er]) ∧ Mod (fun _ => False) w w') ∨
  ∃ f nx' p, frameS d G nx ah l = .ok (f, nx') ∧ e = .returned (.tuple #[p, .int .i64 0]) ∧ FrIn w' w.heap.size d p f ∧ RDecAt w' mg d G nx' (some f) ∧ Mod (· = mg) w w'
theorem fillB_le : ∀ i, (fillB 16).getD i 0 ≤ 65535 := by
  intro i
  unfold fillB
  rw [List.getD_eq_getElem?_getD, List.getElem?_append]
  split <;> (rw [List.getElem?_replicate]; split <;> decide)
theorem fBlank0 (w : World) (d : Dim) (hd : d.Ok) : Calls Tryz.prog 32 #[.int .i64 (d.W : Int), .int .i64 (d.H : Int), .int .u8 0] w (FBlankPost w d (blankPix d 0)) := fBlank w d hd 0
theorem rd_cells {w : World} {mg : Nat} {W H G nx : Int} {fr : List Value} (h : Blk w mg 45 (rdecV W H G nx fr)) : w.cell? ⟨mg, 0, none⟩ = some (.int .i64 W) ∧ w.cell? ⟨mg, 1, none⟩ = some (.int .i64 H) := ⟨h.cell 0, h.cell 1⟩
def FrCutB (w5 : World) (d : Dim) (v12 v13 : Value) (wx : World) : Prop :=
  v13 = .int .i64 0 ∧ ∃ fb b0 k0 b1 k1 b2 k2, v12 = .pointer (some ⟨fb, 0, none⟩) ∧ Blk wx fb 37 #[.int .i64 (d.W : Int), .int .i64 (d.H : Int), .slice (some ⟨b0, 0, none⟩) d.nY k0, .int .i64 (d.W2 : Int), .int .i64 (d.H2 : Int), .slice (some ⟨b1, 0, none⟩) d.nC k1, .int .i64 (d.W2 : Int), .int .i64 (d.H2 : Int), .slice (some ⟨b2, 0, none⟩) d.nC k2] ∧ FrB wx 0 d b0 k0 b1 k1 b2 k2 (blankPix d 0) ∧ w5.heap.size ≤ fb ∧ Mod (fun _ => False) w5 wx
theorem rdecV_nx (W H G nx : Int) (fr : List Value) (hl : fr.length = 9) : (rdecV W H G nx fr)[12]? = some (.int .i64 nx) := by
  simp [rdecV, hl]
theorem rfr_err {w wx w' : World} {mg res : Nat} {d : Dim} {G nx : Int} {ah : Option Pix} {l : List UInt8} (hm : Mod (fun _ => False) w wx) (hz : Blk wx res 37 #[.int .i64 0, .int .i64 0, .slice none 0 0, .int .i64 0, .int .i64 0, .slice none 0 0, .int .i64 0, .int .i64 0, .slice none 0 0]) (hr : w.heap.size ≤ res) (er : Int) (hR : frameS d G nx ah l = .error er) (hm' : Mod (fun _ => False) ((((((((((wx).setCell ⟨res, 0, none⟩ (.int .i64 0)).setCell ⟨res, 1, none⟩ (.int .i64 0)).setCell ⟨res, 2, none⟩ (.slice none 0 0)).setCell ⟨res, 3, none⟩ (.int .i64 0)).setCell ⟨res, 4, none⟩ (.int .i64 0)).setCell ⟨res, 5, none⟩ (.slice none 0 0)).setCell ⟨res, 6, none⟩ (.int .i64 0)).setCell ⟨res, 7, none⟩ (.int .i64 0)).setCell ⟨res, 8, none⟩ (.slice none 0 0)) w') :
    RFrPost w mg d G nx ah l (.returned (.tuple #[.agg noFrame.toArray, .int .i64 er])) w' :=
  .inl ⟨er, hR, rfl, (hm.into (fr_put9 hz (.int .i64 0) (.int .i64 0) (.slice none 0 0) (.int .i64 0) (.int .i64 0) (.slice none 0 0) (.int .i64 0) (.int .i64 0) (.slice none 0 0)).2 (fun i e => .inr (by omega))).trans hm'⟩
theorem frameS_hdr {d : Dim} {G nx : Int} {ah : Option Pix} {l : List UInt8} (h : hdrParse l d.W d.H G = none) : frameS d G nx ah l = .error 121 := by
  unfold frameS
  rw [h]
theorem frameS_keyless {d : Dim} {G nx : Int} {ah : Option Pix} {l : List UInt8} {K : Bool} {N Q : Int} {a4 : Nat} (h : hdrParse l d.W d.H G = some ((K, N, Q), a4)) (hk : keyless K N nx = true) : frameS d G nx ah l = .error 131 := by
  unfold frameS
  rw [h]
  dsimp only
  rw [if_pos hk]
theorem frameS_built {d : Dim} {G nx : Int} {ah : Option Pix} {l : List UInt8} {K : Bool} {N Q : Int} {a4 : Nat} (h : hdrParse l d.W d.H G = some ((K, N, Q), a4)) (hk : keyless K N nx = false) :
    frameS d G nx ah l = match builtS d (ah.getD noPix) K Q (l.drop ((a4 + 7) / 8)) with | none => .error 132 | some f => .ok (smPix Q.toNat d f, (N + 1) % G) := by
  unfold frameS
  rw [h]
  dsimp only
  rw [if_neg (by rw [hk]; decide)]
  rfl

set_option maxRecDepth 100000 in
set_option maxHeartbeats 4000000 in
theorem rFrame (w : World) (mg : Nat) (d : Dim) (hd : d.Ok) (hs : d.nY ≤ 1048576) (G nx : Int) (hsr : seqRight d.W d.H G = true) (ah : Option Pix) (h : RDecAt w mg d G nx ah) (A : Option Addr) (n c : Nat) (l : List UInt8) (hin : BytesIn w A n c l) (hn : n ≤ 1048576) (hnc : n ≤ c) :
    Calls Tryz.prog 14 #[.pointer (some ⟨mg, 0, none⟩), .slice A n c] w (RFrPost w mg d G nx ah l) := by
  obtain ⟨fr, hm, hfl, hnx, hah⟩ := h
  have hll : l.length = n := hin.1
  have hml := hm.lt
  have h0 := (Sat.one (fun _ => False) hm).alloc 37 #[.int .i64 0, .int .i64 0, .slice none 0 0, .int .i64 0, .int .i64 0, .slice none 0 0, .int .i64 0, .int .i64 0, .slice none 0 0] rfl
  obtain ⟨mc, mf⟩ := (h0.old_ 0 rfl).both
  have m0 : (w.alloc (.cells #[.int .i64 0, .int .i64 0, .slice none 0 0, .int .i64 0, .int .i64 0, .slice none 0 0, .int .i64 0, .int .i64 0, .slice none 0 0] 37)).cell? ⟨mg, 0, none⟩ = some (.int .i64 (d.W : Int)) := (h0.old_ 0 rfl).cell 0
  have m1 : (w.alloc (.cells #[.int .i64 0, .int .i64 0, .slice none 0 0, .int .i64 0, .int .i64 0, .slice none 0 0, .int .i64 0, .int .i64 0, .slice none 0 0] 37)).cell? ⟨mg, 1, none⟩ = some (.int .i64 (d.H : Int)) := (h0.old_ 0 rfl).cell 1
  have m2 : (w.alloc (.cells #[.int .i64 0, .int .i64 0, .slice none 0 0, .int .i64 0, .int .i64 0, .slice none 0 0, .int .i64 0, .int .i64 0, .slice none 0 0] 37)).cell? ⟨mg, 2, none⟩ = some (.int .i64 G) := (h0.old_ 0 rfl).cell 2
  have PH := fParseHdr (w.alloc (.cells #[.int .i64 0, .int .i64 0, .slice none 0 0, .int .i64 0, .int .i64 0, .slice none 0 0, .int .i64 0, .int .i64 0, .slice none 0 0] 37)) A n c l d.W d.H G hsr (hin.quiet h0.mod) hnc hn
  obtain ⟨R, hR⟩ : ∃ R, R = frameS d G nx ah l := ⟨_, rfl⟩
  have H0 := Lib.hid (And.intro h0 (And.intro hm (And.intro hfl (And.intro hnx (And.intro hah (And.intro hd (And.intro hs (And.intro hR PH))))))))
  clear h0 hm hfl hnx hah hd hs hsr hin hnc PH mc mf hR
  go_enter Tryz.func14, Tryz.ntmps14
  go_wp2_with fail
  refine H0.out.2.2.2.2.2.2.2.2.mono ?_
  rintro e w1 ⟨hm1, ⟨hp, rfl⟩ | ⟨K, N, Q, a4, v, hp, rfl, hv⟩⟩
  · have HS1 := H0.out.1.quiet hm1
    obtain ⟨zc, zf⟩ := (HS1.own_ 0 rfl).both
    have zl := (HS1.own_ 0 rfl).lt
    have H1 := Lib.hid (And.intro HS1 hp)
    clear HS1 hm1 hp
    go_wp2_with fail
    have hz9 := ((fr_put9 (H1.out.1.own_ 0 rfl) (.int .i64 0) (.int .i64 0) (.slice none 0 0) (.int .i64 0) (.int .i64 0) (.slice none 0 0) (.int .i64 0) (.int .i64 0) (.slice none 0 0)).1).alloc (.cells #[.bool false, .int .i64 0, .int .i64 0] 62)
    dsimp only at hz9
    obtain ⟨rc, rf⟩ := hz9.both
    exact bodyPost_ret (v := .tuple #[.agg noFrame.toArray, .int .i64 121]) (by simp [results, Tryz.results14, go_sem, rc, noFrame]) rfl (rfr_err H1.out.1.mod (H1.out.1.own_ 0 rfl) (by simp) 121 (frameS_hdr H1.out.2) ((Mod.refl _ _).alloc _))
  · have HS1 := H0.out.1.quiet hm1
    have hbb := hdr_bounds hp
    have hvl : n ≤ 1048576 := hn
    have HS2 := HS1.alloc 62 #[.bool K, .int .i64 N, .int .i64 Q] rfl
    have H1 := Lib.hid (And.intro HS2 (And.intro hp (And.intro hv hbb)))
    clear HS1 hm1 hp hv hbb
    go_upto_region 4 with (fail)
    have cM : (w1.alloc (.cells #[.bool K, .int .i64 N, .int .i64 Q] 62)).drew.cell? ⟨mg, 12, none⟩ = some (.int .i64 nx) := by
      have hq := (H1.out.1.drew.old_ 0 rfl).cell 12
      rw [rdecV_nx _ _ _ _ _ H0.out.2.2.1] at hq
      exact hq
    go_cut [49] (fun v49 wx => v49 = .bool (keyless K N nx) ∧ Mod (fun _ => False) (w1.alloc (.cells #[.bool K, .int .i64 N, .int .i64 Q] 62)) wx)
    case first =>
      --<F
      obtain ⟨hc0, hf0⟩ := (H1.out.1.drew.own_ 0 rfl).both
      cases K
      · by_cases hx : nx = 0
        · have d0 : (nx == 0) = true := by simpa using hx
          have HX := Lib.hid hx
          clear hx
          refine wp_region_planS [] [] (0 :: 1 :: 2 :: 3 :: 4 :: 5 :: 6 :: 7 :: 8 :: 9 :: 10 :: 11 :: 12 :: 13 :: 14 :: 15 :: 16 :: 17 :: 18 :: []) (fun _ => True) (by kernel_rfl) (by kernel_rfl) (fun _ _ _ d _ h => by cases d <;> exact h) trivial ?_
          iterate 19 (refine planS_still rfl rfl (fun K hK => ?_); go_simp; refine hK _ ?_; clear hK K)
          refine planS_done ?_
          go_wp2_with fail
          go_meet
          exact ⟨by simp [keyless, HX.out], (Mod.refl _ _).drew⟩
        · have d0 : (nx == 0) = false := by simpa using hx
          have HX := Lib.hid hx
          clear hx
          by_cases hy : N = nx
          · have d1 : (N != nx) = false := by simpa using hy
            have HY := Lib.hid hy
            clear hy
            refine wp_region_planS [] [] (0 :: 1 :: 2 :: 3 :: 4 :: 5 :: 6 :: 7 :: 8 :: 9 :: 10 :: 11 :: 12 :: 13 :: 14 :: 15 :: 16 :: 17 :: 18 :: []) (fun _ => True) (by kernel_rfl) (by kernel_rfl) (fun _ _ _ d _ h => by cases d <;> exact h) trivial ?_
            iterate 19 (refine planS_still rfl rfl (fun K hK => ?_); go_simp; refine hK _ ?_; clear hK K)
            refine planS_done ?_
            go_wp2_with fail
            go_meet
            exact ⟨by simp [keyless, HX.out, HY.out], (Mod.refl _ _).drew⟩
          · have d1 : (N != nx) = true := by simpa using hy
            have HY := Lib.hid hy
            clear hy
            refine wp_region_planS [] [] (0 :: 1 :: 2 :: 3 :: 4 :: 5 :: 6 :: 7 :: 8 :: 9 :: 10 :: 11 :: 12 :: 13 :: 14 :: 15 :: 16 :: 17 :: 18 :: []) (fun _ => True) (by kernel_rfl) (by kernel_rfl) (fun _ _ _ d _ h => by cases d <;> exact h) trivial ?_
            iterate 19 (refine planS_still rfl rfl (fun K hK => ?_); go_simp; refine hK _ ?_; clear hK K)
            refine planS_done ?_
            go_wp2_with fail
            go_meet
            exact ⟨by simp [keyless, HX.out, HY.out], (Mod.refl _ _).drew⟩
      · refine wp_region_planS [] [] (0 :: 1 :: 2 :: 3 :: 4 :: 5 :: 6 :: 7 :: 8 :: 9 :: 10 :: 11 :: 12 :: 13 :: 14 :: 15 :: 16 :: 17 :: 18 :: []) (fun _ => True) (by kernel_rfl) (by kernel_rfl) (fun _ _ _ d _ h => by cases d <;> exact h) trivial ?_
        iterate 19 (refine planS_still rfl rfl (fun K hK => ?_); go_simp; refine hK _ ?_; clear hK K)
        refine planS_done ?_
        go_wp2_with fail
        go_meet
        exact ⟨by simp [keyless], (Mod.refl _ _).drew⟩
      --F>
    case rest =>
      obtain ⟨rfl, hmx⟩ := hcut
      rename World => wx
      obtain ⟨kl, hkl⟩ : ∃ kl, kl = keyless K N nx := ⟨_, rfl⟩
      rw [← hkl]
      have HSx := H1.out.1.quiet hmx
      obtain ⟨C, cv, hsh⟩ := own_shape H1.out.2.2.1
      subst hsh
      have hin2 := ((H1.out.2.2.1.quiet ((Mod.refl (fun _ => False) w1).alloc (.cells #[.bool K, .int .i64 N, .int .i64 Q] 62))).quiet hmx).in_
      clear cM m0 m1 m2
      cases kl
      · have hFS := frameS_built (ah := ah) H1.out.2.1 hkl.symm
        obtain ⟨code, hcode⟩ : ∃ code, code = l.drop ((a4 + 7) / 8) := ⟨_, rfl⟩
        rw [← hcode] at hFS hin2 ⊢
        have hcl : code.length ≤ 1048576 := by
          rw [hcode, List.length_drop]
          omega
        have H2 := Lib.hid (And.intro HSx (And.intro hFS (And.intro hin2 (And.intro hcl hkl))))
        clear hkl hmx HSx hFS hin2 hcl hcode
        by_cases h4 : code.length < 4
        · have hR4 : frameS d G nx ah l = .error 132 := by
            rw [H2.out.2.1]
            unfold builtS
            rw [if_pos h4]
          have HR4 := Lib.hid hR4
          clear hR4
          obtain ⟨zc, zf⟩ := (H2.out.1.own_ 1 rfl).both
          have zl := (H2.out.1.own_ 1 rfl).lt
          go_wp2_with fail
          refine (fOpenShort wx C code.length cv h4).mono ?_
          rintro e w3 ⟨er, her, rfl, hm3⟩
          have HS3 := H2.out.1.quiet hm3
          clear zc zf zl
          obtain ⟨zc, zf⟩ := (HS3.own_ 1 rfl).both
          have zl := (HS3.own_ 1 rfl).lt
          have her' : (er != 0) = true := by rw [bne, her]; rfl
          have H3 := Lib.hid HS3
          clear HS3 hm3 her
          go_wp2_with fail
          have hz9 := ((fr_put9 (H3.out.own_ 1 rfl) (.int .i64 0) (.int .i64 0) (.slice none 0 0) (.int .i64 0) (.int .i64 0) (.slice none 0 0) (.int .i64 0) (.int .i64 0) (.slice none 0 0)).1)
          dsimp only at hz9
          obtain ⟨rc, rf⟩ := hz9.both
          exact bodyPost_ret (v := .tuple #[.agg noFrame.toArray, .int .i64 132]) (by simp [results, Tryz.results14, go_sem, rc, noFrame]) rfl (rfr_err H3.out.mod (H3.out.own_ 1 rfl) (by simp) 132 HR4.out (Mod.refl _ _))
        · obtain ⟨r, off, hC, hrl, _⟩ := H2.out.2.2.1.place (by omega)
          subst hC
          have FO := fOpen wx (· = r) (some ⟨r, off, none⟩) code.length cv code (by omega) H2.out.2.2.2.1 H2.out.2.2.1 (fun ad e => by cases e; rfl)
          have HFO := Lib.hid FO
          clear FO
          go_wp2_with fail
          refine HFO.out.mono ?_
          rintro e w3 ⟨g, rfl, hco, lg, hm3⟩
          have H3 := Lib.hid (And.intro hco (And.intro lg hm3))
          clear HFO hco lg hm3
          go_wp2_with fail
          refine (fBookNew w3).mono ?_
          rintro e w4 ⟨bk, rfl, hbk, lbk, hm4⟩
          have H4 := Lib.hid (And.intro hbk (And.intro lbk hm4))
          clear hbk lbk hm4
          go_upto_region 10 with (fail)
          have q1 := H3.out.2.1
          have q2 := H4.out.2.1
          have q3 := H3.out.2.2.size
          have q4 := H4.out.2.2.size
          have q5 := H2.out.1.mod.size
          have q6 := H4.out.1.lt
          have q7 : g < w3.heap.size := by obtain ⟨_, _, _, _, _, hb, _⟩ := H3.out.1; exact hb.lt
          have q8 := (H2.out.1.own_ 0 rfl).lt
          have q9 := (H2.out.1.own_ 1 rfl).lt
          dsimp only at q8 q9
          have q10 : w.heap.size < w1.heap.size := by
            have a1 := (H1.out.1.own_ 1 rfl).lt
            have a2 := H1.out.1.apart 0 1 rfl rfl (by omega)
            have a3 : (w1.alloc (.cells #[.bool K, .int .i64 N, .int .i64 Q] 62)).heap.size = w1.heap.size + 1 := by simp
            dsimp only at a1 a2
            omega
          have hM5 : Mod (fun _ => False) wx (w4.alloc (.cells (rdrV bk g true) 75)) := (H3.out.2.2.trans H4.out.2.2).alloc _
          have HS5 := H2.out.1.quiet hM5
          have hrd5 : Blk (w4.alloc (.cells (rdrV bk g true) 75)) w4.heap.size 75 (rdrV bk g true) := Blk.new _ _ _
          have hbk5 := H4.out.1.alloc (.cells (rdrV bk g true) 75)
          have hco5 := H3.out.1.mod (H4.out.2.2.alloc (.cells (rdrV bk g true) 75)) (fun h => h) (fun _ _ h => h)
          have q11 := hrd5.lt
          change Code.wp _ _ _ _ (w4.alloc (.cells (rdrV bk g true) 75))
          obtain ⟨rb, hrb⟩ : ∃ rb, rb = w4.heap.size := ⟨_, rfl⟩
          rw [← hrb] at hrd5 ⊢
          have HRB := Lib.hid hrb
          clear hrb
          generalize (w4.alloc (.cells (rdrV bk g true) 75)) = w5 at *
          have hdb : Blk w5 mg 45 (rdecV d.W d.H G nx fr) := HS5.old_ 0 rfl
          have hdc := rd_cells hdb.drew
          have H5 := Lib.hid (And.intro HS5 (And.intro hrd5 (And.intro hbk5 (And.intro hco5 hM5))))
          clear HS5 hrd5 hbk5 hco5 hM5
          have hne1 : mg ≠ w5.heap.size := by have := hdb.lt; omega
          go_cut [12, 13] (fun v12 v13 wy => FrCutB w5 d v12 v13 wy)
          case first =>
            --<F
            go_region_held3 (fun w' => w'.cell? ⟨mg, 0, none⟩ = some (.int .i64 (d.W : Int)) ∧ w'.cell? ⟨mg, 1, none⟩ = some (.int .i64 (d.H : Int))) (first | with_reducible exact rd_cells hdb.drew | with_reducible exact rd_cells (hdb.alloc _).drew | with_reducible exact rd_cells hdb | with_reducible exact rd_cells (hdb.alloc _) | exact rd_cells (by repeat' (first | with_reducible exact hdb | with_reducible refine Blk.far ?_ hne1 _))) (first | (go_at_call 32; (with_reducible refine (fBlank0 _ d H0.out.2.2.2.2.2.1).mono ?_); rintro e w6 ⟨p, rfl, ⟨b0, k0, b1, k1, b2, k2, rfl, hfr⟩, hm6⟩; (have hdb : Blk w6 mg 45 (rdecV d.W d.H G nx fr) := by first | exact hdb.drew.keep hm6 (fun h => h) | exact (hdb.alloc _).drew.keep hm6 (fun h => h)); (try (have hz := Blk.keep (Blk.new _ 37 #[.int .i64 0, .int .i64 0, .slice none 0 0, .int .i64 0, .int .i64 0, .slice none 0 0, .int .i64 0, .int .i64 0, .slice none 0 0]).drew hm6 (fun h => h); obtain ⟨zc, zf⟩ := hz.both; have zl := hz.lt)); unfold frV))
            all_goals (go_wp2_with fail; go_meet)
            · exact ⟨rfl, _, b0, k0, b1, k1, b2, k2, rfl, Blk.new _ _ _, (hfr.down (Nat.zero_le _)).quiet ((Mod.refl _ _).alloc _), hm6.size, (((Mod.refl _ w5).drew).trans hm6).alloc _⟩
            · have h9 := fr_put9 hz (.int .i64 (d.W : Int)) (.int .i64 (d.H : Int)) (.slice (some ⟨b0, 0, none⟩) d.nY k0) (.int .i64 (d.W2 : Int)) (.int .i64 (d.H2 : Int)) (.slice (some ⟨b1, 0, none⟩) d.nC k1) (.int .i64 (d.W2 : Int)) (.int .i64 (d.H2 : Int)) (.slice (some ⟨b2, 0, none⟩) d.nC k2)
              have hmA : Mod (fun _ => False) w5 w6 := (((Mod.refl _ w5).alloc _).drew).trans hm6
              exact ⟨rfl, _, b0, k0, b1, k1, b2, k2, rfl, h9.1, (hfr.down (Nat.zero_le _)).mod h9.2 (fun j e => .inr ⟨37, _, e ▸ hz, by decide⟩), Nat.le_refl _, hmA.into h9.2 (fun i e => .inr (by omega))⟩
            --F>
          case rest =>
            obtain ⟨rfl, fb, b0, k0, b1, k1, b2, k2, rfl, hfb, hfr, lfb, hm6⟩ := hcut
            rename World => w6
            have HSy := H5.out.1.quiet hm6
            have hmg := HSy.old_ 0 rfl
            have hI : FrI w mg w.heap.size w1.heap.size fb bk g rb r := by
              have hrb := HRB.out
              refine ⟨⟨by omega, by omega, by omega, by omega, by omega, by omega⟩, hml, by omega, by omega, by omega, by omega, by omega, ?_, ?_, ?_, by omega, by omega, by omega, by omega⟩ <;> (unfold RB3; omega)
            have hT : FrT w w6 mg w.heap.size w1.heap.size fb bk g rb r (rdecV d.W d.H G nx fr) #[.bool K, .int .i64 N, .int .i64 Q] d b0 k0 b1 k1 b2 k2 (blankPix d 0) true ⟨fillB 16, code.drop 4, be (code.take 4), 4294967295⟩ :=
              ⟨hmg, HSy.own_ 1 rfl, HSy.own_ 0 rfl, hfb, H5.out.2.1.keep hm6 (fun h => h), fun _ => ⟨H5.out.2.2.1.keep hm6 (fun h => h), fillB_length 16 (Nat.le_refl _), fillB_le, H5.out.2.2.2.1.mod hm6 (fun h => h) (fun _ _ h => h)⟩, fun _ => hfr, HSy.mod⟩
            obtain ⟨c0', e0, c1', e1, c2', e2, hA⟩ : ∃ c0 e0 c1 e1 c2 e2, K = false → fr = frV d c0 e0 c1 e1 c2 e2 ∧ FrB w 0 d c0 e0 c1 e1 c2 e2 (ah.getD noPix) := by
              cases K
              · have hkl := H2.out.2.2.2.2
                have hnx0 : nx ≠ 0 := by
                  intro e
                  simp [keyless, e] at hkl
                cases hah : ah with
                | none => exact absurd (H0.out.2.2.2.1 hah) hnx0
                | some f0 =>
                  obtain ⟨c0, e0, c1, e1, c2, e2, h1, h2⟩ := H0.out.2.2.2.2.1 f0 hah
                  exact ⟨c0, e0, c1, e1, c2, e2, fun _ => ⟨h1, h2⟩⟩
              · exact ⟨0, 0, 0, 0, 0, 0, fun e => by cases e⟩
            obtain ⟨ahd, hahd⟩ : ∃ ahd, ahd = ah.getD noPix := ⟨_, rfl⟩
            obtain ⟨RR, hRR⟩ : ∃ RR, RR = rowsS d ahd K Q (d.H / 16) (blankPix d 0) ⟨fillB 16, code.drop 4, be (code.take 4), 4294967295⟩ := ⟨_, rfl⟩
            have hFS : frameS d G nx ah l = match (RR.bind fun a => if a.2.code = [] ∧ a.2.rest = 0 then some a.1 else none) with | none => .error 132 | some f => .ok (smPix Q.toNat d f, (N + 1) % G) := by
              rw [H2.out.2.1, hRR, hahd]
              unfold builtS
              rw [if_neg h4]
            rw [← hahd] at hA
            have hbb := H1.out.2.2.2
            obtain ⟨q, hq⟩ := Int.eq_ofNat_of_zero_le hbb.1.1
            have HQ := Lib.hid hq
            clear hq
            have hd := H0.out.2.2.2.2.2.1
            have hs := H0.out.2.2.2.2.2.2.1
            have hfl := H0.out.2.2.1
            have HT := Lib.hid (And.intro hT (And.intro hI (And.intro hA (And.intro hFS (And.intro hRR (And.intro hbb (And.intro hd (And.intro hs hfl))))))))
            clear hT hI hA hFS hRR hbb hd hs hfl hahd hfb hfr lfb hm6 HSy hmg H1 H2 H3 H4 H5 HRB q1 q2 q3 q4 q5 q6 q7 q8 q9 q10 q11 hdb hdc hne1 h4 hrl H0
            generalize w.heap.size = res at *
            generalize w1.heap.size = hb at *
            go_wp2_with fail
            go_loopw [14] (FrRel w mg res hb fb bk g rb r (rdecV d.W d.H G nx fr) #[.bool K, .int .i64 N, .int .i64 Q] d ahd K Q RR) (fun s _ => d.H - (intOf s).toNat)
            case atStart => exact ⟨0, true, b0, k0, b1, k1, b2, k2, _, _, by omega, by omega, rfl, HT.out.1, .inl ⟨rfl, by rw [HT.out.2.2.2.2.1]; simp⟩⟩
            case round =>
              obtain ⟨y, ok, b0, k0, b1, k1, b2, k2, f, s, hy16, hyH, rfl, hT1, hcc⟩ := hrel
              have hd4 := area_le HT.out.2.2.2.2.2.2.1.sides
              have hW4 : d.W ≤ 4096 := by omega
              have hH4 : d.H ≤ 4096 := by omega
              have hW16 := HT.out.2.2.2.2.2.2.1.w16
              have hH16 := HT.out.2.2.2.2.2.2.1.h16
              clear hd4
              have HI := Lib.hid HT.out.2.1
              have c0 : wr.cell? ⟨mg, 0, none⟩ = some (.int .i64 (d.W : Int)) := hT1.mg_.cell 0
              have c1 : wr.cell? ⟨mg, 1, none⟩ = some (.int .i64 (d.H : Int)) := hT1.mg_.cell 1
              obtain ⟨rc, rf⟩ := hT1.rd.both
              unfold rdrV at rc
              have rl := hT1.rd.lt
              obtain ⟨zc, zf⟩ := hT1.res_.both
              have zl := hT1.res_.lt
              cases ok
              · --<F
                have hRn : RR = none := by
                  rcases hcc with ⟨h, _⟩ | ⟨_, h⟩
                  · cases h
                  · exact h
                have hFS := HT.out.2.2.2.1
                rw [hRn] at hFS
                have HE := Lib.hid (And.intro (show frameS d G nx ah l = .error 132 from hFS) (And.intro hT1.mod hT1.res_))
                clear hRn hFS hcc hT1
                by_cases hlt : y < d.H
                · have d1 : decide ((y : Int) < (d.H : Int)) = true := decide_eq_true (by omega)
                  go_wp2_with fail
                  have hz9 := ((fr_put9 HE.out.2.2 (.int .i64 0) (.int .i64 0) (.slice none 0 0) (.int .i64 0) (.int .i64 0) (.slice none 0 0) (.int .i64 0) (.int .i64 0) (.slice none 0 0)).1)
                  obtain ⟨sc, sf⟩ := hz9.both
                  exact bodyPost_ret (v := .tuple #[.agg noFrame.toArray, .int .i64 132]) (by simp [results, Tryz.results14, go_sem, sc, noFrame]) rfl (rfr_err HE.out.2.1 HE.out.2.2 HI.out.lres 132 HE.out.1 (Mod.refl _ _))
                · have d1 : decide ((y : Int) < (d.H : Int)) = false := decide_eq_false (by omega)
                  go_wp2_with fail
                  have hz9 := ((fr_put9 HE.out.2.2 (.int .i64 0) (.int .i64 0) (.slice none 0 0) (.int .i64 0) (.int .i64 0) (.slice none 0 0) (.int .i64 0) (.int .i64 0) (.slice none 0 0)).1)
                  obtain ⟨sc, sf⟩ := hz9.both
                  exact bodyPost_ret (v := .tuple #[.agg noFrame.toArray, .int .i64 132]) (by simp [results, Tryz.results14, go_sem, sc, noFrame]) rfl (rfr_err HE.out.2.1 HE.out.2.2 HI.out.lres 132 HE.out.1 (Mod.refl _ _))
                --F>
              · have hRr : rowsS d ahd K Q ((d.H - y) / 16) f s = RR := by
                  rcases hcc with ⟨_, h⟩ | ⟨h, _⟩
                  · exact h
                  · cases h
                clear hcc
                by_cases hlt : y < d.H
                · have d1 : decide ((y : Int) < (d.H : Int)) = true := decide_eq_true (by omega)
                  have hyn : y + 16 ≤ d.H := by omega
                  rw [show (d.H - y) / 16 = (d.H - (y + 16)) / 16 + 1 by omega] at hRr
                  unfold rowsS at hRr
                  rw [show d.H - 16 * ((d.H - (y + 16)) / 16 + 1) = y by omega] at hRr
                  have HK := Lib.hid (And.intro hRr hT1)
                  clear hRr hT1 zc zf zl
                  go_wp2_with fail
                  go_loopw [15] (FrRel2 w mg res hb fb bk g rb r (rdecV d.W d.H G nx fr) #[.bool K, .int .i64 N, .int .i64 Q] d ahd K Q y RR) (fun s _ => d.W - (intOf s).toNat)
                  case atStart => exact ⟨0, true, b0, k0, b1, k1, b2, k2, f, s, by omega, by omega, rfl, HK.out.2, .inl ⟨rfl, by simpa using HK.out.1⟩⟩
                  case round =>
                    clear c0 c1 rc rf rl HK
                    obtain ⟨x, ok, b0, k0, b1, k1, b2, k2, f1, s1, hx16, hxW, rfl, hT2, hcc⟩ := hrel
                    rename World => wq
                    have c0 : wq.cell? ⟨mg, 0, none⟩ = some (.int .i64 (d.W : Int)) := hT2.mg_.cell 0
                    obtain ⟨rc, rf⟩ := hT2.rd.both
                    unfold rdrV at rc
                    have rl := hT2.rd.lt
                    by_cases hxl : x < d.W
                    · have d2 : decide ((x : Int) < (d.W : Int)) = true := decide_eq_true (by omega)
                      have hxn : x + 16 ≤ d.W := by omega
                      cases ok
                      · have hRn : RR = none := by
                          rcases hcc with ⟨h, _⟩ | ⟨_, h⟩
                          · cases h
                          · exact h
                        have HX := Lib.hid (And.intro hRn hT2)
                        clear hRn hT2 hcc
                        go_wp2_with fail
                        go_roundw
                        case rel => exact ⟨y + 16, false, b0, k0, b1, k1, b2, k2, f1, s1, by omega, by omega, by go_num, HX.out.2, .inr ⟨rfl, HX.out.1⟩⟩
                        case measure => simp [intOf]; omega
                      · have hRx : ((rowS d ahd K Q y ((d.W - x) / 16) f1 s1).bind fun a => rowsS d ahd K Q ((d.H - (y + 16)) / 16) a.1 a.2) = RR := by
                          rcases hcc with ⟨_, h⟩ | ⟨h, _⟩
                          · exact h
                          · cases h
                        rw [show (d.W - x) / 16 = (d.W - (x + 16)) / 16 + 1 by omega] at hRx
                        unfold rowS at hRx
                        rw [show d.W - 16 * ((d.W - (x + 16)) / 16 + 1) = x by omega] at hRx
                        obtain ⟨fc, ff⟩ := hT2.fbk.both
                        obtain ⟨hc, hf⟩ := hT2.hd.both
                        have SQ := fRSquare wq mg bk g rb (· = r) HI.out.id (fun j e => by have h1 := hT2.fbk.lt; have h2 := HI.out.rfb; omega) s1 (hT2.rs rfl) hT2.rd 0 (Nat.zero_le _) d HT.out.2.2.2.2.2.2.1 HT.out.2.2.2.2.2.2.2.1 b0 k0 b1 k1 b2 k2 f1 (hT2.fr_ rfl) G nx fr hT2.mg_ K N Q c0' e0 c1' e1 c2' e2 ahd (fun hk => ⟨(HT.out.2.2.1 hk).1, (HT.out.2.2.1 hk).2.quiet hT2.mod⟩) x y hxn hyn
                        have HX := Lib.hid (And.intro hRx (And.intro hT2 SQ))
                        clear hRx hT2 hcc SQ
                        go_wp2_with fail
                        refine HX.out.2.2.mono ?_
                        rintro e w8 ⟨hm8, (⟨hr8, ⟨q0, r0, q1, r1, q2, r2, rfl⟩, hrd8⟩ | ⟨v8, f8, s8, hr8, rfl, ⟨q0, r0, q1, r1, q2, r2, rfl, hf8⟩, hs8, hrd8⟩)⟩
                        · have hT8 := HX.out.2.1.step (b0 := q0) (k0 := r0) (b1 := q1) (k1 := r1) (b2 := q2) (k2 := r2) (f' := f1) (s' := s1) HI.out hm8 hrd8 (fun e => by cases e) (fun e => by cases e)
                          have hRx := HX.out.1
                          rw [hr8] at hRx
                          have hfb8 := HX.out.2.1.fbk.keep hm8 HI.out.fb3
                          clear fc ff hc hf
                          obtain ⟨fc, ff⟩ := hfb8.both
                          have fl := hfb8.lt
                          have H8 := Lib.hid (And.intro hT8 (show RR = none from hRx.symm))
                          clear hT8 hRx hfb8 hm8 hr8 hrd8 c0 rc rf rl
                          unfold frV
                          go_wp2_with fail
                          go_roundw
                          case rel => exact ⟨x + 16, false, q0, r0, q1, r1, q2, r2, f1, s1, by omega, by omega, by go_num, H8.out.1, .inr ⟨rfl, H8.out.2⟩⟩
                          case measure => simp [intOf]; omega
                        · have hT8 := HX.out.2.1.step (b0 := q0) (k0 := r0) (b1 := q1) (k1 := r1) (b2 := q2) (k2 := r2) (f' := f8) (s' := s8) HI.out hm8 hrd8 (fun _ => hs8) (fun _ => hf8)
                          have hRx := HX.out.1
                          rw [hr8] at hRx
                          have hfb8 := HX.out.2.1.fbk.keep hm8 HI.out.fb3
                          clear fc ff hc hf
                          obtain ⟨fc, ff⟩ := hfb8.both
                          have fl := hfb8.lt
                          have H8 := Lib.hid (And.intro hT8 hRx)
                          clear hT8 hRx hfb8 hm8 hr8 hrd8 hs8 hf8 c0 rc rf rl
                          unfold frV
                          go_wp2_with fail
                          go_roundw
                          case rel => exact ⟨x + 16, true, q0, r0, q1, r1, q2, r2, f8, s8, by omega, by omega, by go_num, H8.out.1, .inl ⟨rfl, H8.out.2⟩⟩
                          case measure => simp [intOf]; omega
                    · obtain rfl : x = d.W := by omega
                      have d2 : decide ((d.W : Int) < (d.W : Int)) = false := decide_eq_false (by omega)
                      rw [Nat.sub_self, Nat.zero_div] at hcc
                      have HX := Lib.hid (And.intro hcc hT2)
                      clear hcc hT2
                      go_wp2_with fail
                      go_roundw
                      case rel => exact ⟨y + 16, ok, b0, k0, b1, k1, b2, k2, f1, s1, by omega, by omega, by go_num, HX.out.2, by simpa [rowS] using HX.out.1⟩
                      case measure => simp [intOf]; omega
                · obtain rfl : y = d.H := by omega
                  have d1 : decide ((d.H : Int) < (d.H : Int)) = false := decide_eq_false (by omega)
                  rw [Nat.sub_self, Nat.zero_div] at hRr
                  have hRs : RR = some (f, s) := hRr.symm
                  have FE := fEnd wr g (· = r) s.code s.rest s.wide (hT1.rs rfl).2.2.2
                  have HE := Lib.hid (And.intro hT1 (And.intro hRs FE))
                  clear hT1 hRs hRr FE
                  go_wp2_with fail
                  refine HE.out.2.2.mono ?_
                  rintro e w7 ⟨⟨er, rfl, h7⟩, hm7⟩
                  have hT7 := HE.out.1.quiet hm7
                  have hFS := HT.out.2.2.2.1
                  rw [HE.out.2.1] at hFS
                  clear c0 c1 rc rf rl zc zf zl
                  rcases h7 with ⟨e1, e2, rfl⟩ | ⟨e1, rfl⟩
                  · have hR : frameS d G nx ah l = .ok (smPix q d f, (N + 1) % G) := by
                      rw [hFS]
                      show ((match (if s.code = [] ∧ s.rest = 0 then some f else none) with | none => Except.error 132 | some f => Except.ok (smPix Q.toNat d f, (N + 1) % G)) : Except Int (Pix × Int)) = _
                      rw [if_pos ⟨e1, e2⟩, HQ.out]
                      rfl
                    have hq31 : q ≤ 31 := by
                      have := HT.out.2.2.2.2.2.1.1
                      have := HQ.out
                      omega
                    have DF : Calls Tryz.prog 35 #[.agg (frV d b0 k0 b1 k1 b2 k2).toArray, .int .i64 Q] w7 (FBlankPost w7 d (smPix q d f)) := by
                      rw [HQ.out]
                      exact fDebFrame w7 0 d HT.out.2.2.2.2.2.2.1 HT.out.2.2.2.2.2.2.2.1 b0 k0 b1 k1 b2 k2 f (hT7.fr_ rfl) q hq31
                    obtain ⟨fc, ff⟩ := hT7.fbk.both
                    obtain ⟨hc, hf⟩ := hT7.hd.both
                    have hal := hT7.mod.size
                    have H7 := Lib.hid (And.intro hT7 (And.intro hR (And.intro DF hal)))
                    clear hT7 hR DF hFS e1 e2 hm7 HE hal
                    go_wp2_with fail
                    refine H7.out.2.2.1.mono ?_
                    rintro e w8 ⟨p, rfl, ⟨q0, r0, q1, r1, q2, r2, rfl, hf8⟩, hm8⟩
                    have hT8 := H7.out.1.quiet hm8
                    obtain ⟨x0, x1, x2, x3, x4, x5, x6, x7, x8, hfr9⟩ := list9 HT.out.2.2.2.2.2.2.2.2
                    have hmgb : Blk w8 mg 45 #[.int .i64 (d.W : Int), .int .i64 (d.H : Int), .int .i64 G, x0, x1, x2, x3, x4, x5, x6, x7, x8, .int .i64 nx] := by
                      have := hT8.mg_
                      rw [hfr9] at this
                      exact this
                    clear fc ff hc hf
                    obtain ⟨mc, mf⟩ := hmgb.both
                    have ml := hmgb.lt
                    obtain ⟨hc, hf⟩ := hT8.hd.both
                    obtain ⟨zc, zf⟩ := hT8.res_.both
                    have zl := hT8.res_.lt
                    have hml := hT8.hd.lt
                    have H8 := Lib.hid (And.intro hT8 (And.intro hf8 (And.intro hmgb (And.intro hm8 hfr9))))
                    clear hT8 hf8 hmgb hm8 hfr9
                    unfold frV
                    go_upto_region 22 with (fail)
                    have hmgr : Blk w8 mg 45 (rdecV d.W d.H G nx [x0, x1, x2, x3, x4, x5, x6, x7, x8]) := H8.out.2.2.1
                    have h9 := mg_put9 hmgr d q0 r0 q1 r1 q2 r2
                    have nmr : mg ≠ res := by have := HI.out.mgl; have := HI.out.lres; omega
                    have nmh : mg ≠ hb := by
                      intro e
                      subst e
                      exact H8.out.1.mg_.ne_ H8.out.1.hd (by decide) rfl
                    have hmg9 := h9.1.alloc (.cells #[.int .i64 (d.W : Int), .int .i64 (d.H : Int), .slice (some ⟨q0, 0, none⟩) d.nY r0, .int .i64 (d.W2 : Int), .int .i64 (d.H2 : Int), .slice (some ⟨q1, 0, none⟩) d.nC r1, .int .i64 (d.W2 : Int), .int .i64 (d.H2 : Int), .slice (some ⟨q2, 0, none⟩) d.nC r2] 37)
                    have ho9 : Blk (((((((((((w8).setCell ⟨mg, 3, none⟩ (.int .i64 (d.W : Int))).setCell ⟨mg, 4, none⟩ (.int .i64 (d.H : Int))).setCell ⟨mg, 5, none⟩ (.slice (some ⟨q0, 0, none⟩) d.nY r0)).setCell ⟨mg, 6, none⟩ (.int .i64 (d.W2 : Int))).setCell ⟨mg, 7, none⟩ (.int .i64 (d.H2 : Int))).setCell ⟨mg, 8, none⟩ (.slice (some ⟨q1, 0, none⟩) d.nC r1)).setCell ⟨mg, 9, none⟩ (.int .i64 (d.W2 : Int))).setCell ⟨mg, 10, none⟩ (.int .i64 (d.H2 : Int))).setCell ⟨mg, 11, none⟩ (.slice (some ⟨q2, 0, none⟩) d.nC r2)).alloc (.cells #[.int .i64 (d.W : Int), .int .i64 (d.H : Int), .slice (some ⟨q0, 0, none⟩) d.nY r0, .int .i64 (d.W2 : Int), .int .i64 (d.H2 : Int), .slice (some ⟨q1, 0, none⟩) d.nC r1, .int .i64 (d.W2 : Int), .int .i64 (d.H2 : Int), .slice (some ⟨q2, 0, none⟩) d.nC r2] 37)) w8.heap.size 37 #[.int .i64 (d.W : Int), .int .i64 (d.H : Int), .slice (some ⟨q0, 0, none⟩) d.nY r0, .int .i64 (d.W2 : Int), .int .i64 (d.H2 : Int), .slice (some ⟨q1, 0, none⟩) d.nC r1, .int .i64 (d.W2 : Int), .int .i64 (d.H2 : Int), .slice (some ⟨q2, 0, none⟩) d.nC r2] := by
                      have := Blk.new ((((((((((w8).setCell ⟨mg, 3, none⟩ (.int .i64 (d.W : Int))).setCell ⟨mg, 4, none⟩ (.int .i64 (d.H : Int))).setCell ⟨mg, 5, none⟩ (.slice (some ⟨q0, 0, none⟩) d.nY r0)).setCell ⟨mg, 6, none⟩ (.int .i64 (d.W2 : Int))).setCell ⟨mg, 7, none⟩ (.int .i64 (d.H2 : Int))).setCell ⟨mg, 8, none⟩ (.slice (some ⟨q1, 0, none⟩) d.nC r1)).setCell ⟨mg, 9, none⟩ (.int .i64 (d.W2 : Int))).setCell ⟨mg, 10, none⟩ (.int .i64 (d.H2 : Int))).setCell ⟨mg, 11, none⟩ (.slice (some ⟨q2, 0, none⟩) d.nC r2)) 37 #[.int .i64 (d.W : Int), .int .i64 (d.H : Int), .slice (some ⟨q0, 0, none⟩) d.nY r0, .int .i64 (d.W2 : Int), .int .i64 (d.H2 : Int), .slice (some ⟨q1, 0, none⟩) d.nC r1, .int .i64 (d.W2 : Int), .int .i64 (d.H2 : Int), .slice (some ⟨q2, 0, none⟩) d.nC r2]
                      simpa using this
                    have hres9 := (H8.out.1.res_.keep h9.2 (fun e => nmr e.symm)).alloc (.cells #[.int .i64 (d.W : Int), .int .i64 (d.H : Int), .slice (some ⟨q0, 0, none⟩) d.nY r0, .int .i64 (d.W2 : Int), .int .i64 (d.H2 : Int), .slice (some ⟨q1, 0, none⟩) d.nC r1, .int .i64 (d.W2 : Int), .int .i64 (d.H2 : Int), .slice (some ⟨q2, 0, none⟩) d.nC r2] 37)
                    have hhd9 := (H8.out.1.hd.keep h9.2 (fun e => nmh e.symm)).alloc (.cells #[.int .i64 (d.W : Int), .int .i64 (d.H : Int), .slice (some ⟨q0, 0, none⟩) d.nY r0, .int .i64 (d.W2 : Int), .int .i64 (d.H2 : Int), .slice (some ⟨q1, 0, none⟩) d.nC r1, .int .i64 (d.W2 : Int), .int .i64 (d.H2 : Int), .slice (some ⟨q2, 0, none⟩) d.nC r2] 37)
                    have hf9 := ((H8.out.2.1.down H7.out.2.2.2).mod h9.2 (fun j e => .inr ⟨_, _, e ▸ hmgr, by decide⟩)).quiet ((Mod.refl (fun _ => False) _).alloc (.cells #[.int .i64 (d.W : Int), .int .i64 (d.H : Int), .slice (some ⟨q0, 0, none⟩) d.nY r0, .int .i64 (d.W2 : Int), .int .i64 (d.H2 : Int), .slice (some ⟨q1, 0, none⟩) d.nC r1, .int .i64 (d.W2 : Int), .int .i64 (d.H2 : Int), .slice (some ⟨q2, 0, none⟩) d.nC r2] 37))
                    have mod9 : Mod (fun j => j = mg) w (((((((((((w8).setCell ⟨mg, 3, none⟩ (.int .i64 (d.W : Int))).setCell ⟨mg, 4, none⟩ (.int .i64 (d.H : Int))).setCell ⟨mg, 5, none⟩ (.slice (some ⟨q0, 0, none⟩) d.nY r0)).setCell ⟨mg, 6, none⟩ (.int .i64 (d.W2 : Int))).setCell ⟨mg, 7, none⟩ (.int .i64 (d.H2 : Int))).setCell ⟨mg, 8, none⟩ (.slice (some ⟨q1, 0, none⟩) d.nC r1)).setCell ⟨mg, 9, none⟩ (.int .i64 (d.W2 : Int))).setCell ⟨mg, 10, none⟩ (.int .i64 (d.H2 : Int))).setCell ⟨mg, 11, none⟩ (.slice (some ⟨q2, 0, none⟩) d.nC r2)).alloc (.cells #[.int .i64 (d.W : Int), .int .i64 (d.H : Int), .slice (some ⟨q0, 0, none⟩) d.nY r0, .int .i64 (d.W2 : Int), .int .i64 (d.H2 : Int), .slice (some ⟨q1, 0, none⟩) d.nC r1, .int .i64 (d.W2 : Int), .int .i64 (d.H2 : Int), .slice (some ⟨q2, 0, none⟩) d.nC r2] 37)) := ((H8.out.1.mod.mono (fun _ h => h.elim)).trans h9.2).alloc _
                    generalize (((((((((((w8).setCell ⟨mg, 3, none⟩ (.int .i64 (d.W : Int))).setCell ⟨mg, 4, none⟩ (.int .i64 (d.H : Int))).setCell ⟨mg, 5, none⟩ (.slice (some ⟨q0, 0, none⟩) d.nY r0)).setCell ⟨mg, 6, none⟩ (.int .i64 (d.W2 : Int))).setCell ⟨mg, 7, none⟩ (.int .i64 (d.H2 : Int))).setCell ⟨mg, 8, none⟩ (.slice (some ⟨q1, 0, none⟩) d.nC r1)).setCell ⟨mg, 9, none⟩ (.int .i64 (d.W2 : Int))).setCell ⟨mg, 10, none⟩ (.int .i64 (d.H2 : Int))).setCell ⟨mg, 11, none⟩ (.slice (some ⟨q2, 0, none⟩) d.nC r2)).alloc (.cells #[.int .i64 (d.W : Int), .int .i64 (d.H : Int), .slice (some ⟨q0, 0, none⟩) d.nY r0, .int .i64 (d.W2 : Int), .int .i64 (d.H2 : Int), .slice (some ⟨q1, 0, none⟩) d.nC r1, .int .i64 (d.W2 : Int), .int .i64 (d.H2 : Int), .slice (some ⟨q2, 0, none⟩) d.nC r2] 37)) = w9 at *
                    have b1 := HT.out.2.2.2.2.2.1.2.1.1
                    have b2 := HT.out.2.2.2.2.2.1.2.1.2.1
                    have b3 := HT.out.2.2.2.2.2.1.2.1.2.2
                    have b4 : ¬ G = 0 := by omega
                    have hw1 : IntKind.i64.wrap (N + 1) = N + 1 := IntWalk.i64_in _ ⟨by omega, by omega⟩
                    have hmodG : (N + 1).tmod G = (N + 1) % G := Int.tmod_eq_emod_of_nonneg (by omega)
                    clear mc mf ml hc hf zc zf zl hml
                    have e2 : w9.cell? ⟨mg, 2, none⟩ = some (.int .i64 G) := hmg9.cell 2
                    have e12 : w9.cell? ⟨mg, 12, none⟩ = some (.int .i64 nx) := hmg9.cell 12
                    have f12 := hmg9.frozen 12
                    have ml := hmg9.lt
                    obtain ⟨hc, hf⟩ := hhd9.both
                    have H9 := Lib.hid (And.intro hmg9 (And.intro ho9 (And.intro hres9 (And.intro hf9 (And.intro mod9 (And.intro nmr H7.out.2.1))))))
                    clear hmg9 ho9 hres9 hhd9 hf9 mod9 h9 nmr nmh hmgr H7
                    refine wp_region_plan [12] [] [0, 1, 2, 3, 4, 5, 6, 7, 8, 9, 10, 11, 12] (by kernel_rfl) (by kernel_rfl) (fun _ _ _ d _ h => by cases d <;> exact h) ?_
                    iterate 12 (refine plan_still rfl rfl (fun K hK => ?_); go_simp; refine hK _ ?_; clear hK K)
                    refine plan_loud rfl rfl (fun K hK => ?_); go_simp; refine hK _ _ ?_; clear hK K
                    refine plan_done ?_
                    have nmo := H9.out.1.ne_ H9.out.2.1 (by decide)
                    have hmg10 : Blk (w9.setCell ⟨mg, 12, none⟩ (.int .i64 ((N + 1) % G))).drew mg 45 (rdecV d.W d.H G ((N + 1) % G) (frV d q0 r0 q1 r1 q2 r2)) := by
                      have := (H9.out.1.set_ 12 (.int .i64 ((N + 1) % G))).drew
                      rwa [mg_next] at this
                    have m10 : Mod (fun j => j = mg) w9 (w9.setCell ⟨mg, 12, none⟩ (.int .i64 ((N + 1) % G))).drew := ((Mod.refl (fun j => j = mg) w9).setCell (p := ⟨mg, 12, none⟩) (.inl rfl) _).drew
                    have ho10 := H9.out.2.1.keep m10 (fun e => nmo e.symm)
                    have hres10 := H9.out.2.2.1.keep m10 (fun e => H9.out.2.2.2.2.2.1 e.symm)
                    have hf10 := H9.out.2.2.2.1.mod m10 (fun j e => .inr ⟨_, _, e ▸ H9.out.1, by decide⟩)
                    have mod10 := H9.out.2.2.2.2.1.trans m10
                    generalize (w9.setCell ⟨mg, 12, none⟩ (.int .i64 ((N + 1) % G))).drew = w10 at *
                    clear e2 e12 f12 ml hc hf b4 hw1 hmodG
                    obtain ⟨oc, of⟩ := ho10.both
                    obtain ⟨zc, zf⟩ := hres10.both
                    have zl := hres10.lt
                    have H10 := Lib.hid (And.intro hmg10 (And.intro hres10 (And.intro hf10 mod10)))
                    clear hmg10 ho10 hres10 hf10 mod10 m10 nmo
                    go_wp2_with fail
                    have hp := fr_put9 H10.out.2.1 (.int .i64 (d.W : Int)) (.int .i64 (d.H : Int)) (.slice (some ⟨q0, 0, none⟩) d.nY r0) (.int .i64 (d.W2 : Int)) (.int .i64 (d.H2 : Int)) (.slice (some ⟨q1, 0, none⟩) d.nC r1) (.int .i64 (d.W2 : Int)) (.int .i64 (d.H2 : Int)) (.slice (some ⟨q2, 0, none⟩) d.nC r2)
                    have kz : ∀ j, j = res → w10.heap.size ≤ j ∨ ∃ t cs, Blk w10 j t cs ∧ t ≠ 5 := fun j e => .inr ⟨37, _, e ▸ H10.out.2.1, by decide⟩
                    refine bodyPost_ret (v := .tuple #[.agg (frV d q0 r0 q1 r1 q2 r2).toArray, .int .i64 0]) (by simp [results, Tryz.results14, go_sem, zc, frV]) rfl (.inr ⟨smPix q d f, (N + 1) % G, _, H9.out.2.2.2.2.2.2, rfl, ⟨_, _, _, _, _, _, rfl, H10.out.2.2.1.mod hp.2 kz⟩, ⟨_, H10.out.1.keep hp.2 H9.out.2.2.2.2.2.1, rfl, (by intro h; cases h), fun f' e => ?_⟩, H10.out.2.2.2.into hp.2 (fun i e => .inr (by have := HI.out.lres; omega))⟩)
                    injection e with e
                    subst e
                    exact ⟨_, _, _, _, _, _, rfl, (H10.out.2.2.1.mod hp.2 kz).down (Nat.zero_le _)⟩
                  · have hR : frameS d G nx ah l = .error 132 := by
                      rw [hFS]
                      show ((match (if s.code = [] ∧ s.rest = 0 then some f else none) with | none => Except.error 132 | some f => Except.ok (smPix Q.toNat d f, (N + 1) % G)) : Except Int (Pix × Int)) = _
                      rw [if_neg e1]
                    obtain ⟨zc, zf⟩ := hT7.res_.both
                    have zl := hT7.res_.lt
                    have HE := Lib.hid (And.intro hR (And.intro hT7.mod hT7.res_))
                    clear hT7 hR hFS e1 hm7
                    go_wp2_with fail
                    have hz9 := ((fr_put9 HE.out.2.2 (.int .i64 0) (.int .i64 0) (.slice none 0 0) (.int .i64 0) (.int .i64 0) (.slice none 0 0) (.int .i64 0) (.int .i64 0) (.slice none 0 0)).1)
                    obtain ⟨sc, sf⟩ := hz9.both
                    exact bodyPost_ret (v := .tuple #[.agg noFrame.toArray, .int .i64 132]) (by simp [results, Tryz.results14, go_sem, sc, noFrame]) rfl (rfr_err HE.out.2.1 HE.out.2.2 HI.out.lres 132 HE.out.1 (Mod.refl _ _))
      · have hFS := frameS_keyless (ah := ah) H1.out.2.1 hkl.symm
        have H2 := Lib.hid (And.intro HSx hFS)
        obtain ⟨zc, zf⟩ := (HSx.own_ 1 rfl).both
        have zl := (HSx.own_ 1 rfl).lt
        clear hkl hmx HSx hFS hin2
        go_wp2_with fail
        have hz9 := ((fr_put9 (H2.out.1.own_ 1 rfl) (.int .i64 0) (.int .i64 0) (.slice none 0 0) (.int .i64 0) (.int .i64 0) (.slice none 0 0) (.int .i64 0) (.int .i64 0) (.slice none 0 0)).1)
        dsimp only at hz9
        obtain ⟨rc, rf⟩ := hz9.both
        exact bodyPost_ret (v := .tuple #[.agg noFrame.toArray, .int .i64 131]) (by simp [results, Tryz.results14, go_sem, rc, noFrame]) rfl (rfr_err H2.out.1.mod (H2.out.1.own_ 1 rfl) (by simp) 131 H2.out.2 (Mod.refl _ _))
end Go.Proofs.YteppnjgfebcmjaaGreat
