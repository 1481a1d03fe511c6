/-
  decoder: a square of a reading, walked.
-/
import Derived.Test.YteppnjgfebcmjaaGreatM41
import Derived.Deep.DeepCutAuto
namespace Go.Proofs.YteppnjgfebcmjaaGreat
open Go.RowKit

theorem Ids.gb {P : Nat → Prop} {K : Bool} {bk g rb fr dg gy gu gv ay au av : Nat} (h : Ids P K bk g rb fr dg gy gu gv ay au av) : g ≠ bk ∧ rb ≠ g ∧ rb ≠ bk := by
  have nd := h.nd
  simp only [List.nodup_cons, List.mem_cons, List.not_mem_nil, or_false, not_or, List.nodup_nil, and_true, not_false_eq_true] at nd
  obtain ⟨⟨n1, n2, _⟩, ⟨n7, _⟩, _⟩ := nd
  exact ⟨n1, Ne.symm n2, Ne.symm n7⟩
set_option maxHeartbeats 2000000 in
/-- What the book and the code alone change. -/
theorem RW.book {w w' : World} {bk g rb fr dg : Nat} {P : Nat → Prop} {K : Bool} {N Q : Int} {d : Dim} {gy gu gv ay au av : Nat} {ahd : Pix} {G nx : Int} {f : Pix} {s s' : St} (hi : Ids P K bk g rb fr dg gy gu gv ay au av) (h : RW w bk g rb fr dg P K N Q d gy gu gv ay au av ahd G nx f s)
    (hm : Mod (fun j => j = g ∨ j = bk) w w') (hs : SAt w' bk g P s') : RW w' bk g rb fr dg P K N Q d gy gu gv ay au av ahd G nx f s' := by
  have nd := hi.nd
  simp only [List.nodup_cons, List.mem_cons, List.not_mem_nil, or_false, not_or, List.nodup_nil, and_true, not_false_eq_true] at nd
  obtain ⟨⟨n1, n2, n3, n4, n5, n6⟩, ⟨n7, n8, n9, n10, n11⟩, _⟩ := nd
  refine ⟨hs, fun j hj => Nat.lt_of_lt_of_le (h.pw j hj) hm.size, h.rd.keep hm (by (intro h; rcases h with h | h <;> first | exact absurd h (by assumption) | exact absurd h.symm (by assumption))), h.frm.keep hm (by (intro h; rcases h with h | h <;> first | exact absurd h (by assumption) | exact absurd h.symm (by assumption))), h.fa.mod hm (by (intro h; rcases h with h | h <;> first | exact absurd h (by assumption) | exact absurd h.symm (by assumption))) (by (intro h; rcases h with h | h <;> first | exact absurd h (by assumption) | exact absurd h.symm (by assumption))) (by (intro h; rcases h with h | h <;> first | exact absurd h (by assumption) | exact absurd h.symm (by assumption))), fun hk => ?_, fun hk => ?_⟩
  all_goals
    have na := hi.na hk
    simp only [List.nodup_cons, List.mem_cons, List.not_mem_nil, or_false, not_or, List.nodup_nil, and_true, not_false_eq_true] at na
    obtain ⟨⟨_, _, _, _, _, _, _, _, _⟩, ⟨_, _, _, _, _, _, _, _⟩, _⟩ := na
  · exact (h.dt hk).keep hm (by (intro h; rcases h with h | h <;> first | exact absurd h (by assumption) | exact absurd h.symm (by assumption)))
  · exact (h.aa hk).mod hm (by (intro h; rcases h with h | h <;> first | exact absurd h (by assumption) | exact absurd h.symm (by assumption))) (by (intro h; rcases h with h | h <;> first | exact absurd h (by assumption) | exact absurd h.symm (by assumption))) (by (intro h; rcases h with h | h <;> first | exact absurd h (by assumption) | exact absurd h.symm (by assumption)))
theorem rs2 {bk g gy gu gv : Nat} {w w' : World} (hm : Mod (fun j => j = g ∨ j = bk) w w') : Mod (RS bk g gy gu gv) w w' := hm.mono fun _ h => by unfold RS; rcases h with h | h <;> simp [h]
def SqCut1 (w : World) (bk g rb fr dg : Nat) (P : Nat → Prop) (K : Bool) (N Q : Int) (d : Dim) (gy gu gv ay au av : Nat) (ahd : Pix) (G nx : Int) (f : Pix) (s : St) (v7 : Value) (wx : World) : Prop :=
  ∃ (kd : Nat) (s1 : St), v7 = .int .i64 (kd : Int) ∧ skind K s = some (kd, s1) ∧ RW wx bk g rb fr dg P K N Q d gy gu gv ay au av ahd G nx f s1 ∧ Mod (RS bk g gy gu gv) w wx
def SqCut2 (w : World) (vb : Nat) (bk g rb fr dg : Nat) (P : Nat → Prop) (K : Bool) (N Q : Int) (d : Dim) (gy gu gv ay au av : Nat) (ahd : Pix) (G nx : Int) (f : Pix) (kd : Nat) (s1 : St) (wx : World) : Prop :=
  ∃ (a b : Int) (s2 : St), skvec kd s1 = some ((a, b), s2) ∧ Blk wx vb 125 #[.int .i64 a, .int .i64 b] ∧ RW wx bk g rb fr dg P K N Q d gy gu gv ay au av ahd G nx f s2 ∧ Mod (RS bk g gy gu gv) w wx
def SqRel (w : World) (vb : Nat) (bk g rb fr dg : Nat) (P : Nat → Prop) (K : Bool) (N Q : Int) (d : Dim) (gy gu gv ay au av : Nat) (ahd : Pix) (G nx : Int) (kind : Int) (x y : Nat) (a b : Int) (r : Option (Pix × St)) (v47 : Value) (wr : World) : Prop :=
  ∃ (i : Nat) (f : Pix) (s : St), i ≤ 6 ∧ v47 = .int .i64 (i : Int) ∧ blkFrom d ahd kind Q x y a b (6 - i) f s = r ∧ Blk wr vb 125 #[.int .i64 a, .int .i64 b] ∧ RW wr bk g rb fr dg P K N Q d gy gu gv ay au av ahd G nx f s ∧ Mod (RS bk g gy gu gv) w wr

set_option maxRecDepth 100000 in
set_option maxHeartbeats 4000000 in
theorem dSquare (w : World) (bk g rb fr dg : Nat) (P : Nat → Prop) (K : Bool) (N Q : Int) (d : Dim) (hd : d.Ok) (gy gu gv ay au av : Nat) (ahd : Pix) (G nx : Int) (f : Pix) (s : St) (hi : Ids P K bk g rb fr dg gy gu gv ay au av) (h : RW w bk g rb fr dg P K N Q d gy gu gv ay au av ahd G nx f s)
    (x y : Nat) (hx : x + 16 ≤ d.W) (hy : y + 16 ≤ d.H) :
    Calls Tryz.prog 63 #[.pointer (some ⟨rb, 0, none⟩), .int .i64 (x : Int), .int .i64 (y : Int)] w (StepPost w bk g rb fr dg P K N Q d gy gu gv ay au av ahd G nx (squareS d ahd K Q x y f s)) := by
  have r0 : w.cell? ⟨rb, 0, none⟩ = some (.bool K) := h.rd.cell 0
  have r3 : w.cell? ⟨rb, 3, none⟩ = some (.pointer (some ⟨bk, 0, none⟩)) := h.rd.cell 3
  have r4 : w.cell? ⟨rb, 4, none⟩ = some (.pointer (some ⟨g, 0, none⟩)) := h.rd.cell 4
  have H0 := Lib.hid (And.intro h (And.intro hi hd))
  clear h hi hd
  go_enter Tryz.func63, Tryz.ntmps63
  go_upto_if 18 with (fail)
  go_cut [7] (fun v7 wx => SqCut1 w bk g rb fr dg P K N Q d gy gu gv ay au av ahd G nx f s v7 wx)
  case first =>
    cases K
    · go_wp2_with fail
      refine wp_region_plan [8] [] [0, 1, 2, 3, 4, 5, 6, 7, 8, 9, 10, 11, 12, 13] (by kernel_rfl) (by kernel_rfl) (fun _ _ _ d _ h => by cases d <;> exact h) ?_
      iterate 8 (refine plan_still rfl rfl (fun K hK => ?_); go_simp; refine hK _ ?_; clear hK K)
      refine plan_loud rfl rfl (fun K hK => ?_)
      go_simp
      refine (bookOne3 w.drew bk g P H0.out.2.1.pg H0.out.2.1.pb (fun j hj => H0.out.1.pw j hj) H0.out.2.1.gb.1 s 1 (by omega) (H0.out.1.st.mod ((Mod.refl (fun _ => False) w).drew) (fun h => h) (fun h => h) (fun _ _ h => h))).mono ?_
      rintro e w3 (⟨hr, er, her, rfl, hm⟩ | ⟨v, s3, hr, rfl, hs3, hm⟩)
      · have hM : Mod (fun j => j = g ∨ j = bk) w w3 := ((Mod.refl (fun j => j = g ∨ j = bk) w).drew).trans hm
        have hR : squareS d ahd false Q x y f s = none := by
          show (sone 1 3 s).bind _ = none
          rw [hr]
          rfl
        have H3 := Lib.hid (And.intro hM hR)
        have her' : (er != 0) = true := by rw [bne, her]; rfl
        clear hM hR hm hr her r0 r3 r4
        dsimp only []
        refine hK _ _ ?_
        clear hK K
        iterate 5 (refine plan_still rfl rfl (fun K hK => ?_); go_simp; refine hK _ ?_; clear hK K)
        refine plan_done ?_
        go_wp2_with fail
        go_ret
        exact .inl ⟨H3.out.2, er, by simpa using her', rfl, rs2 H3.out.1⟩
      · have hM : Mod (fun j => j = g ∨ j = bk) w w3 := ((Mod.refl (fun j => j = g ∨ j = bk) w).drew).trans hm
        have H3 := Lib.hid (And.intro hM (And.intro (H0.out.1.book H0.out.2.1 hM hs3) hr))
        clear hM hm hr hs3 r0 r3 r4
        dsimp only []
        refine hK _ _ ?_
        clear hK K
        iterate 5 (refine plan_still rfl rfl (fun K hK => ?_); go_simp; refine hK _ ?_; clear hK K)
        refine plan_done ?_
        go_wp2_with fail
        go_meet
        exact ⟨v, s3, rfl, H3.out.2.2, H3.out.2.1, rs2 H3.out.1⟩
    · go_wp2_with fail
      go_meet
      exact ⟨2, s, rfl, rfl, H0.out.1, Mod.refl _ _⟩
  case rest =>
    clear r0 r3 r4
    obtain ⟨kd, s1, rfl, hR, hw, hm⟩ := hcut
    rename World => wx
    have hkd := skind_lt hR
    have hws := hw.quiet ((Mod.refl (fun _ => False) wx).alloc (.cells #[.int .i64 0, .int .i64 0] 125))
    have H1 := Lib.hid (And.intro hR (And.intro hw (And.intro hws (And.intro hm hkd))))
    clear hR hw hws hm hkd
    go_upto_if 35 with (fail)
    go_cut [] (fun wy => SqCut2 w wx.heap.size bk g rb fr dg P K N Q d gy gu gv ay au av ahd G nx f kd s1 wy)
    case first =>
      by_cases hk1 : kd = 1
      · have d1 : ((kd : Int) == 1) = true := by simp; omega
        have HK1 := Lib.hid hk1
        clear hk1
        go_wp2_with fail
        refine (dVector (wx.alloc (.cells #[.int .i64 0, .int .i64 0] 125)) bk g rb fr dg P H0.out.2.1.pg H0.out.2.1.pb (fun j hj => H1.out.2.2.1.pw j hj) H0.out.2.1.gb.1 K N Q s1 H1.out.2.2.1.st H1.out.2.2.1.rd H0.out.2.1.gb.2.1 H0.out.2.1.gb.2.2).mono ?_
        have hgl : g < wx.heap.size := by obtain ⟨_, _, _, hb, _⟩ := H1.out.2.1.st.2.2; exact hb.lt
        have hbl : bk < wx.heap.size := H1.out.2.1.st.1.lt
        rintro e w3 (⟨hr, er, her, rfl, hm⟩ | ⟨a, b, s3, hr, rfl, hs3, hm⟩)
        · have vb := (Blk.new wx 125 #[.int .i64 0, .int .i64 0]).keep hm (by omega)
          obtain ⟨vc, vf⟩ := vb.both
          have vl := vb.lt
          have hR : squareS d ahd K Q x y f s = none := by
            unfold squareS skvec
            rw [H1.out.1]
            show (if kd = 1 then svec s1 else _).bind _ = none
            rw [if_pos HK1.out, hr]
            rfl
          have H3 := Lib.hid (And.intro hm hR)
          have her' : (er != 0) = true := by rw [bne, her]; rfl
          clear hm hR hr her vb
          go_wp2_with fail
          go_ret
          refine .inl ⟨H3.out.2, er, by simpa using her', rfl, ?_⟩
          refine H1.out.2.2.2.1.then_ ?_ (S' := RS bk g gy gu gv) (fun _ _ h => h)
          exact (rs2 (((Mod.refl (fun j => j = g ∨ j = bk) wx).alloc _).trans H3.out.1)).then_ (((Mod.refl (· = wx.heap.size) w3).setCell (.inl rfl) _).setCell (.inl rfl) _) (fun j h e => by omega)
        · have vb := (Blk.new wx 125 #[.int .i64 0, .int .i64 0]).keep hm (by omega)
          obtain ⟨vc, vf⟩ := vb.both
          have vl := vb.lt
          have H3 := Lib.hid (And.intro hm (And.intro hs3 (And.intro hr vb)))
          clear hm hr hs3 vb
          go_wp2_with fail
          go_meet
          have hmS : Mod (· = wx.heap.size) w3 ((w3.setCell ⟨wx.heap.size, 0, none⟩ (.int .i64 a)).setCell ⟨wx.heap.size, 1, none⟩ (.int .i64 b)) := ((Mod.refl (· = wx.heap.size) w3).setCell (.inl rfl) _).setCell (.inl rfl) _
          have hmA := (((Mod.refl (fun j => j = g ∨ j = bk) wx).alloc _).trans H3.out.1).then_ hmS (fun j h e => by omega)
          have hs4 := H3.out.2.1.mod hmS (by omega) (by omega) (fun j hj e => by have := H1.out.2.1.pw j hj; omega)
          exact ⟨a, b, s3, by unfold skvec; rw [if_pos HK1.out]; exact H3.out.2.2.1, (((Sat.own1 H3.out.2.2.2).put (.here rfl)).put (.here rfl)).own_ 0 rfl, H1.out.2.1.book H0.out.2.1 hmA hs4, H1.out.2.2.2.1.then_ (rs2 hmA) (fun _ _ h => h)⟩
      · have d1 : ((kd : Int) == 1) = false := by simp; omega
        go_wp2_with fail
        go_meet
        exact ⟨0, 0, s1, by unfold skvec; rw [if_neg hk1], Blk.new _ _ _, H1.out.2.2.1, H1.out.2.2.2.1.then_ ((Mod.refl (fun _ => False) wx).alloc _) (fun _ _ h => h.elim)⟩
    case rest =>
      obtain ⟨a, b, s2, hV, hb, hw, hm⟩ := hcut
      rename World => wy
      have hbd := skvec_bounds hV
      have hR2 : squareS d ahd K Q x y f s = blkFrom d ahd (kd : Int) Q x y a b 6 f s2 := by
        unfold squareS
        rw [H1.out.1]
        show (skvec kd s1).bind _ = _
        rw [hV]
        rfl
      have hdl := area_le H0.out.2.2.sides
      have hx4 : x ≤ 4096 := by omega
      have hy4 : y ≤ 4096 := by omega
      have H2 := Lib.hid (And.intro hR2 (And.intro hb (And.intro hw (And.intro hm hbd))))
      clear hR2 hb hw hm hbd hV hdl
      go_wp2_with fail
      refine (dPlaces _ x y hx4 hy4).mono ?_
      rintro e w5 ⟨rfl, hm5⟩
      have H5 := Lib.hid (And.intro (H2.out.2.1.keep hm5 (fun h => h)) (And.intro (H2.out.2.2.1.quiet hm5) (H2.out.2.2.2.1.then_ hm5 (fun _ _ h => h.elim))))
      clear hm5
      go_wp2_with fail
      go_loopw [47] (SqRel w wx.heap.size bk g rb fr dg P K N Q d gy gu gv ay au av ahd G nx (kd : Int) x y a b (squareS d ahd K Q x y f s)) (fun s _ => 6 - (intOf s).toNat)
      case atStart => exact ⟨0, f, s2, by omega, rfl, H2.out.1.symm, H5.out.1, H5.out.2.1, H5.out.2.2⟩
      case round =>
        obtain ⟨i, f1, s3, hi6, rfl, hRr, hb1, hw1, hm1⟩ := hrel
        rename World => wr
        obtain ⟨vc, vf⟩ := hb1.both
        have vl := hb1.lt
        have HK := Lib.hid (And.intro hRr (And.intro hb1 (And.intro hw1 hm1)))
        clear hRr hb1 hw1 hm1
        by_cases hlt : i < 6
        · have d1 : decide ((i : Int) < 6) = true := decide_eq_true (by omega)
          have ix := plL_at x y hlt
          go_wp2_with fail
          obtain ⟨p1, p2, p3⟩ := pc_in H0.out.2.2 hlt hx hy
          have hn : 6 - i = (5 - i) + 1 := by omega
          have hRr := HK.out.1
          rw [hn] at hRr
          unfold blkFrom at hRr
          rw [show 5 - (5 - i) = i by omega] at hRr
          have hMa : Mod (fun _ => False) wr (wr.alloc (.cells #[.int .i64 (pcP i : Int), .int .i64 (pcX x i : Int), .int .i64 (pcY y i : Int)] 174)) := (Mod.refl (fun _ => False) wr).alloc _
          refine (dStep _ bk g rb fr dg P K N Q d H0.out.2.2 gy gu gv ay au av ahd G nx f1 s3 H0.out.2.1 (HK.out.2.2.1.quiet hMa) (kd : Int) (fun e => by have := H1.out.2.2.2.2.2 e; omega) (pcP i) (pcX x i) (pcY y i) p1 p2 p3 a b H2.out.2.2.2.2.1 H2.out.2.2.2.2.2).mono ?_
          rintro e w6 (⟨hr, er, her, rfl, hm⟩ | ⟨f2, s4, hr, rfl, hw6, hm⟩)
          · rw [hr] at hRr
            have H6 := Lib.hid (And.intro hRr (HK.out.2.2.2.then_ ((hMa.mono (fun _ h => h.elim)).trans hm) (fun _ _ h => h)))
            have her' : (er != 0) = true := by rw [bne, her]; rfl
            clear hRr hm hr her ix hn hMa
            go_wp2_with fail
            go_ret
            exact .inl ⟨H6.out.1.symm, er, by simpa using her', rfl, H6.out.2⟩
          · rw [hr] at hRr
            have hx1 := H1.out.2.1
            have hmS := (hMa.mono (S' := RS bk g gy gu gv) (fun _ h => h.elim)).trans hm
            have hnv : ¬ RS bk g gy gu gv wx.heap.size := by
              have q1 := hx1.st.1.lt
              have q2 : g < wx.heap.size := by obtain ⟨_, _, _, hb, _⟩ := hx1.st.2.2; exact hb.lt
              have q3 := hx1.fa.by_.lt
              have q4 := hx1.fa.bu.lt
              have q5 := hx1.fa.bv.lt
              unfold RS
              omega
            have H6 := Lib.hid (And.intro hRr (And.intro hw6 (And.intro (HK.out.2.1.keep hmS hnv) (HK.out.2.2.2.then_ hmS (fun _ _ h => h)))))
            clear hRr hm hr ix hn hMa hw6 hmS hnv hx1
            go_wp2_with fail
            go_roundw
            case rel => exact ⟨i + 1, f2, s4, by omega, by go_num, by rw [show 6 - (i + 1) = 5 - i by omega]; exact H6.out.1, H6.out.2.2.1, H6.out.2.1, H6.out.2.2.2⟩
            case measure => simp [intOf]; omega
        · obtain rfl : i = 6 := by omega
          go_wp2_with fail
          go_ret
          exact .inr ⟨f1, s3, HK.out.1.symm, rfl, HK.out.2.2.1, HK.out.2.2.2⟩
end Go.Proofs.YteppnjgfebcmjaaGreat
