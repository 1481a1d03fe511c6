/-
  decoder: a square of a reading, walked.
-/
import Derived.Test.YtmkopcojnibhlaaGreatDoorM21
import Derived.Test.YtmkopcojnibhlaaGreatDoorM38
import Derived.Test.YtmkopcojnibhlaaGreatDoorM34
import Derived.Deep.DeepCutAuto
import Derived.BigQuiet
namespace Go.Proofs.YtmkopcojnibhlaaGreatDoor
open Go.RowKit

theorem Ids.gb {P : Nat → Prop} {K : Bool} {bk g rb fr dg gy gu gv ay au av : Nat} (h : Ids P K bk g rb fr dg gy gu gv ay au av) : g ≠ bk ∧ rb ≠ g ∧ rb ≠ bk := by
  have nd := h.nd
  simp only [List.nodup_cons, List.mem_cons, List.not_mem_nil, or_false, not_or, List.nodup_nil, and_true, not_false_eq_true] at nd
  obtain ⟨⟨n1, n2, _⟩, ⟨n7, _⟩, _⟩ := nd
  exact ⟨n1, Ne.symm n2, Ne.symm n7⟩
set_option maxHeartbeats 2000000 in
/-- What the book and the code alone change. -/
theorem RW.book {w w' : World} {bk g rb fr dg : Nat} {P : Nat → Prop} {K : Bool} {N Q : Int} {d : Dim} {gy gu gv ay au av : Nat} {ahd : Pix} {G nx : Int} {f : Pix} {s s' : St} (hi : Ids P K bk g rb fr dg gy gu gv ay au av) (h : RW w bk g rb fr dg P K N Q d gy gu gv ay au av ahd G nx f s)
    (hm : Mod (fun j => j = g ∨ j = bk) w w') (hs : SAt w' bk g P s') : RW w' bk g rb fr dg P K N Q d gy gu gv ay au av ahd G nx f s' := by
  have nd := hi.nd
  simp only [List.nodup_cons, List.mem_cons, List.not_mem_nil, or_false, not_or, List.nodup_nil, and_true, not_false_eq_true] at nd
  obtain ⟨⟨n1, n2, n3, n4, n5, n6⟩, ⟨n7, n8, n9, n10, n11⟩, _⟩ := nd
  refine ⟨hs, fun j hj => Nat.lt_of_lt_of_le (h.pw j hj) hm.size, h.rd.keep hm (by (intro h; rcases h with h | h <;> first | exact absurd h (by assumption) | exact absurd h.symm (by assumption))), h.frm.keep hm (by (intro h; rcases h with h | h <;> first | exact absurd h (by assumption) | exact absurd h.symm (by assumption))), h.fa.mod hm (by (intro h; rcases h with h | h <;> first | exact absurd h (by assumption) | exact absurd h.symm (by assumption))) (by (intro h; rcases h with h | h <;> first | exact absurd h (by assumption) | exact absurd h.symm (by assumption))) (by (intro h; rcases h with h | h <;> first | exact absurd h (by assumption) | exact absurd h.symm (by assumption))), fun hk => ?_, fun hk => ?_⟩
  all_goals
    have na := hi.na hk
    simp only [List.nodup_cons, List.mem_cons, List.not_mem_nil, or_false, not_or, List.nodup_nil, and_true, not_false_eq_true] at na
    obtain ⟨⟨_, _, _, _, _, _, _, _, _⟩, ⟨_, _, _, _, _, _, _, _⟩, _⟩ := na
  · exact (h.dt hk).keep hm (by (intro h; rcases h with h | h <;> first | exact absurd h (by assumption) | exact absurd h.symm (by assumption)))
  · exact (h.aa hk).mod hm (by (intro h; rcases h with h | h <;> first | exact absurd h (by assumption) | exact absurd h.symm (by assumption))) (by (intro h; rcases h with h | h <;> first | exact absurd h (by assumption) | exact absurd h.symm (by assumption))) (by (intro h; rcases h with h | h <;> first | exact absurd h (by assumption) | exact absurd h.symm (by assumption)))
theorem rs2 {bk g gy gu gv : Nat} {w w' : World} (hm : Mod (fun j => j = g ∨ j = bk) w w') : Mod (RS bk g gy gu gv) w w' := hm.mono fun _ h => by unfold RS; rcases h with h | h <;> simp [h]
def SqCut1 (w : World) (bk g rb fr dg : Nat) (P : Nat → Prop) (K : Bool) (N Q : Int) (d : Dim) (gy gu gv ay au av : Nat) (ahd : Pix) (G nx : Int) (f : Pix) (s : St) (v7 : Value) (wx : World) : Prop :=
  ∃ (kd : Nat) (s1 : St), v7 = .int .i64 (kd : Int) ∧ skind K s = some (kd, s1) ∧ RW wx bk g rb fr dg P K N Q d gy gu gv ay au av ahd G nx f s1 ∧ Mod (RS bk g gy gu gv) w wx
def SqCut2 (w : World) (vb : Nat) (bk g rb fr dg : Nat) (P : Nat → Prop) (K : Bool) (N Q : Int) (d : Dim) (gy gu gv ay au av : Nat) (ahd : Pix) (G nx : Int) (f : Pix) (kd : Nat) (s1 : St) (wx : World) : Prop :=
  ∃ (a b : Int) (s2 : St), skvec kd s1 = some ((a, b), s2) ∧ Blk wx vb 156 #[.int .i64 a, .int .i64 b] ∧ RW wx bk g rb fr dg P K N Q d gy gu gv ay au av ahd G nx f s2 ∧ Mod (RS bk g gy gu gv) w wx
def SqRel (w : World) (vb : Nat) (bk g rb fr dg : Nat) (P : Nat → Prop) (K : Bool) (N Q : Int) (d : Dim) (gy gu gv ay au av : Nat) (ahd : Pix) (G nx : Int) (kind : Int) (x y : Nat) (a b : Int) (r : Option (Pix × St)) (v47 : Value) (wr : World) : Prop :=
  ∃ (i : Nat) (f : Pix) (s : St), i ≤ 6 ∧ v47 = .int .i64 (i : Int) ∧ blkFrom d ahd kind Q x y a b (6 - i) f s = r ∧ Blk wr vb 156 #[.int .i64 a, .int .i64 b] ∧ RW wr bk g rb fr dg P K N Q d gy gu gv ay au av ahd G nx f s ∧ Mod (RS bk g gy gu gv) w wr

set_option maxRecDepth 100000 in
set_option maxHeartbeats 4000000 in
theorem dSquare (w : World) (bk g rb fr dg : Nat) (P : Nat → Prop) (K : Bool) (N Q : Int) (d : Dim) (hd : d.Ok) (gy gu gv ay au av : Nat) (ahd : Pix) (G nx : Int) (f : Pix) (s : St) (hi : Ids P K bk g rb fr dg gy gu gv ay au av) (h : RW w bk g rb fr dg P K N Q d gy gu gv ay au av ahd G nx f s)
    (x y : Nat) (hx : x + 16 ≤ d.W) (hy : y + 16 ≤ d.H) :
    Calls Tryz.prog 128 #[.pointer (some ⟨rb, 0, none⟩), .int .i64 (x : Int), .int .i64 (y : Int)] w (StepPost w bk g rb fr dg P K N Q d gy gu gv ay au av ahd G nx (squareS d ahd K Q x y f s)) := by
  have r0 : w.cell? ⟨rb, 0, none⟩ = some (.bool K) := h.rd.cell 0
  have r3 : w.cell? ⟨rb, 3, none⟩ = some (.pointer (some ⟨bk, 0, none⟩)) := h.rd.cell 3
  have r4 : w.cell? ⟨rb, 4, none⟩ = some (.pointer (some ⟨g, 0, none⟩)) := h.rd.cell 4
  have H0 := Lib.hid (And.intro h (And.intro hi hd))
  clear h hi hd
  go_enter Tryz.func128, Tryz.ntmps128
  go_upto_if 18 with (fail)
  go_cut [7] (fun v7 wx => SqCut1 w bk g rb fr dg P K N Q d gy gu gv ay au av ahd G nx f s v7 wx)
  case first =>
    cases K
    · go_wp2_with fail
      refine wp_region_plan [8] [] [0, 1, 2, 3, 4, 5, 6, 7, 8, 9, 10, 11, 12, 13] (by kernel_rfl) (by kernel_rfl) (fun _ _ _ d _ h => by cases d <;> exact h) ?_
      iterate 8 (refine plan_still rfl rfl (fun K hK => ?_); go_simp; refine hK _ ?_; clear hK K)
      refine plan_loud rfl rfl (fun K hK => ?_)
      go_simp
      refine (bookOne3 w.drew bk g P H0.out.2.1.pg H0.out.2.1.pb (fun j hj => H0.out.1.pw j hj) H0.out.2.1.gb.1 s 1 (by omega) (H0.out.1.st.mod ((Mod.refl (fun _ => False) w).drew) (fun h => h) (fun h => h) (fun _ _ h => h))).mono ?_
      rintro e w3 (⟨hr, er, her, rfl, hm⟩ | ⟨v, s3, hr, rfl, hs3, hm⟩)
      · have hM : Mod (fun j => j = g ∨ j = bk) w w3 := ((Mod.refl (fun j => j = g ∨ j = bk) w).drew).trans hm
        have hR : squareS d ahd false Q x y f s = none := by
          show (sone 1 3 s).bind _ = none
          rw [hr]
          rfl
        have H3 := Lib.hid (And.intro hM hR)
        have her' : (er != 0) = true := by rw [bne, her]; rfl
        clear hM hR hm hr her r0 r3 r4
        dsimp only []
        refine hK _ _ ?_
        clear hK K
        iterate 5 (refine plan_still rfl rfl (fun K hK => ?_); go_simp; refine hK _ ?_; clear hK K)
        refine plan_done ?_
        go_wp2_with fail
        go_ret
        exact .inl ⟨H3.out.2, er, by simpa using her', rfl, rs2 H3.out.1⟩
      · have hM : Mod (fun j => j = g ∨ j = bk) w w3 := ((Mod.refl (fun j => j = g ∨ j = bk) w).drew).trans hm
        have H3 := Lib.hid (And.intro hM (And.intro (H0.out.1.book H0.out.2.1 hM hs3) hr))
        clear hM hm hr hs3 r0 r3 r4
        dsimp only []
        refine hK _ _ ?_
        clear hK K
        iterate 5 (refine plan_still rfl rfl (fun K hK => ?_); go_simp; refine hK _ ?_; clear hK K)
        refine plan_done ?_
        go_wp2_with fail
        go_meet
        exact ⟨v, s3, rfl, H3.out.2.2, H3.out.2.1, rs2 H3.out.1⟩
    · go_wp2_with fail
      go_meet
      exact ⟨2, s, rfl, rfl, H0.out.1, Mod.refl _ _⟩
  case rest =>
    clear r0 r3 r4
    obtain ⟨kd, s1, rfl, hR, hw, hm⟩ := hcut
    rename World => wx
    have hkd := skind_lt hR
    have hws := hw.quiet ((Mod.refl (fun _ => False) wx).alloc (.cells #[.int .i64 0, .int .i64 0] 156))
    have H1 := Lib.hid (And.intro hR (And.intro hw (And.intro hws (And.intro hm hkd))))
    clear hR hw hws hm hkd
    go_upto_if 35 with (fail)
    go_cut [] (fun wy => SqCut2 w wx.heap.size bk g rb fr dg P K N Q d gy gu gv ay au av ahd G nx f kd s1 wy)
    case first =>
      by_cases hk1 : kd = 1
      · have d1 : ((kd : Int) == 1) = true := by simp; omega
        have HK1 := Lib.hid hk1
        clear hk1
        go_wp2_with fail
        refine (dVector (wx.alloc (.cells #[.int .i64 0, .int .i64 0] 156)) bk g rb fr dg P H0.out.2.1.pg H0.out.2.1.pb (fun j hj => H1.out.2.2.1.pw j hj) H0.out.2.1.gb.1 K N Q s1 H1.out.2.2.1.st H1.out.2.2.1.rd H0.out.2.1.gb.2.1 H0.out.2.1.gb.2.2).mono ?_
        have hgl : g < wx.heap.size := by obtain ⟨_, _, _, hb, _⟩ := H1.out.2.1.st.2.2; exact hb.lt
        have hbl : bk < wx.heap.size := H1.out.2.1.st.1.lt
        rintro e w3 (⟨hr, er, her, rfl, hm⟩ | ⟨a, b, s3, hr, rfl, hs3, hm⟩)
        · have vb := (Blk.new wx 156 #[.int .i64 0, .int .i64 0]).keep hm (by omega)
          obtain ⟨vc, vf⟩ := vb.both
          have vl := vb.lt
          have hR : squareS d ahd K Q x y f s = none := by
            unfold squareS skvec
            rw [H1.out.1]
            show (if kd = 1 then svec s1 else _).bind _ = none
            rw [if_pos HK1.out, hr]
            rfl
          have H3 := Lib.hid (And.intro hm hR)
          have her' : (er != 0) = true := by rw [bne, her]; rfl
          clear hm hR hr her vb
          go_wp2_with fail
          go_ret
          refine .inl ⟨H3.out.2, er, by simpa using her', rfl, ?_⟩
          refine H1.out.2.2.2.1.then_ ?_ (S' := RS bk g gy gu gv) (fun _ _ h => h)
          exact (rs2 (((Mod.refl (fun j => j = g ∨ j = bk) wx).alloc _).trans H3.out.1)).then_ (((Mod.refl (· = wx.heap.size) w3).setCell (.inl rfl) _).setCell (.inl rfl) _) (fun j h e => by omega)
        · have vb := (Blk.new wx 156 #[.int .i64 0, .int .i64 0]).keep hm (by omega)
          obtain ⟨vc, vf⟩ := vb.both
          have vl := vb.lt
          have H3 := Lib.hid (And.intro hm (And.intro hs3 (And.intro hr vb)))
          clear hm hr hs3 vb
          go_wp2_with fail
          go_meet
          have hmS : Mod (· = wx.heap.size) w3 ((w3.setCell ⟨wx.heap.size, 0, none⟩ (.int .i64 a)).setCell ⟨wx.heap.size, 1, none⟩ (.int .i64 b)) := ((Mod.refl (· = wx.heap.size) w3).setCell (.inl rfl) _).setCell (.inl rfl) _
          have hmA := (((Mod.refl (fun j => j = g ∨ j = bk) wx).alloc _).trans H3.out.1).then_ hmS (fun j h e => by omega)
          have hs4 := H3.out.2.1.mod hmS (by omega) (by omega) (fun j hj e => by have := H1.out.2.1.pw j hj; omega)
          exact ⟨a, b, s3, by unfold skvec; rw [if_pos HK1.out]; exact H3.out.2.2.1, (((Sat.own1 H3.out.2.2.2).put (.here rfl)).put (.here rfl)).own_ 0 rfl, H1.out.2.1.book H0.out.2.1 hmA hs4, H1.out.2.2.2.1.then_ (rs2 hmA) (fun _ _ h => h)⟩
      · have d1 : ((kd : Int) == 1) = false := by simp; omega
        go_wp2_with fail
        go_meet
        exact ⟨0, 0, s1, by unfold skvec; rw [if_neg hk1], Blk.new _ _ _, H1.out.2.2.1, H1.out.2.2.2.1.then_ ((Mod.refl (fun _ => False) wx).alloc _) (fun _ _ h => h.elim)⟩
    case rest =>
      obtain ⟨a, b, s2, hV, hb, hw, hm⟩ := hcut
      rename World => wy
      have hbd := skvec_bounds hV
      have hR2 : squareS d ahd K Q x y f s = blkFrom d ahd (kd : Int) Q x y a b 6 f s2 := by
        unfold squareS
        rw [H1.out.1]
        show (skvec kd s1).bind _ = _
        rw [hV]
        rfl
      have hdl := area_le H0.out.2.2.sides
      have hx4 : x ≤ 4096 := by omega
      have hy4 : y ≤ 4096 := by omega
      have H2 := Lib.hid (And.intro hR2 (And.intro hb (And.intro hw (And.intro hm hbd))))
      clear hR2 hb hw hm hbd hV hdl
      go_wp2_with fail
      refine (dPlaces _ x y hx4 hy4).mono ?_
      rintro e w5 ⟨rfl, hm5⟩
      have H5 := Lib.hid (And.intro (H2.out.2.1.keep hm5 (fun h => h)) (And.intro (H2.out.2.2.1.quiet hm5) (H2.out.2.2.2.1.then_ hm5 (fun _ _ h => h.elim))))
      clear hm5
      go_wp2_with fail
      go_loopw [47] (SqRel w wx.heap.size bk g rb fr dg P K N Q d gy gu gv ay au av ahd G nx (kd : Int) x y a b (squareS d ahd K Q x y f s)) (fun s _ => 6 - (intOf s).toNat)
      case atStart => exact ⟨0, f, s2, by omega, rfl, H2.out.1.symm, H5.out.1, H5.out.2.1, H5.out.2.2⟩
      case round =>
        obtain ⟨i, f1, s3, hi6, rfl, hRr, hb1, hw1, hm1⟩ := hrel
        rename World => wr
        obtain ⟨vc, vf⟩ := hb1.both
        have vl := hb1.lt
        have HK := Lib.hid (And.intro hRr (And.intro hb1 (And.intro hw1 hm1)))
        clear hRr hb1 hw1 hm1
        by_cases hlt : i < 6
        · have d1 : decide ((i : Int) < 6) = true := decide_eq_true (by omega)
          have ix := plL_at x y hlt
          go_wp2_with fail
          obtain ⟨p1, p2, p3⟩ := pc_in H0.out.2.2 hlt hx hy
          have hn : 6 - i = (5 - i) + 1 := by omega
          have hRr := HK.out.1
          rw [hn] at hRr
          unfold blkFrom at hRr
          rw [show 5 - (5 - i) = i by omega] at hRr
          have hMa : Mod (fun _ => False) wr (wr.alloc (.cells #[.int .i64 (pcP i : Int), .int .i64 (pcX x i : Int), .int .i64 (pcY y i : Int)] 264)) := (Mod.refl (fun _ => False) wr).alloc _
          refine (dStep _ bk g rb fr dg P K N Q d H0.out.2.2 gy gu gv ay au av ahd G nx f1 s3 H0.out.2.1 (HK.out.2.2.1.quiet hMa) (kd : Int) (fun e => by have := H1.out.2.2.2.2.2 e; omega) (pcP i) (pcX x i) (pcY y i) p1 p2 p3 a b H2.out.2.2.2.2.1 H2.out.2.2.2.2.2).mono ?_
          rintro e w6 (⟨hr, er, her, rfl, hm⟩ | ⟨f2, s4, hr, rfl, hw6, hm⟩)
          · rw [hr] at hRr
            have H6 := Lib.hid (And.intro hRr (HK.out.2.2.2.then_ ((hMa.mono (fun _ h => h.elim)).trans hm) (fun _ _ h => h)))
            have her' : (er != 0) = true := by rw [bne, her]; rfl
            clear hRr hm hr her ix hn hMa
            go_wp2_with fail
            go_ret
            exact .inl ⟨H6.out.1.symm, er, by simpa using her', rfl, H6.out.2⟩
          · rw [hr] at hRr
            have hx1 := H1.out.2.1
            have hmS := (hMa.mono (S' := RS bk g gy gu gv) (fun _ h => h.elim)).trans hm
            have hnv : ¬ RS bk g gy gu gv wx.heap.size := by
              have q1 := hx1.st.1.lt
              have q2 : g < wx.heap.size := by obtain ⟨_, _, _, hb, _⟩ := hx1.st.2.2; exact hb.lt
              have q3 := hx1.fa.by_.lt
              have q4 := hx1.fa.bu.lt
              have q5 := hx1.fa.bv.lt
              unfold RS
              omega
            have H6 := Lib.hid (And.intro hRr (And.intro hw6 (And.intro (HK.out.2.1.keep hmS hnv) (HK.out.2.2.2.then_ hmS (fun _ _ h => h)))))
            clear hRr hm hr ix hn hMa hw6 hmS hnv hx1
            go_wp2_with fail
            go_roundw
            case rel => exact ⟨i + 1, f2, s4, by omega, by go_num, by rw [show 6 - (i + 1) = 5 - i by omega]; exact H6.out.1, H6.out.2.2.1, H6.out.2.1, H6.out.2.2.2⟩
            case measure => simp [intOf]; omega
        · obtain rfl : i = 6 := by omega
          go_wp2_with fail
          go_ret
          exact .inr ⟨f1, s3, HK.out.1.symm, rfl, HK.out.2.2.1, HK.out.2.2.2⟩
end Go.Proofs.YtmkopcojnibhlaaGreatDoor

/-
  decoder: a frame's squares, plain.
-/
namespace Go.Proofs.YtmkopcojnibhlaaGreatDoor
open Go.RowKit

/-- The last n squares of the row at y. -/
def rowS (d : Dim) (ahd : Pix) (K : Bool) (Q : Int) (y : Nat) : Nat → Pix → St → Option (Pix × St)
  | 0, f, s => some (f, s)
  | n + 1, f, s => (squareS d ahd K Q (d.W - 16 * (n + 1)) y f s).bind fun a => rowS d ahd K Q y n a.1 a.2
/-- The last n rows of squares. -/
def rowsS (d : Dim) (ahd : Pix) (K : Bool) (Q : Int) : Nat → Pix → St → Option (Pix × St)
  | 0, f, s => some (f, s)
  | n + 1, f, s => (rowS d ahd K Q (d.H - 16 * (n + 1)) (d.W / 16) f s).bind fun a => rowsS d ahd K Q n a.1 a.2
/-- What a code stands for: a frame, not smooth yet. -/
def builtS (d : Dim) (ahd : Pix) (K : Bool) (Q : Int) (code : List UInt8) : Option Pix :=
  if code.length < 4 then none else
    (rowsS d ahd K Q (d.H / 16) (blankPix d 0) ⟨fillB 16, code.drop 4, be (code.take 4), 4294967295⟩).bind fun a => if a.2.code = [] ∧ a.2.rest = 0 then some a.1 else none
end Go.Proofs.YtmkopcojnibhlaaGreatDoor

/-
  Some bytes and headers, plain.
-/
namespace Go.Proofs.YtmkopcojnibhlaaGreatDoor
open Go.RowKit

def bits4 : List UInt8 := digitsL 19273 16 ++ codeL 0 ++ codeL 0 ++ codeL 3
theorem pack4 : packL bits4 = [75, 73, 200] := by decide +kernel
theorem seq4 : seqParse [75, 73, 200] = some (16, 16, 4) := by decide +kernel
theorem hdr4 : hdrParse [192] 16 16 4 = some ((true, 0, 0), 8) := by decide +kernel

theorem own_low {w : World} {B B' : Nat} {e : TypeId} {size n : Nat} {v : Value} {xs : List Value} (h : w.ownsRow B e size v n xs) (hB : B' ≤ B) : w.ownsRow B' e size v n xs := by
  refine ⟨h.1, ?_⟩
  rcases h.2 with hn | ⟨g, cap, cur, hv, hb, rest⟩
  · exact .inl hn
  · exact .inr ⟨g, cap, cur, hv, Nat.le_trans hB hb, rest⟩
end Go.Proofs.YtmkopcojnibhlaaGreatDoor

/-
  A decoder's Frame of one byte.
-/
namespace Go.Proofs.YtmkopcojnibhlaaGreatDoor
open Go.RowKit

set_option maxRecDepth 100000 in
set_option maxHeartbeats 4000000 in
theorem built_short (w : World) (g : Nat) (K : Bool) (N Q : Int) (A : Option Addr) (n c : Nat) (h : n < 4) : Calls Tryz.prog 81 #[.pointer (some ⟨g, 0, none⟩), .agg #[.bool K, .int .i64 N, .int .i64 Q], .slice A n c] w fun e w' => e = .returned (.tuple #[.agg noFrame.toArray, .int .i64 41]) ∧ Mod (fun _ => False) w w' := by
  go_enter Tryz.func81, Tryz.ntmps81
  go_wp2_with fail
  refine (coderOpen_short _ A n c h).mono ?_
  rintro e w1 ⟨rfl, rfl⟩
  go_wp2_with fail
  exact bodyPost_ret (v := .tuple #[.agg noFrame.toArray, .int .i64 41]) (by simp [results, Tryz.results81, go_sem, noFrame]) rfl ⟨rfl, ((Mod.refl _ _).alloc _).alloc _⟩

set_option maxRecDepth 100000 in
set_option maxHeartbeats 4000000 in
theorem frame_short (w : World) (g : Nat) (fr : List Value) (hb : Blk w g 136 (decCells 16 16 4 0 fr)) (A : Option Addr) (c : Nat) (hin : BytesIn w A 1 c [192]) : Calls Tryz.prog 37 #[.pointer (some ⟨g, 0, none⟩), .slice A 1 c] w fun e w' => e = .returned (.tuple #[.agg noFrame.toArray, .int .i64 132]) ∧ Mod (fun _ => False) w w' := by
  have c0 : w.cell? ⟨g, 0, none⟩ = some (.int .i64 16) := hb.cell 0
  have c1 : w.cell? ⟨g, 1, none⟩ = some (.int .i64 16) := hb.cell 1
  have c2 : w.cell? ⟨g, 2, none⟩ = some (.int .i64 4) := hb.cell 2
  have hF : Blk (w.alloc (.cells noFrame.toArray 40)) w.heap.size 40 noFrame.toArray := Blk.new _ _ _
  have M0 : Mod (fun _ => False) w (w.alloc (.cells noFrame.toArray 40)) := (Mod.refl _ _).alloc _
  have p1 := parseHdr _ A 1 c [192] 16 16 4 (hin.quiet M0) (by omega)
  have hg := hb.lt
  clear hin hb
  unfold noFrame at *
  go_enter Tryz.func37, Tryz.ntmps37
  go_wp2_with fail
  refine p1.mono ?_
  clear p1
  rintro e w1 ⟨hm1, ⟨hnone, rfl⟩ | ⟨K, N, Q, a4, v, hsome, rfl, hv⟩⟩
  · rw [hdr4] at hnone
    cases hnone
  rw [hdr4] at hsome
  obtain ⟨⟨rfl, rfl, rfl⟩, rfl⟩ : (K = true ∧ 0 = N ∧ 0 = Q) ∧ 8 = a4 := by simpa using hsome
  have hF1 := hF.keep hm1 (fun h => h)
  have M1 := M0.trans hm1
  obtain ⟨A1, d1, rfl⟩ := own_shape hv
  have HH := Lib.hid (And.intro hF1 M1)
  clear hF hm1 M0 hsome hv hF1 M1 c0 c1 c2
  go_upto_region 6 with (fail)
  go_quiet (fail)
  go_wp2_with fail
  refine (built_short _ g true 0 0 A1 _ d1 (by simp)).mono ?_
  rintro e w3 ⟨rfl, hm3⟩
  have hF3 := Blk.keep ((HH.out.1.alloc _).drewN _) hm3 (fun h => h)
  have M3 := Mod.trans ((HH.out.2.alloc _).drewN _) hm3
  obtain ⟨hc, hf⟩ := hF3.both
  have hl := hF3.lt
  have HM := Lib.hid (And.intro hF3 M3)
  clear HH hm3 hF3 M3
  unfold noFrame
  go_wp2_with fail
  refine bodyPost_ret (v := .tuple #[.agg noFrame.toArray, .int .i64 132]) (by simp [results, Tryz.results37, go_sem, noFrame, hc, hl]) rfl ⟨rfl, ?_⟩
  have M3 := HM.out.2
  exact (by repeat' (first | with_reducible exact M3 | with_reducible refine Mod.alloc ?_ _ | with_reducible refine Mod.setCell ?_ ?_ _ | exact Or.inr (Nat.le_refl _)))
end Go.Proofs.YtmkopcojnibhlaaGreatDoor

/-
  decoder: what a code stands for, walked.
-/
namespace Go.Proofs.YtmkopcojnibhlaaGreatDoor
open Go.RowKit

def BuiltPost (w : World) (d : Dim) (r : Option Pix) (e : Ending) (w' : World) : Prop :=
  (r = none ∧ ∃ er : Int, (er == 0) = false ∧ e = .returned (.tuple #[.agg noFrame.toArray, .int .i64 er]) ∧ Mod (fun _ => False) w w') ∨
  ∃ (f : Pix) (gy gu gv : Nat), r = some f ∧ e = .returned (.tuple #[.agg (frameV d gy gu gv).toArray, .int .i64 0]) ∧ FrameAt w' d gy gu gv f ∧ w.heap.size ≤ gy ∧ w.heap.size ≤ gu ∧ w.heap.size ≤ gv ∧ Mod (fun _ => False) w w'
/-- The frame is made. -/
def BuCut (w0 w : World) (d : Dim) (v9 v10 : Value) (wx : World) : Prop :=
  v9 = .int .i64 0 ∧ ∃ fb gy gu gv, v10 = .pointer (some ⟨fb, 0, none⟩) ∧ Blk wx fb 40 (frameV d gy gu gv).toArray ∧ FrameAt wx d gy gu gv (blankPix d 0) ∧
    w.heap.size ≤ fb ∧ w.heap.size ≤ gy ∧ w.heap.size ≤ gu ∧ w.heap.size ≤ gv ∧ fb ≠ gy ∧ fb ≠ gu ∧ fb ≠ gv ∧ Mod (fun _ => False) w wx ∧ Mod (fun _ => False) w0 wx
/-- Between the squares. -/
structure BuAt (w0 : World) (res : Nat) (fr : List Value) (bk g rb fb dg : Nat) (P : Nat → Prop) (K : Bool) (N Q : Int) (d : Dim) (gy gu gv ay au av : Nat) (ahd : Pix) (G nx : Int) (f : Pix) (s : St) (wr : World) : Prop where
  rw_ : RW wr bk g rb fb dg P K N Q d gy gu gv ay au av ahd G nx f s
  dt : Blk wr dg 136 (decCells d.W d.H G nx fr)
  res_ : Blk wr res 40 #[.int .i64 0, .int .i64 0, .slice none 0 0, .int .i64 0, .int .i64 0, .slice none 0 0, .int .i64 0, .int .i64 0, .slice none 0 0]
  mod : Mod (fun _ => False) w0 wr
theorem BuAt.go {w0 wr w' : World} {res : Nat} {fr : List Value} {bk g rb fb dg : Nat} {P : Nat → Prop} {K : Bool} {N Q : Int} {d : Dim} {gy gu gv ay au av : Nat} {ahd : Pix} {G nx : Int} {f f' : Pix} {s s' : St}
    (h : BuAt w0 res fr bk g rb fb dg P K N Q d gy gu gv ay au av ahd G nx f s wr) (hm : Mod (RS bk g gy gu gv) wr w') (h' : RW w' bk g rb fb dg P K N Q d gy gu gv ay au av ahd G nx f' s')
    (hdg : dg < w0.heap.size) (hn : ∀ j, RS bk g gy gu gv j → w0.heap.size ≤ j ∧ j ≠ res) : BuAt w0 res fr bk g rb fb dg P K N Q d gy gu gv ay au av ahd G nx f' s' w' :=
  ⟨h', h.dt.keep hm (fun e => by have := (hn _ e).1; omega), h.res_.keep hm (fun e => (hn _ e).2 rfl), h.mod.into hm (fun j e => .inr (hn j e).1)⟩
def BuRel (w0 : World) (res : Nat) (fr : List Value) (bk g rb fb dg : Nat) (P : Nat → Prop) (K : Bool) (N Q : Int) (d : Dim) (gy gu gv ay au av : Nat) (ahd : Pix) (G nx : Int) (r : Option (Pix × St)) (v12 : Value) (wr : World) : Prop :=
  ∃ (y : Nat) (f : Pix) (s : St), y % 16 = 0 ∧ y ≤ d.H ∧ v12 = .int .i64 (y : Int) ∧ rowsS d ahd K Q ((d.H - y) / 16) f s = r ∧ BuAt w0 res fr bk g rb fb dg P K N Q d gy gu gv ay au av ahd G nx f s wr
def BuRel2 (w0 : World) (res : Nat) (fr : List Value) (bk g rb fb dg : Nat) (P : Nat → Prop) (K : Bool) (N Q : Int) (d : Dim) (gy gu gv ay au av : Nat) (ahd : Pix) (G nx : Int) (y : Nat) (r : Option (Pix × St)) (v13 : Value) (wr : World) : Prop :=
  ∃ (x : Nat) (f : Pix) (s : St), x % 16 = 0 ∧ x ≤ d.W ∧ v13 = .int .i64 (x : Int) ∧ ((rowS d ahd K Q y ((d.W - x) / 16) f s).bind fun a => rowsS d ahd K Q ((d.H - (y + 16)) / 16) a.1 a.2) = r ∧ BuAt w0 res fr bk g rb fb dg P K N Q d gy gu gv ay au av ahd G nx f s wr
theorem dg_cells {w : World} {g : Nat} {a b c : Int} {fr : List Value} {nx : Int} (h : Blk w g 136 (decCells a b c nx fr)) : w.cell? ⟨g, 0, none⟩ = some (.int .i64 a) ∧ w.cell? ⟨g, 1, none⟩ = some (.int .i64 b) := ⟨h.cell 0, h.cell 1⟩

theorem pBlank0 (w : World) (d : Dim) (hd : d.Ok) : Calls Tryz.prog 41 #[.int .i64 (d.W : Int), .int .i64 (d.H : Int), .int .u8 0] w (BlankPost w d 0) := pBlank w d hd 0
theorem hd_cells {w : World} {g : Nat} {a b c : Value} (h : Blk w g 82 #[a, b, c]) : w.cell? ⟨g, 0, none⟩ = some a ∧ w.cell? ⟨g, 1, none⟩ = some b ∧ w.cell? ⟨g, 2, none⟩ = some c := ⟨h.cell 0, h.cell 1, h.cell 2⟩
theorem fr_put9 {w : World} {p : Nat} {x0 x1 x2 x3 x4 x5 x6 x7 x8 : Value} (h : Blk w p 40 #[x0, x1, x2, x3, x4, x5, x6, x7, x8]) (a b c d e f g i j : Value) :
    Blk (((((((((w.setCell ⟨p, 0, none⟩ a).setCell ⟨p, 1, none⟩ b).setCell ⟨p, 2, none⟩ c).setCell ⟨p, 3, none⟩ d).setCell ⟨p, 4, none⟩ e).setCell ⟨p, 5, none⟩ f).setCell ⟨p, 6, none⟩ g).setCell ⟨p, 7, none⟩ i).setCell ⟨p, 8, none⟩ j) p 40 #[a, b, c, d, e, f, g, i, j] ∧
    Mod (· = p) w (((((((((w.setCell ⟨p, 0, none⟩ a).setCell ⟨p, 1, none⟩ b).setCell ⟨p, 2, none⟩ c).setCell ⟨p, 3, none⟩ d).setCell ⟨p, 4, none⟩ e).setCell ⟨p, 5, none⟩ f).setCell ⟨p, 6, none⟩ g).setCell ⟨p, 7, none⟩ i).setCell ⟨p, 8, none⟩ j) := by
  refine ⟨?_, (((((((((Mod.refl (· = p) w).setCell (.inl rfl) a).setCell (.inl rfl) b).setCell (.inl rfl) c).setCell (.inl rfl) d).setCell (.inl rfl) e).setCell (.inl rfl) f).setCell (.inl rfl) g).setCell (.inl rfl) i).setCell (.inl rfl) j⟩
  have z := ((((((((h.set_ 0 a).set_ 1 b).set_ 2 c).set_ 3 d).set_ 4 e).set_ 5 f).set_ 6 g).set_ 7 i).set_ 8 j
  rwa [show (((((((((#[x0, x1, x2, x3, x4, x5, x6, x7, x8].setIfInBounds 0 a).setIfInBounds 1 b).setIfInBounds 2 c).setIfInBounds 3 d).setIfInBounds 4 e).setIfInBounds 5 f).setIfInBounds 6 g).setIfInBounds 7 i).setIfInBounds 8 j) = #[a, b, c, d, e, f, g, i, j] by simp] at z
set_option maxRecDepth 100000 in
set_option maxHeartbeats 4000000 in
theorem dBuilt (w : World) (dg : Nat) (d : Dim) (hd : d.Ok) (G nx : Int) (fr : List Value) (ay au av : Nat) (ahd : Pix) (K : Bool) (N Q : Int) (A : Option Addr) (n c : Nat) (code : List UInt8) (hb : Blk w dg 136 (decCells d.W d.H G nx fr))
    (hA : K = false → fr = frameV d ay au av ∧ FrameAt w d ay au av ahd) (hin : BytesIn w A n c code) (hn : n ≤ 1048576) (hnc : n ≤ c) :
    Calls Tryz.prog 81 #[.pointer (some ⟨dg, 0, none⟩), .agg #[.bool K, .int .i64 N, .int .i64 Q], .slice A n c] w (BuiltPost w d (builtS d ahd K Q code)) := by
  by_cases h4 : n < 4
  · have hr : builtS d ahd K Q code = none := by unfold builtS; rw [if_pos (by rw [hin.1]; exact h4)]
    rw [hr]
    exact (built_short w dg K N Q A n c h4).mono (by rintro e w' ⟨rfl, hm⟩; exact .inl ⟨rfl, 41, rfl, rfl, hm⟩)
  have hR : builtS d ahd K Q code = (rowsS d ahd K Q (d.H / 16) (blankPix d 0) ⟨fillB 16, code.drop 4, be (code.take 4), 4294967295⟩).bind fun a => if a.2.code = [] ∧ a.2.rest = 0 then some a.1 else none := by
    unfold builtS
    rw [if_neg (by rw [hin.1]; exact h4)]
  have HS0 := ((Sat.nil (fun _ => False) w).alloc 82 #[.bool K, .int .i64 N, .int .i64 Q] rfl).alloc (g := w.heap.size + 1) 40 #[.int .i64 0, .int .i64 0, .slice none 0 0, .int .i64 0, .int .i64 0, .slice none 0 0, .int .i64 0, .int .i64 0, .slice none 0 0] (by simp)
  have hdl := hb.lt
  have H0 := Lib.hid (And.intro hb (And.intro hA (And.intro hin (And.intro HS0 (And.intro hd hR)))))
  clear hb hA hin HS0 hd hR
  go_enter Tryz.func81, Tryz.ntmps81
  go_wp2_with fail
  refine (cOpen _ A n c code (by omega) hn hnc (H0.out.2.2.1.quiet H0.out.2.2.2.1.mod)).mono ?_
  rintro e w1 ⟨g, rfl, hco, hg, hm⟩
  have hg' : w.heap.size + 2 ≤ g := by simpa using hg
  have HS1 := Sat.after hm H0.out.2.2.2.1
  have hdb := H0.out.1.keep HS1.mod (fun h => h)
  have hdc := dg_cells hdb.drew
  have H1 := Lib.hid (And.intro HS1 (And.intro hco hdb))
  clear hco hg hm HS1 hdb
  go_upto_region 4 with (fail)
  go_cut [9, 10] (fun v9 v10 wx => BuCut w w1 d v9 v10 wx)
  case first =>
    have hdb := H1.out.2.2
    have hne1 : dg ≠ w1.heap.size := by have := hdb.lt; omega
    go_region_held3 (fun w' => w'.cell? ⟨dg, 0, none⟩ = some (.int .i64 (d.W : Int)) ∧ w'.cell? ⟨dg, 1, none⟩ = some (.int .i64 (d.H : Int))) (first | with_reducible exact dg_cells hdb.drew | with_reducible exact dg_cells (hdb.alloc _).drew | with_reducible exact dg_cells hdb | with_reducible exact dg_cells (hdb.alloc _) | exact dg_cells (by repeat' (first | with_reducible exact hdb | with_reducible refine Blk.far ?_ hne1 _))) (first | (go_at_call 41; (with_reducible refine (pBlank0 _ d H0.out.2.2.2.2.1).mono ?_); rintro e w2 ⟨p, rfl, ⟨gy, gu, gv, rfl, hfr, l1, l2, l3⟩, hm2⟩; (have hdb : Blk w2 dg 136 (decCells d.W d.H G nx fr) := by first | exact hdb.drew.keep hm2 (fun h => h) | exact (hdb.alloc _).drew.keep hm2 (fun h => h)); (try (have hz := Blk.keep (Blk.new _ 40 #[.int .i64 0, .int .i64 0, .slice none 0 0, .int .i64 0, .int .i64 0, .slice none 0 0, .int .i64 0, .int .i64 0, .slice none 0 0]).drew hm2 (fun h => h); obtain ⟨zc, zf⟩ := hz.both; have zl := hz.lt)); unfold frameV))
    all_goals (go_wp2_with fail; go_meet)
    · have l0 : w.heap.size ≤ w1.heap.size := H1.out.1.mod.size
      have ls : w1.heap.size ≤ w2.heap.size := hm2.size
      have l1' : w1.heap.size ≤ gy := l1
      have l2' : w1.heap.size ≤ gu := l2
      have l3' : w1.heap.size ≤ gv := l3
      have b1 := hfr.by_.lt
      have b2 := hfr.bu.lt
      have b3 := hfr.bv.lt
      exact ⟨rfl, _, gy, gu, gv, rfl, Blk.new _ _ _, hfr.quiet ((Mod.refl _ _).alloc _), ls, l1', l2', l3', by omega, by omega, by omega, (((Mod.refl _ w1).drew).trans hm2).alloc _, ((H1.out.1.mod.drew).trans hm2).alloc _⟩
    · have l0 : w.heap.size ≤ w1.heap.size := H1.out.1.mod.size
      have l1' : w1.heap.size + 1 ≤ gy := by simpa using l1
      have l2' : w1.heap.size + 1 ≤ gu := by simpa using l2
      have l3' : w1.heap.size + 1 ≤ gv := by simpa using l3
      have h9 := fr_put9 hz (.int .i64 (d.W : Int)) (.int .i64 (d.H : Int)) (.slice (some ⟨gy, 0, none⟩) d.nY d.nY) (.int .i64 (d.W2 : Int)) (.int .i64 (d.H2 : Int)) (.slice (some ⟨gu, 0, none⟩) d.nC d.nC) (.int .i64 (d.W2 : Int)) (.int .i64 (d.H2 : Int)) (.slice (some ⟨gv, 0, none⟩) d.nC d.nC)
      have hmA : Mod (fun _ => False) w1 w2 := (((Mod.refl _ w1).alloc _).drew).trans hm2
      exact ⟨rfl, _, gy, gu, gv, rfl, h9.1, hfr.mod h9.2 (by omega) (by omega) (by omega), Nat.le_refl _, by omega, by omega, by omega, by omega, by omega, by omega, hmA.into h9.2 (fun i e => .inr (by omega)), (H1.out.1.mod.trans hmA).into h9.2 (fun i e => .inr (by omega))⟩
  case rest =>
    obtain ⟨rfl, fb, gy, gu, gv, rfl, hfb, hfr, l0, l1, l2, l3, n1, n2, n3, hmB, hmA⟩ := hcut
    rename World => wx
    have HSx := H1.out.1.quiet hmB
    have hco : CodeAt wx g (fun j => w.heap.size + 2 ≤ j ∧ j < g) (code.drop 4) (be (code.take 4)) 4294967295 := by
      have := H1.out.2.1.mod hmB (fun h => h) (fun _ _ h => h)
      simpa using this
    have hdb := H1.out.2.2.keep hmB (fun h => h)
    have hgl : g < w1.heap.size := by obtain ⟨_, _, _, hb, _⟩ := H1.out.2.1; exact hb.lt
    have hh : Blk wx w.heap.size 82 #[.bool K, .int .i64 N, .int .i64 Q] := HSx.own_ 1 rfl
    have hrs : Blk wx (w.heap.size + 1) 40 #[.int .i64 0, .int .i64 0, .slice none 0 0, .int .i64 0, .int .i64 0, .slice none 0 0, .int .i64 0, .int .i64 0, .slice none 0 0] := HSx.own_ 0 rfl
    have hhc := hd_cells hh.drew
    have H2 := Lib.hid (And.intro hco (And.intro hdb (And.intro hrs (And.intro hfb (And.intro hfr (And.intro hmA hh))))))
    clear hco hdb hrs hfb hfr hmA hmB HSx
    go_upto_region 7 with (fail)
    go_region_held3 (fun w' => w'.cell? ⟨w.heap.size, 0, none⟩ = some (.bool K) ∧ w'.cell? ⟨w.heap.size, 1, none⟩ = some (.int .i64 N) ∧ w'.cell? ⟨w.heap.size, 2, none⟩ = some (.int .i64 Q)) (first | with_reducible exact hd_cells hh.drew | with_reducible exact hd_cells hh | with_reducible exact hd_cells (hh.alloc _)) (first | (go_at_call 46; (with_reducible refine (bNew _).mono ?_); rintro e w3 ⟨bk, rfl, hbk, lbk, hm3⟩; (have hh := hh.drew.keep hm3 (fun h => h))))
    have hsB := H2.out.2.2.2.2.2.1.size
    have hrB := H2.out.2.2.1.lt
    have hfl := H2.out.2.2.2.1.lt
    have hyl := H2.out.2.2.2.2.1.by_.lt
    have hul := H2.out.2.2.2.2.1.bu.lt
    have hvl := H2.out.2.2.2.2.1.bv.lt
    have hwl := H1.out.1.mod.size
    have lbk' : wx.heap.size ≤ bk := lbk
    have hbl := hbk.lt
    have mA : Mod (fun _ => False) wx (w3.alloc (.cells (rdV K N Q bk g fb dg) 217)) := (((Mod.refl _ wx).drew).trans hm3).alloc _
    have hrd := Blk.new w3 217 (rdV K N Q bk g fb dg)
    have hbk4 := hbk.alloc (.cells (rdV K N Q bk g fb dg) 217)
    change Exit.then _ _ _ _ (w3.alloc (.cells (rdV K N Q bk g fb dg) 217))
    have hs3 : w3.heap.size < (w3.alloc (.cells (rdV K N Q bk g fb dg) 217)).heap.size := hrd.lt
    generalize (w3.alloc (.cells (rdV K N Q bk g fb dg) 217)) = w4 at *
    obtain ⟨rb, hrb⟩ : ∃ rb, rb = w3.heap.size := ⟨_, rfl⟩
    rw [← hrb] at hrd hs3 ⊢
    have hBU : BuAt w (w.heap.size + 1) fr bk g rb fb dg (fun j => w.heap.size + 2 ≤ j ∧ j < g) K N Q d gy gu gv ay au av ahd G nx (blankPix d 0) ⟨fillB 16, code.drop 4, be (code.take 4), 4294967295⟩ w4 := by
      have q := H2.out
      have m0 : Mod (fun _ => False) w w4 := q.2.2.2.2.2.1.trans mA
      refine ⟨⟨⟨hbk4, fillB_length 16 (Nat.le_refl _), q.1.mod mA (fun h => h) (fun _ _ h => h)⟩, fun j hj => by have := mA.size; omega, hrd, q.2.2.2.1.keep mA (fun h => h), q.2.2.2.2.1.quiet mA, fun hk => ?_, fun hk => (H0.out.2.1 hk).2.quiet m0⟩, H0.out.1.keep m0 (fun h => h), q.2.2.1.keep mA (fun h => h), m0⟩
      have := H0.out.1.keep m0 (fun h => h)
      rwa [(H0.out.2.1 hk).1] at this
    have hN : ∀ j, RS bk g gy gu gv j → w.heap.size ≤ j ∧ j ≠ w.heap.size + 1 := by
      intro j h
      unfold RS at h
      omega
    have hI : Ids (fun j => w.heap.size + 2 ≤ j ∧ j < g) K bk g rb fb dg gy gu gv ay au av := by
      have q := H2.out
      have z1 := q.2.2.2.2.1.yu
      have z2 := q.2.2.2.2.1.yv
      have z3 := q.2.2.2.2.1.uv
      refine ⟨by omega, by omega, by omega, by omega, by omega, ?_, fun hk => ?_⟩
      · simp only [List.nodup_cons, List.mem_cons, List.not_mem_nil, or_false, not_or, List.nodup_nil, and_true, not_false_eq_true]
        omega
      · have fa := (H0.out.2.1 hk).2
        have a1 := fa.by_.lt
        have a2 := fa.bu.lt
        have a3 := fa.bv.lt
        have a4 := fa.yu
        have a5 := fa.yv
        have a6 := fa.uv
        have a7 := H0.out.1.ne_ fa.by_ (by decide)
        have a8 := H0.out.1.ne_ fa.bu (by decide)
        have a9 := H0.out.1.ne_ fa.bv (by decide)
        simp only [List.nodup_cons, List.mem_cons, List.not_mem_nil, or_false, not_or, List.nodup_nil, and_true, not_false_eq_true]
        omega
    have HB := Lib.hid (And.intro hBU (And.intro hN hI))
    clear hBU hN hI hrd hbk4 mA hm3 hbk hh hhc H1 H2
    generalize (fun j => w.heap.size + 2 ≤ j ∧ j < g) = P at HB
    clear lbk lbk' hbl hsB hrB hfl hyl hul hvl hwl hs3 hrb
    obtain ⟨R, hR0⟩ : ∃ R, R = rowsS d ahd K Q (d.H / 16) (blankPix d 0) ⟨fillB 16, code.drop 4, be (code.take 4), 4294967295⟩ := ⟨_, rfl⟩
    have HR0 := Lib.hid hR0
    clear hR0
    go_wp2_with fail
    go_loopw [12] (BuRel w (w.heap.size + 1) fr bk g rb fb dg P K N Q d gy gu gv ay au av ahd G nx R) (fun s _ => d.H - (intOf s).toNat)
    case atStart => exact ⟨0, _, _, by omega, by omega, rfl, by rw [HR0.out]; simp, HB.out.1⟩
    case round =>
      obtain ⟨y, f, s, hy16, hyH, rfl, hRr, hbu⟩ := hrel
      rename World => wr
      have hd4 := (area_le H0.out.2.2.2.2.1.sides)
      have hW4 : d.W ≤ 4096 := by omega
      have hH4 : d.H ≤ 4096 := by omega
      have hW16 := H0.out.2.2.2.2.1.w16
      have hH16 := H0.out.2.2.2.2.1.h16
      clear hd4
      have c1 : wr.cell? ⟨dg, 1, none⟩ = some (.int .i64 (d.H : Int)) := hbu.dt.cell 1
      by_cases hlt : y < d.H
      · have d1 : decide ((y : Int) < (d.H : Int)) = true := decide_eq_true (by omega)
        have hyn : y + 16 ≤ d.H := by omega
        rw [show (d.H - y) / 16 = (d.H - (y + 16)) / 16 + 1 by omega] at hRr
        unfold rowsS at hRr
        rw [show d.H - 16 * ((d.H - (y + 16)) / 16 + 1) = y by omega] at hRr
        have HK := Lib.hid (And.intro hRr hbu)
        clear hRr hbu
        go_wp2_with fail
        go_loopw [13] (BuRel2 w (w.heap.size + 1) fr bk g rb fb dg P K N Q d gy gu gv ay au av ahd G nx y R) (fun s _ => d.W - (intOf s).toNat)
        case atStart => exact ⟨0, f, s, by omega, by omega, rfl, by simpa using HK.out.1, HK.out.2⟩
        case round =>
          clear c1 HK
          obtain ⟨x, f1, s1, hx16, hxW, rfl, hRx, hbx⟩ := hrel
          rename World => wq
          have c0 : wq.cell? ⟨dg, 0, none⟩ = some (.int .i64 (d.W : Int)) := hbx.dt.cell 0
          by_cases hxl : x < d.W
          · have d2 : decide ((x : Int) < (d.W : Int)) = true := decide_eq_true (by omega)
            have hxn : x + 16 ≤ d.W := by omega
            rw [show (d.W - x) / 16 = (d.W - (x + 16)) / 16 + 1 by omega] at hRx
            unfold rowS at hRx
            rw [show d.W - 16 * ((d.W - (x + 16)) / 16 + 1) = x by omega] at hRx
            have HX := Lib.hid (And.intro hRx hbx)
            clear hRx hbx
            go_wp2_with fail
            refine (dSquare wq bk g rb fb dg P K N Q d H0.out.2.2.2.2.1 gy gu gv ay au av ahd G nx f1 s1 HB.out.2.2 HX.out.2.rw_ x y hxn hyn).mono ?_
            rintro e w6 (⟨hr, er, her, rfl, hm⟩ | ⟨f2, s2, hr, rfl, hw6, hm⟩)
            · have hRx := HX.out.1
              rw [hr] at hRx
              have hres := HX.out.2.res_.keep hm (fun e => (HB.out.2.1 _ e).2 rfl)
              have hmod : Mod (fun _ => False) w w6 := HX.out.2.mod.into hm (fun j e => .inr (HB.out.2.1 j e).1)
              obtain ⟨rc, rf⟩ := hres.both
              have hrl := hres.lt
              have H6 := Lib.hid (And.intro hRx (And.intro hres hmod))
              have her' : (er != 0) = true := by rw [bne, her]; rfl
              clear hRx hm hr her hres hmod c0
              go_wp2_with fail
              refine bodyPost_ret (v := .tuple #[.agg noFrame.toArray, .int .i64 er]) (by simp [results, Tryz.results81, go_sem, rc, noFrame]) rfl (.inl ⟨?_, er, by simpa using her', rfl, ?_⟩)
              · rw [H0.out.2.2.2.2.2, ← HR0.out, ← H6.out.1]
                rfl
              · exact H6.out.2.2.into (fr_put9 H6.out.2.1 _ _ _ _ _ _ _ _ _).2 (fun i e => .inr (by omega))
            · have hRx := HX.out.1
              rw [hr] at hRx
              have hbu6 := HX.out.2.go hm hw6 hdl HB.out.2.1
              have H6 := Lib.hid (And.intro hRx hbu6)
              clear hRx hm hr hw6 hbu6 c0
              go_wp2_with fail
              go_roundw
              case rel => exact ⟨x + 16, f2, s2, by omega, by omega, by go_num, H6.out.1, H6.out.2⟩
              case measure => simp [intOf]; omega
          · obtain rfl : x = d.W := by omega
            have d2 : decide ((d.W : Int) < (d.W : Int)) = false := decide_eq_false (by omega)
            rw [Nat.sub_self, Nat.zero_div] at hRx
            have HX := Lib.hid (And.intro hRx hbx)
            clear hRx hbx
            go_wp2_with fail
            go_roundw
            case rel => exact ⟨y + 16, f1, s1, by omega, by omega, by go_num, HX.out.1, HX.out.2⟩
            case measure => simp [intOf]; omega
      · obtain rfl : y = d.H := by omega
        have d1 : decide ((d.H : Int) < (d.H : Int)) = false := decide_eq_false (by omega)
        rw [Nat.sub_self, Nat.zero_div] at hRr
        have HK := Lib.hid (And.intro hRr hbu)
        clear hRr hbu
        go_wp2_with fail
        refine (cEnd wr g P s.code s.rest s.wide HK.out.2.rw_.st.2.2).mono ?_
        rintro e w7 ⟨⟨er, rfl, h7⟩, rfl⟩
        have hRB := H0.out.2.2.2.2.2
        rw [← HR0.out, ← HK.out.1] at hRB
        have hres := HK.out.2.res_
        obtain ⟨rc, rf⟩ := hres.both
        have hrl := hres.lt
        have hfb := HK.out.2.rw_.frm
        obtain ⟨fc, ff⟩ := hfb.both
        unfold frameV at fc
        have H7 := Lib.hid (And.intro hRB (And.intro hres hfb))
        clear hRB hres hfb c1
        rcases h7 with ⟨h1, h2, rfl⟩ | ⟨h1, h2⟩
        · have H8 := Lib.hid (And.intro h1 h2)
          clear h1 h2
          go_wp2_with fail
          have hm9 := (fr_put9 H7.out.2.1 (.int .i64 (d.W : Int)) (.int .i64 (d.H : Int)) (.slice (some ⟨gy, 0, none⟩) d.nY d.nY) (.int .i64 (d.W2 : Int)) (.int .i64 (d.H2 : Int)) (.slice (some ⟨gu, 0, none⟩) d.nC d.nC) (.int .i64 (d.W2 : Int)) (.int .i64 (d.H2 : Int)) (.slice (some ⟨gv, 0, none⟩) d.nC d.nC)).2
          have z1 := HB.out.2.1 gy (by unfold RS; simp)
          have z2 := HB.out.2.1 gu (by unfold RS; simp)
          have z3 := HB.out.2.1 gv (by unfold RS; simp)
          refine bodyPost_ret (v := .tuple #[.agg (frameV d gy gu gv).toArray, .int .i64 0]) (by simp [results, Tryz.results81, go_sem, rc, frameV]) rfl (.inr ⟨f, gy, gu, gv, ?_, rfl, HK.out.2.rw_.fa.mod hm9 z1.2 z2.2 z3.2, z1.1, z2.1, z3.1, HK.out.2.mod.into hm9 (fun i e => .inr (by omega))⟩)
          rw [H7.out.1]
          show (if s.code = [] ∧ s.rest = 0 then some f else none) = some f
          rw [if_pos H8.out]
        · have H8 := Lib.hid h1
          have her' : (er != 0) = true := by rw [bne, h2]; rfl
          clear h1 h2
          go_wp2_with fail
          refine bodyPost_ret (v := .tuple #[.agg noFrame.toArray, .int .i64 er]) (by simp [results, Tryz.results81, go_sem, rc, noFrame]) rfl (.inl ⟨?_, er, by simpa using her', rfl, ?_⟩)
          · rw [H7.out.1]
            show (if s.code = [] ∧ s.rest = 0 then some f else none) = none
            rw [if_neg H8.out]
          · exact HK.out.2.mod.into (fr_put9 H7.out.2.1 _ _ _ _ _ _ _ _ _).2 (fun i e => .inr (by omega))
end Go.Proofs.YtmkopcojnibhlaaGreatDoor
