/-
  The reference's Get of a block's levels.
-/
import Derived.Test.YteppnjgfebcmjaaGreatM36
import Derived.Test.YteppnjgfebcmjaaGreatM27
import Derived.Test.YteppnjgfebcmjaaGreatM35
namespace Go.Proofs.YteppnjgfebcmjaaGreat
open Go.RowKit

def FQGetPost (w : World) (bk g : Nat) (P : Nat → Prop) (r : Option (List Int × St)) (e : Ending) (w' : World) : Prop :=
  (r = none ∧ ∃ er : Int, (er == 0) = false ∧ e = .returned (.tuple #[.slice none 0 0, .int .i64 er]) ∧ Mod (fun j => j = g ∨ j = bk) w w') ∨
  ∃ l s' ob, r = some (l, s') ∧ e = .returned (.tuple #[.slice (some ⟨ob, 0, none⟩) 64 64, .int .i64 0]) ∧ Blk w' ob 3 (i64s l).toArray ∧ l.length = 64 ∧ w.heap.size ≤ ob ∧ RSAt w' bk g P s' ∧ Mod (fun j => j = g ∨ j = bk) w w'
def FLvRel (w : World) (bk g ob : Nat) (P : Nat → Prop) (t c : Nat) (r : Option (List Int × St)) (v49 : Value) (wr : World) : Prop :=
  ∃ (i : Nat) (L : List Int) (s : St), i ≤ c ∧ v49 = .int .i64 (i : Int) ∧ L.length = 64 ∧ Blk wr ob 3 (i64s L).toArray ∧ RSAt wr bk g P s ∧ (lvTo t (c - i) i L s).bind (lvFin c) = r ∧ Mod (fun j => j = g ∨ j = bk) w wr

set_option maxRecDepth 100000 in
set_option maxHeartbeats 4000000 in
theorem fQGet (w : World) (bk g : Nat) (P : Nat → Prop) (hPg : ¬ P g) (hPb : ¬ P bk) (hPw : ∀ j, P j → j < w.heap.size) (hgb : g ≠ bk) (s : St) (t : Nat) (ht : t < 15) (h : RSAt w bk g P s) :
    Calls Tryz.prog 118 #[.pointer (some ⟨bk, 0, none⟩), .pointer (some ⟨g, 0, none⟩), .int .i64 (t : Int), .int .i64 64] w (FQGetPost w bk g P (sblock t s)) := by
  have hbw : bk < w.heap.size := h.1.lt
  have hgw : g < w.heap.size := by obtain ⟨_, _, _, _, _, hb, _⟩ := h.2.2.2; exact hb.lt
  have N1 := fBookNum w bk g P hPg hPb hgb s t (by omega) h
  obtain ⟨tg, htg⟩ : ∃ tg, tg = sblock t s := ⟨_, rfl⟩
  rw [← htg]
  unfold sblock at htg
  have HT := Lib.hid (And.intro htg hPw)
  clear htg h hPw
  have p0 : decide ((t : Int) < 0) = false := decide_eq_false (by omega)
  have p1 : decide ((14 : Int) < (t : Int)) = false := decide_eq_false (by omega)
  go_enter Tryz.func118, Tryz.ntmps118
  go_wp2_with fail
  refine N1.mono ?_
  clear N1
  rintro e w2 (⟨hr, er, her, rfl, hm⟩ | ⟨c, s2, hr, rfl, hs, hm⟩)
  · have her2 : (er != 0) = true := by simp [bne, her]
    have HR : Hid (tg = none) := by show _ = _; rw [HT.out.1, hr]; rfl
    have HH := Lib.hid (And.intro her hm)
    clear hr her hm
    go_wp2_with fail
    go_ret2
    exact .inl ⟨HR.out, er, HH.out.1, rfl, HH.out.2⟩
  · have hcb := snum_le hr
    by_cases hbig : 64 < c
    · have d1 : decide ((64 : Int) < (c : Int)) = true := decide_eq_true (by omega)
      have HR : Hid (tg = none) := by show _ = _; rw [HT.out.1, hr]; exact if_pos hbig
      have HH := Lib.hid hm
      clear hr hs hm
      go_wp2_with fail
      go_ret2
      exact .inl ⟨HR.out, 51, rfl, rfl, HH.out⟩
    · have d1 : decide ((64 : Int) < (c : Int)) = false := decide_eq_false (by omega)
      have HR : Hid (tg = (lvTo t c 0 (List.replicate 64 0) s2).bind (lvFin c)) := by show _ = _; rw [HT.out.1, hr]; exact if_neg hbig
      have HH := Lib.hid (And.intro hs hm)
      clear hr hs hm
      go_wp2_with (refine wpList_mk_int _ rfl (.tmp 43) (.tmp 43) rfl 64 rfl rfl (by omega) ?_; intro w3 hb3 hm3; have HO := Lib.hid (And.intro hb3 hm3); clear hb3 hm3)
      have hs3 := HH.out.1.mod HO.out.2 (fun h => h) (fun h => h) (fun _ _ h => h)
      have M3 := HH.out.2.trans (HO.out.2.mono (fun _ h => h.elim))
      have how : w.heap.size ≤ w2.heap.size := HH.out.2.size
      obtain ⟨ob, hobe⟩ : ∃ ob, ob = w2.heap.size := ⟨_, rfl⟩
      have hb3 := HO.out.1
      rw [← hobe] at hb3 how ⊢
      have HB3 := Lib.hid (And.intro hb3 (And.intro hs3 M3))
      clear hb3 hs3 M3 HO hobe
      go_loopw [13] (FLvRel w bk g ob P t c tg) (fun i _ => c - (intOf i).toNat)
      case atStart => exact ⟨0, List.replicate 64 0, s2, by omega, rfl, by simp, HB3.out.1, HB3.out.2.1, HR.out.symm, HB3.out.2.2⟩
      case round =>
        clear HB3 HR
        obtain ⟨i, L, s4, hi, rfl, hL, hbl, hs4, hg4, hM4⟩ := hrel
        have hl := hbl.lt
        have HL := Lib.hid hL
        clear hL
        by_cases hlt : i < c
        · have hge : (lvTo t (c - i) i L s4).bind (lvFin c) = (ssigned (t + 1) s4).bind fun x => (lvTo t (c - (i + 1)) (i + 1) (L.set i x.1) x.2).bind (lvFin c) := by
            rw [show c - i = (c - (i + 1)) + 1 by omega]
            simp only [lvTo, Option.bind_assoc]
          rw [hg4] at hge
          have S1 := fBookSigned wr bk g P hPg hPb hgb s4 (t + 1) (by omega) hs4
          have q1 : ((t + 1 : Nat) : Int) = (t : Int) + 1 := by omega
          rw [q1] at S1
          have HG := Lib.hid (And.intro hge (And.intro hbl hM4))
          clear hge hg4 hbl hM4 hs4 q1
          go_wp2_with fail
          refine S1.mono ?_
          clear S1
          rintro e w5 (⟨hr, er, her, rfl, hm5⟩ | ⟨v, s5, hr, rfl, hs5, hm5⟩)
          · have her2 : (er != 0) = true := by simp [bne, her]
            have HR5 : Hid (tg = none) := by show _ = _; rw [HG.out.1, hr]; rfl
            have hb5 := HG.out.2.1.keep hm5 (fun h => by omega)
            have p2 : (0 : Int) ≤ (i : Int) := by omega
            have p3 : (i : Int) < 64 := by omega
            have k5 : w5.cell? ⟨ob, i, none⟩ = some (.int .i64 (L.getD i 0)) := by rw [hb5.cell]; simp [i64s, List.getD_eq_getElem?_getD, HL.out, show i < 64 by omega]
            have f5 := hb5.frozen i
            have hl5 := hb5.lt
            have HM5 := Lib.hid (And.intro (HG.out.2.2.trans hm5) her)
            clear hr hm5 her hb5
            go_wp2_with fail
            go_ret2
            exact .inl ⟨HR5.out, er, HM5.out.2, rfl, HM5.out.1⟩
          · have HR5 : Hid (tg = (lvTo t (c - (i + 1)) (i + 1) (L.set i v) s5).bind (lvFin c)) := by show _ = _; rw [HG.out.1, hr]; rfl
            have hb5 := HG.out.2.1.keep hm5 (fun h => by omega)
            have p2 : (0 : Int) ≤ (i : Int) := by omega
            have p3 : (i : Int) < 64 := by omega
            have k5 : w5.cell? ⟨ob, i, none⟩ = some (.int .i64 (L.getD i 0)) := by rw [hb5.cell]; simp [i64s, List.getD_eq_getElem?_getD, HL.out, show i < 64 by omega]
            have f5 := hb5.frozen i
            have hl5 := hb5.lt
            have hPo : ¬ P ob := fun hp => by have := HT.out.2 ob hp; omega
            have HM5 := Lib.hid (And.intro (HG.out.2.2.trans hm5) (And.intro hb5 hs5))
            clear hr hm5 hb5 hs5
            go_wp2_with fail
            go_roundw
            case rel =>
              refine ⟨i + 1, L.set i v, s5, by omega, by go_num, by simp [HL.out], HM5.out.2.1.put (by simp [i64s, List.map_set]), ?_, HR5.out.symm, HM5.out.1.setCell (.inr how) _⟩
              exact HM5.out.2.2.mod (S := (· = ob)) ((Mod.refl (· = ob) _).setCell (.inl rfl) _) (by omega) (by omega) (fun j hj e => hPo (e ▸ hj))
            case measure => simp [intOf]; omega
        · obtain rfl : i = c := by omega
          rw [Nat.sub_self] at hg4
          have hg5 : lvFin i (L, s4) = tg := hg4
          unfold lvFin at hg5
          have hin4 : IntsIn wr (some ⟨ob, 0, none⟩) 64 64 L := by
            have := (IntsOwn.whole (l := L) (B := ob) (Nat.le_refl _) hbl (by rw [HL.out]; unfold maxLen; omega)).in_
            rwa [HL.out] at this
          have U4 := fUnsort wr _ 64 L hin4
          by_cases hi0 : 0 < i
          · have d2 : decide ((0 : Int) < (i : Int)) = true := decide_eq_true (by omega)
            have p2 : (0 : Int) ≤ (i : Int) - 1 := by omega
            have p3 : (i : Int) - 1 < 64 := by omega
            have p4 : ((i : Int) - 1).toNat = i - 1 := by omega
            have p5 : (1 : Int) ≤ (i : Int) := by omega
            have k5 : wr.cell? ⟨ob, i - 1, none⟩ = some (.int .i64 (L.getD (i - 1) 0)) := by rw [hbl.cell]; simp [i64s, List.getD_eq_getElem?_getD, HL.out, show i - 1 < 64 by omega]
            generalize hlast : L.getD (i - 1) 0 = last at *
            by_cases hz : last = 0
            · subst hz
              have HR5 : Hid (tg = none) := by show _ = _; rw [← hg5, if_pos ⟨hi0, rfl⟩]
              have HM := Lib.hid hM4
              clear hg5 hg4 hM4 hbl hs4 hlast hin4 U4
              go_wp2_with fail
              go_ret2
              exact .inl ⟨HR5.out, 51, rfl, rfl, HM.out⟩
            · have d3 : (last == 0) = false := beq_eq_false_iff_ne.2 hz
              have HR5 : Hid (tg = some (unsortL L, s4)) := by show _ = _; rw [← hg5, if_neg (fun h => hz h.2)]
              have HM := Lib.hid (And.intro hM4 hs4)
              clear hg5 hg4 hM4 hbl hs4 hlast hin4
              go_wp2_with fail
              refine U4.mono ?_
              clear U4
              rintro e w6 ⟨ob6, rfl, hb6, ho6, hm6⟩
              have HM6 := Lib.hid (And.intro hb6 (And.intro ho6 hm6))
              clear hb6 ho6 hm6
              go_wp2_with fail
              go_ret2
              obtain ⟨hb6, ho6, hm6⟩ := HM6.out
              exact .inr ⟨_, s4, ob6, HR5.out, rfl, hb6, unsTo_length _ _, Nat.le_trans HM.out.1.size ho6, HM.out.2.mod hm6 (fun h => h) (fun h => h) (fun _ _ h => h), HM.out.1.trans (hm6.mono (fun _ h => h.elim))⟩
          · have d2 : decide ((0 : Int) < (i : Int)) = false := decide_eq_false (by omega)
            have HR5 : Hid (tg = some (unsortL L, s4)) := by show _ = _; rw [← hg5, if_neg (fun h => hi0 h.1)]
            have HM := Lib.hid (And.intro hM4 hs4)
            clear hg5 hg4 hM4 hbl hs4 hin4
            go_wp2_with fail
            refine U4.mono ?_
            clear U4
            rintro e w6 ⟨ob6, rfl, hb6, ho6, hm6⟩
            have HM6 := Lib.hid (And.intro hb6 (And.intro ho6 hm6))
            clear hb6 ho6 hm6
            go_wp2_with fail
            go_ret2
            obtain ⟨hb6, ho6, hm6⟩ := HM6.out
            exact .inr ⟨_, s4, ob6, HR5.out, rfl, hb6, unsTo_length _ _, Nat.le_trans HM.out.1.size ho6, HM.out.2.mod hm6 (fun h => h) (fun h => h) (fun _ _ h => h), HM.out.1.trans (hm6.mono (fun _ h => h.elim))⟩
end Go.Proofs.YteppnjgfebcmjaaGreat

/-
  The reference's decoder: its reader; one of n, a vector's number.
-/
namespace Go.Proofs.YteppnjgfebcmjaaGreat
open Go.RowKit

def RB3 (bk g rb : Nat) (j : Nat) : Prop := j = g ∨ j = bk ∨ j = rb
def rdrV (bk g : Nat) (ok : Bool) : Array Value := #[.pointer (some ⟨bk, 0, none⟩), .pointer (some ⟨g, 0, none⟩), .bool ok]
/-- The reader's blocks lie apart. -/
structure RId (P : Nat → Prop) (bk g rb : Nat) : Prop where
  pg : ¬ P g
  pb : ¬ P bk
  pr : ¬ P rb
  gb : g ≠ bk
  rg : rb ≠ g
  rbk : rb ≠ bk
/-- What a reader's step does: its number, or not all was well. -/
def RdPost (w : World) (bk g rb : Nat) (P : Nat → Prop) (r : Option (Int × St)) (e : Ending) (w' : World) : Prop :=
  Mod (RB3 bk g rb) w w' ∧
  ((r = none ∧ (∃ v : Int, e = .returned (.int .i64 v)) ∧ Blk w' rb 75 (rdrV bk g false)) ∨
   ∃ v s', r = some (v, s') ∧ e = .returned (.int .i64 v) ∧ RSAt w' bk g P s' ∧ Blk w' rb 75 (rdrV bk g true))
theorem rb3 {bk g rb : Nat} {w w' : World} (hm : Mod (fun j => j = g ∨ j = bk) w w') : Mod (RB3 bk g rb) w w' := hm.mono fun _ h => by unfold RB3; rcases h with h | h <;> simp [h]
theorem rb3_put {bk g rb : Nat} {w w' : World} (hm : Mod (fun j => j = g ∨ j = bk) w w') (i : Nat) (u : Value) : Mod (RB3 bk g rb) w (w'.setCell ⟨rb, i, none⟩ u) := (rb3 hm).setCell (p := ⟨rb, i, none⟩) (.inl (.inr (.inr rfl))) u
theorem RSAt.far {w : World} {bk g rb : Nat} {P : Nat → Prop} {s : St} (h : RSAt w bk g P s) (hi : RId P bk g rb) (i : Nat) (u : Value) : RSAt (w.setCell ⟨rb, i, none⟩ u) bk g P s :=
  h.mod ((Mod.refl (· = rb) w).setCell (p := ⟨rb, i, none⟩) (.inl rfl) u) (fun e => hi.rbk e.symm) (fun e => hi.rg e.symm) (fun _ hj e => hi.pr (e ▸ hj))

set_option maxRecDepth 100000 in
set_option maxHeartbeats 4000000 in
theorem fROne (w : World) (bk g rb : Nat) (P : Nat → Prop) (hi : RId P bk g rb) (s : St) (t n : Nat) (ht : t < 16) (hn : n = 3 ∨ n = 4) (h : RSAt w bk g P s) (hr : Blk w rb 75 (rdrV bk g true)) :
    Calls Tryz.prog 70 #[.pointer (some ⟨rb, 0, none⟩), .int .i64 (t : Int), .int .i64 (n : Int)] w (RdPost w bk g rb P ((sone t n s).map fun a => ((a.1 : Nat), a.2))) := by
  have hrd := hr.drew
  obtain ⟨rc, rf⟩ := hrd.both
  unfold rdrV at rc
  have rl := hr.lt
  have H0 := Lib.hid (And.intro hi (And.intro h hr))
  clear hi h hr hrd
  go_enter Tryz.func70, Tryz.ntmps70
  go_upto_region 1 with (fail)
  refine wp_region_planS [10] [] (0 :: 1 :: 2 :: 3 :: 4 :: 5 :: 6 :: 7 :: 8 :: 9 :: 10 :: 11 :: 12 :: 13 :: 14 :: 15 :: []) (fun _ => True) (by kernel_rfl) (by kernel_rfl) (fun _ _ _ d _ h => by cases d <;> exact h) trivial ?_
  iterate 10 (refine planS_still rfl rfl (fun K hK => ?_); go_simp; refine hK _ ?_; clear hK K)
  refine planS_loud rfl rfl (fun K hK => ?_)
  go_simp
  refine (fBookOne w.drew bk g P H0.out.1.pg H0.out.1.pb H0.out.1.gb s t n ht hn (H0.out.2.1.mod ((Mod.refl (fun _ => False) w).drew) (fun h => h) (fun h => h) (fun _ _ h => h))).mono ?_
  rintro e w3 (⟨hs, er, her, rfl, hm⟩ | ⟨v, s3, hs, rfl, hs3, hm⟩)
  · have hM : Mod (fun j => j = g ∨ j = bk) w w3 := ((Mod.refl (fun j => j = g ∨ j = bk) w).drew).trans hm
    have hr3 := H0.out.2.2.keep hM (by intro e; rcases e with e | e; exact H0.out.1.rg e; exact H0.out.1.rbk e)
    have H3 := Lib.hid (And.intro hM (And.intro hs hr3))
    clear rc rf rl
    obtain ⟨rc, rf⟩ := hr3.both
    unfold rdrV at rc
    have rl := hr3.lt
    clear hM hm hs hr3
    dsimp only []
    refine hK _ _ trivial ?_
    clear hK K
    iterate 5 (refine planS_still rfl rfl (fun K hK => ?_); go_simp; refine hK _ ?_; clear hK K)
    refine planS_done ?_
    go_wp2_with fail
    go_ret
    exact ⟨rb3_put H3.out.1 _ _, .inl ⟨by rw [H3.out.2.1]; rfl, ⟨_, rfl⟩, H3.out.2.2.put rfl⟩⟩
  · have hM : Mod (fun j => j = g ∨ j = bk) w w3 := ((Mod.refl (fun j => j = g ∨ j = bk) w).drew).trans hm
    have hr3 := H0.out.2.2.keep hM (by intro e; rcases e with e | e; exact H0.out.1.rg e; exact H0.out.1.rbk e)
    have H3 := Lib.hid (And.intro hM (And.intro hs (And.intro hr3 hs3)))
    clear rc rf rl
    obtain ⟨rc, rf⟩ := hr3.both
    unfold rdrV at rc
    have rl := hr3.lt
    clear hM hm hs hr3 hs3
    dsimp only []
    refine hK _ _ trivial ?_
    clear hK K
    iterate 5 (refine planS_still rfl rfl (fun K hK => ?_); go_simp; refine hK _ ?_; clear hK K)
    refine planS_done ?_
    go_wp2_with fail
    go_ret
    exact ⟨rb3_put H3.out.1 _ _, .inr ⟨_, s3, by rw [H3.out.2.1]; rfl, rfl, H3.out.2.2.2.far H0.out.1 _ _, H3.out.2.2.1.put rfl⟩⟩
set_option maxRecDepth 100000 in
set_option maxHeartbeats 4000000 in
theorem fRSigned (w : World) (bk g rb : Nat) (P : Nat → Prop) (hi : RId P bk g rb) (s : St) (t : Nat) (ht : t < 16) (h : RSAt w bk g P s) (hr : Blk w rb 75 (rdrV bk g true)) :
    Calls Tryz.prog 71 #[.pointer (some ⟨rb, 0, none⟩), .int .i64 (t : Int)] w (RdPost w bk g rb P ((ssigned t s).bind fun x => if x.1 < -128 ∨ 128 < x.1 then none else some x)) := by
  have hrd := hr.drew
  obtain ⟨rc, rf⟩ := hrd.both
  unfold rdrV at rc
  have rl := hr.lt
  have H0 := Lib.hid (And.intro hi (And.intro h hr))
  clear hi h hr hrd
  go_enter Tryz.func71, Tryz.ntmps71
  go_upto_region 1 with (fail)
  refine wp_region_planS [9] [] (0 :: 1 :: 2 :: 3 :: 4 :: 5 :: 6 :: 7 :: 8 :: 9 :: 10 :: 11 :: 12 :: 13 :: 14 :: []) (fun _ => True) (by kernel_rfl) (by kernel_rfl) (fun _ _ _ d _ h => by cases d <;> exact h) trivial ?_
  iterate 9 (refine planS_still rfl rfl (fun K hK => ?_); go_simp; refine hK _ ?_; clear hK K)
  refine planS_loud rfl rfl (fun K hK => ?_)
  go_simp
  refine (fBookSigned w.drew bk g P H0.out.1.pg H0.out.1.pb H0.out.1.gb s t ht (H0.out.2.1.mod ((Mod.refl (fun _ => False) w).drew) (fun h => h) (fun h => h) (fun _ _ h => h))).mono ?_
  rintro e w3 (⟨hs, er, her, rfl, hm⟩ | ⟨v, s3, hs, rfl, hs3, hm⟩)
  · have hM : Mod (fun j => j = g ∨ j = bk) w w3 := ((Mod.refl (fun j => j = g ∨ j = bk) w).drew).trans hm
    have hr3 := H0.out.2.2.keep hM (by intro e; rcases e with e | e; exact H0.out.1.rg e; exact H0.out.1.rbk e)
    have H3 := Lib.hid (And.intro hM (And.intro hs hr3))
    clear rc rf rl
    obtain ⟨rc, rf⟩ := hr3.both
    unfold rdrV at rc
    have rl := hr3.lt
    clear hM hm hs hr3
    dsimp only []
    refine hK _ _ trivial ?_
    clear hK K
    iterate 5 (refine planS_still rfl rfl (fun K hK => ?_); go_simp; refine hK _ ?_; clear hK K)
    refine planS_done ?_
    go_wp2_with fail
    go_ret
    exact ⟨rb3_put H3.out.1 _ _, .inl ⟨by rw [H3.out.2.1]; rfl, ⟨_, rfl⟩, H3.out.2.2.put rfl⟩⟩
  · have hM : Mod (fun j => j = g ∨ j = bk) w w3 := ((Mod.refl (fun j => j = g ∨ j = bk) w).drew).trans hm
    have hr3 := H0.out.2.2.keep hM (by intro e; rcases e with e | e; exact H0.out.1.rg e; exact H0.out.1.rbk e)
    have H3 := Lib.hid (And.intro hM (And.intro hs (And.intro hr3 hs3)))
    clear rc rf rl
    obtain ⟨rc, rf⟩ := hr3.both
    unfold rdrV at rc
    have rl := hr3.lt
    clear hM hm hs hr3 hs3
    dsimp only []
    refine hK _ _ trivial ?_
    clear hK K
    iterate 5 (refine planS_still rfl rfl (fun K hK => ?_); go_simp; refine hK _ ?_; clear hK K)
    refine planS_done ?_
    by_cases hv : v < -128
    · have d1 : decide (-128 ≤ v) = false := decide_eq_false (by omega)
      have HV := Lib.hid hv
      clear hv
      go_wp2_with fail
      go_ret
      exact ⟨rb3_put H3.out.1 _ _, .inl ⟨by rw [H3.out.2.1]; show (if _ then _ else _) = none; exact if_pos (.inl HV.out), ⟨_, rfl⟩, H3.out.2.2.1.put rfl⟩⟩
    · have d1 : decide (-128 ≤ v) = true := decide_eq_true (by omega)
      by_cases hv2 : 128 < v
      · have d2 : decide (v ≤ 128) = false := decide_eq_false (by omega)
        have HV := Lib.hid hv2
        clear hv hv2
        go_wp2_with fail
        go_ret
        exact ⟨rb3_put H3.out.1 _ _, .inl ⟨by rw [H3.out.2.1]; show (if _ then _ else _) = none; exact if_pos (.inr HV.out), ⟨_, rfl⟩, H3.out.2.2.1.put rfl⟩⟩
      · have d2 : decide (v ≤ 128) = true := decide_eq_true (by omega)
        have HV := Lib.hid (And.intro hv hv2)
        clear hv hv2
        go_wp2_with fail
        go_ret
        exact ⟨rb3_put H3.out.1 _ _, .inr ⟨_, s3, by rw [H3.out.2.1]; show (if _ then _ else _) = _; exact if_neg (fun h => by have := HV.out; dsimp only at h; omega), rfl, H3.out.2.2.2.far H0.out.1 _ _, H3.out.2.2.1.put rfl⟩⟩
end Go.Proofs.YteppnjgfebcmjaaGreat
