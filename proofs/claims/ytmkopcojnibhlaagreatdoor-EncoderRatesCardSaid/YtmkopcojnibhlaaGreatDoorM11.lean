/-
  quant.Get of 64.
-/
import Derived.Test.YtmkopcojnibhlaaGreatDoorM7
import Derived.Test.YtmkopcojnibhlaaGreatDoorM10
import Derived.Test.YtmkopcojnibhlaaGreatDoorM4
namespace Go.Proofs.YtmkopcojnibhlaaGreatDoor
open Go.RowKit

def lvTo (t : Nat) : Nat → Nat → List Int → St → Option (List Int × St)
  | 0, _, L, s => some (L, s)
  | m + 1, i, L, s => (ssigned (t + 1) s).bind fun x => lvTo t m (i + 1) (L.set i x.1) x.2
def lvFin (c : Nat) (y : List Int × St) : Option (List Int × St) := if 0 < c ∧ y.1.getD (c - 1) 0 = 0 then none else some (unsortL y.1, y.2)
/-- The next block of 64 levels. -/
def sblock (t : Nat) (s : St) : Option (List Int × St) := (snum t s).bind fun c => if 64 < c.1 then none else (lvTo t c.1 0 (List.replicate 64 0) c.2).bind (lvFin c.1)
theorem lvTo_length (t : Nat) (m : Nat) : ∀ (i : Nat) (L : List Int) (s : St) (L' : List Int) (s' : St), lvTo t m i L s = some (L', s') → L'.length = L.length := by
  induction m with
  | zero => intro i L s L' s' h; simp [lvTo] at h; rw [h.1]
  | succ m ih =>
    intro i L s L' s' h
    simp only [lvTo, Option.bind_eq_some_iff] at h
    obtain ⟨x, _, h2⟩ := h
    have := ih _ _ _ _ _ h2
    simpa using this

def QGetPost (w : World) (bk g : Nat) (P : Nat → Prop) (r : Option (List Int × St)) (e : Ending) (w' : World) : Prop :=
  (r = none ∧ ∃ er : Int, (er == 0) = false ∧ e = .returned (.tuple #[.slice none 0 0, .int .i64 er]) ∧ Mod (fun j => j = g ∨ j = bk) w w') ∨
  ∃ l s' ob, r = some (l, s') ∧ e = .returned (.tuple #[.slice (some ⟨ob, 0, none⟩) 64 64, .int .i64 0]) ∧ Blk w' ob 3 (i64s l).toArray ∧ l.length = 64 ∧ w.heap.size ≤ ob ∧ SAt w' bk g P s' ∧ Mod (fun j => j = g ∨ j = bk) w w'
def LvRel (w : World) (bk g ob : Nat) (P : Nat → Prop) (t c : Nat) (r : Option (List Int × St)) (v49 : Value) (wr : World) : Prop :=
  ∃ (i : Nat) (L : List Int) (s : St), i ≤ c ∧ v49 = .int .i64 (i : Int) ∧ L.length = 64 ∧ Blk wr ob 3 (i64s L).toArray ∧ SAt wr bk g P s ∧ (lvTo t (c - i) i L s).bind (lvFin c) = r ∧ Mod (fun j => j = g ∨ j = bk) w wr

set_option maxRecDepth 100000 in
set_option maxHeartbeats 4000000 in
theorem qGet (w : World) (bk g : Nat) (P : Nat → Prop) (hPg : ¬ P g) (hPb : ¬ P bk) (hPw : ∀ j, P j → j < w.heap.size) (hgb : g ≠ bk) (s : St) (t : Nat) (ht : t < 15) (h : SAt w bk g P s) :
    Calls Tryz.prog 235 #[.pointer (some ⟨bk, 0, none⟩), .pointer (some ⟨g, 0, none⟩), .int .i64 (t : Int), .int .i64 64] w (QGetPost w bk g P (sblock t s)) := by
  have hbw : bk < w.heap.size := h.1.lt
  have hgw : g < w.heap.size := by obtain ⟨_, _, _, hb, _⟩ := h.2.2; exact hb.lt
  have N1 := bookGet w bk g P hPg hPb hPw hgb s t (by omega) h
  obtain ⟨tg, htg⟩ : ∃ tg, tg = sblock t s := ⟨_, rfl⟩
  rw [← htg]
  unfold sblock at htg
  have HT := Lib.hid (And.intro htg hPw)
  clear htg h hPw
  have p0 : decide ((t : Int) < 0) = false := decide_eq_false (by omega)
  have p1 : decide (15 ≤ (t : Int)) = false := decide_eq_false (by omega)
  go_enter Tryz.func235, Tryz.ntmps235
  go_wp2_with fail
  refine (quantSide _ 64 (by omega)).mono ?_
  rintro e w1 ⟨rfl, rfl⟩
  rw [show ((sideOf 64 : Nat) : Int) = 8 from rfl]
  go_wp2_with fail
  refine N1.mono ?_
  clear N1
  rintro e w2 (⟨hr, er, her, rfl, hm⟩ | ⟨c, s2, hr, rfl, hs, hm⟩)
  · have her2 : (er != 0) = true := by simp [bne, her]
    have HR : Hid (tg = none) := by show _ = _; rw [HT.out.1, hr]; rfl
    have HH := Lib.hid (And.intro her hm)
    clear hr her hm
    go_wp2_with fail
    go_ret2
    exact .inl ⟨HR.out, er, HH.out.1, rfl, HH.out.2⟩
  · have hcb := snum_le hr
    by_cases hbig : 64 < c
    · have d1 : decide ((64 : Int) < (c : Int)) = true := decide_eq_true (by omega)
      have HR : Hid (tg = none) := by show _ = _; rw [HT.out.1, hr]; exact if_pos hbig
      have HH := Lib.hid hm
      clear hr hs hm
      go_wp2_with fail
      go_ret2
      exact .inl ⟨HR.out, 51, rfl, rfl, HH.out⟩
    · have d1 : decide ((64 : Int) < (c : Int)) = false := decide_eq_false (by omega)
      have HR : Hid (tg = (lvTo t c 0 (List.replicate 64 0) s2).bind (lvFin c)) := by show _ = _; rw [HT.out.1, hr]; exact if_neg hbig
      have HH := Lib.hid (And.intro hs hm)
      clear hr hs hm
      go_wp2_with (refine wpList_mk_int _ rfl (.tmp 46) (.tmp 46) rfl 64 rfl rfl (by omega) ?_; intro w3 hb3 hm3; have HO := Lib.hid (And.intro hb3 hm3); clear hb3 hm3)
      have hs3 := HH.out.1.mod HO.out.2 (fun h => h) (fun h => h) (fun _ _ h => h)
      have M3 := HH.out.2.trans (HO.out.2.mono (fun _ h => h.elim))
      have how : w.heap.size ≤ w2.heap.size := HH.out.2.size
      obtain ⟨ob, hobe⟩ : ∃ ob, ob = w2.heap.size := ⟨_, rfl⟩
      have hb3 := HO.out.1
      rw [← hobe] at hb3 how ⊢
      have HB3 := Lib.hid (And.intro hb3 (And.intro hs3 M3))
      clear hb3 hs3 M3 HO hobe
      go_loopw [49] (LvRel w bk g ob P t c tg) (fun i _ => c - (intOf i).toNat)
      case atStart => exact ⟨0, List.replicate 64 0, s2, by omega, rfl, by simp, HB3.out.1, HB3.out.2.1, HR.out.symm, HB3.out.2.2⟩
      case round =>
        clear HB3 HR
        obtain ⟨i, L, s4, hi, rfl, hL, hbl, hs4, hg4, hM4⟩ := hrel
        have HPW := Lib.hid (fun j hj => Nat.lt_of_lt_of_le (HT.out.2 j hj) hM4.size)
        have hl := hbl.lt
        have HL := Lib.hid hL
        clear hL
        by_cases hlt : i < c
        · have hge : (lvTo t (c - i) i L s4).bind (lvFin c) = (ssigned (t + 1) s4).bind fun x => (lvTo t (c - (i + 1)) (i + 1) (L.set i x.1) x.2).bind (lvFin c) := by
            rw [show c - i = (c - (i + 1)) + 1 by omega]
            simp only [lvTo, Option.bind_assoc]
          rw [hg4] at hge
          have S1 := bookSigned wr bk g P hPg hPb HPW.out hgb s4 (t + 1) (by omega) hs4
          have q1 : ((t + 1 : Nat) : Int) = (t : Int) + 1 := by omega
          rw [q1] at S1
          have HG := Lib.hid (And.intro hge (And.intro hbl hM4))
          clear hge hg4 hbl hM4 hs4 q1
          go_wp2_with fail
          refine S1.mono ?_
          clear S1
          rintro e w5 (⟨hr, er, her, rfl, hm5⟩ | ⟨v, s5, hr, rfl, hs5, hm5⟩)
          · have her2 : (er != 0) = true := by simp [bne, her]
            have HR5 : Hid (tg = none) := by show _ = _; rw [HG.out.1, hr]; rfl
            have hb5 := HG.out.2.1.keep hm5 (fun h => by omega)
            have p2 : (0 : Int) ≤ (i : Int) := by omega
            have p3 : (i : Int) < 64 := by omega
            have k5 : w5.cell? ⟨ob, i, none⟩ = some (.int .i64 (L.getD i 0)) := by rw [hb5.cell]; simp [i64s, List.getD_eq_getElem?_getD, HL.out, show i < 64 by omega]
            have f5 := hb5.frozen i
            have hl5 := hb5.lt
            have HM5 := Lib.hid (And.intro (HG.out.2.2.trans hm5) her)
            clear hr hm5 her hb5
            go_wp2_with fail
            go_ret2
            exact .inl ⟨HR5.out, er, HM5.out.2, rfl, HM5.out.1.setCell (.inr how) _⟩
          · have HR5 : Hid (tg = (lvTo t (c - (i + 1)) (i + 1) (L.set i v) s5).bind (lvFin c)) := by show _ = _; rw [HG.out.1, hr]; rfl
            have hb5 := HG.out.2.1.keep hm5 (fun h => by omega)
            have p2 : (0 : Int) ≤ (i : Int) := by omega
            have p3 : (i : Int) < 64 := by omega
            have k5 : w5.cell? ⟨ob, i, none⟩ = some (.int .i64 (L.getD i 0)) := by rw [hb5.cell]; simp [i64s, List.getD_eq_getElem?_getD, HL.out, show i < 64 by omega]
            have f5 := hb5.frozen i
            have hl5 := hb5.lt
            have hPo : ¬ P ob := fun hp => by have := HT.out.2 ob hp; omega
            have HM5 := Lib.hid (And.intro (HG.out.2.2.trans hm5) (And.intro hb5 hs5))
            clear hr hm5 hb5 hs5
            go_wp2_with fail
            go_roundw
            case rel =>
              refine ⟨i + 1, L.set i v, s5, by omega, by go_num, by simp [HL.out], HM5.out.2.1.put (by simp [i64s, List.map_set]), ?_, HR5.out.symm, HM5.out.1.setCell (.inr how) _⟩
              exact HM5.out.2.2.mod (S := (· = ob)) ((Mod.refl (· = ob) _).setCell (.inl rfl) _) (by omega) (by omega) (fun j hj e => hPo (e ▸ hj))
            case measure => simp [intOf]; omega
        · obtain rfl : i = c := by omega
          rw [Nat.sub_self] at hg4
          have hg5 : lvFin i (L, s4) = tg := hg4
          unfold lvFin at hg5
          have hin4 : IntsIn wr (some ⟨ob, 0, none⟩) 64 64 L := by
            have := (IntsOwn.whole (l := L) (B := ob) (Nat.le_refl _) hbl (by rw [HL.out]; unfold maxLen; omega)).in_
            rwa [HL.out] at this
          have U4 := lUnsort wr _ 64 L hin4
          by_cases hi0 : 0 < i
          · have d2 : decide ((0 : Int) < (i : Int)) = true := decide_eq_true (by omega)
            have p2 : (0 : Int) ≤ (i : Int) - 1 := by omega
            have p3 : (i : Int) - 1 < 64 := by omega
            have p4 : ((i : Int) - 1).toNat = i - 1 := by omega
            have p5 : (1 : Int) ≤ (i : Int) := by omega
            have k5 : wr.cell? ⟨ob, i - 1, none⟩ = some (.int .i64 (L.getD (i - 1) 0)) := by rw [hbl.cell]; simp [i64s, List.getD_eq_getElem?_getD, HL.out, show i - 1 < 64 by omega]
            generalize hlast : L.getD (i - 1) 0 = last at *
            by_cases hz : last = 0
            · subst hz
              have HR5 : Hid (tg = none) := by show _ = _; rw [← hg5, if_pos ⟨hi0, rfl⟩]
              have HM := Lib.hid hM4
              clear hg5 hg4 hM4 hbl hs4 hlast hin4 U4
              go_wp2_with fail
              go_ret2
              exact .inl ⟨HR5.out, 51, rfl, rfl, HM.out⟩
            · have d3 : (last == 0) = false := beq_eq_false_iff_ne.2 hz
              have HR5 : Hid (tg = some (unsortL L, s4)) := by show _ = _; rw [← hg5, if_neg (fun h => hz h.2)]
              have HM := Lib.hid (And.intro hM4 hs4)
              clear hg5 hg4 hM4 hbl hs4 hlast hin4
              go_wp2_with fail
              refine U4.mono ?_
              clear U4
              rintro e w6 ⟨ob6, rfl, hb6, ho6, hm6⟩
              have HM6 := Lib.hid (And.intro hb6 (And.intro ho6 hm6))
              clear hb6 ho6 hm6
              go_wp2_with fail
              go_ret2
              obtain ⟨hb6, ho6, hm6⟩ := HM6.out
              exact .inr ⟨_, s4, ob6, HR5.out, rfl, hb6, unsTo_length _ _, Nat.le_trans HM.out.1.size ho6, HM.out.2.mod hm6 (fun h => h) (fun h => h) (fun _ _ h => h), HM.out.1.trans (hm6.mono (fun _ h => h.elim))⟩
          · have d2 : decide ((0 : Int) < (i : Int)) = false := decide_eq_false (by omega)
            have HR5 : Hid (tg = some (unsortL L, s4)) := by show _ = _; rw [← hg5, if_neg (fun h => hi0 h.1)]
            have HM := Lib.hid (And.intro hM4 hs4)
            clear hg5 hg4 hM4 hbl hs4 hin4
            go_wp2_with fail
            refine U4.mono ?_
            clear U4
            rintro e w6 ⟨ob6, rfl, hb6, ho6, hm6⟩
            have HM6 := Lib.hid (And.intro hb6 (And.intro ho6 hm6))
            clear hb6 ho6 hm6
            go_wp2_with fail
            go_ret2
            obtain ⟨hb6, ho6, hm6⟩ := HM6.out
            exact .inr ⟨_, s4, ob6, HR5.out, rfl, hb6, unsTo_length _ _, Nat.le_trans HM.out.1.size ho6, HM.out.2.mod hm6 (fun h => h) (fun h => h) (fun _ _ h => h), HM.out.1.trans (hm6.mono (fun _ h => h.elim))⟩
end Go.Proofs.YtmkopcojnibhlaaGreatDoor

/-
  decoder: what is read, in memory; a vector.
-/
namespace Go.Proofs.YtmkopcojnibhlaaGreatDoor
open Go.RowKit

/-- A reading's cells: the header, its book and code, where it builds, what was ahead. -/
def rdV (K : Bool) (N Q : Int) (bk g fr dg : Nat) : Array Value :=
  #[.bool K, .int .i64 N, .int .i64 Q, .pointer (some ⟨bk, 0, none⟩), .pointer (some ⟨g, 0, none⟩), .pointer (some ⟨fr, 0, none⟩), .pointer (some ⟨fr, 3, none⟩), .pointer (some ⟨fr, 6, none⟩), .pointer (some ⟨dg, 4, none⟩), .pointer (some ⟨dg, 7, none⟩), .pointer (some ⟨dg, 10, none⟩)]
def vecTo : Nat → St → Int → Int → Option ((Int × Int) × St)
  | 0, s, a, b => some ((a, b), s)
  | n + 1, s, a, b => (ssigned (7 - n) s).bind fun x => if x.1 < -128 ∨ 128 < x.1 then none else vecTo n x.2 (if n = 1 then x.1 else a) (if n = 0 then x.1 else b)
theorem vecTo_2 (s : St) (a b : Int) : vecTo 2 s a b = (ssigned 6 s).bind fun x => if x.1 < -128 ∨ 128 < x.1 then none else vecTo 1 x.2 x.1 b := rfl
theorem vecTo_1 (s : St) (a b : Int) : vecTo 1 s a b = (ssigned 7 s).bind fun x => if x.1 < -128 ∨ 128 < x.1 then none else vecTo 0 x.2 a x.1 := rfl
/-- The next vector. -/
def svec (s : St) : Option ((Int × Int) × St) := vecTo 2 s 0 0
def VPost (w : World) (bk g : Nat) (P : Nat → Prop) (r : Option ((Int × Int) × St)) (e : Ending) (w' : World) : Prop :=
  (r = none ∧ ∃ er : Int, (er == 0) = false ∧ e = .returned (.tuple #[.agg #[.int .i64 0, .int .i64 0], .int .i64 er]) ∧ Mod (fun j => j = g ∨ j = bk) w w') ∨
  ∃ (a b : Int) (s' : St), r = some ((a, b), s') ∧ e = .returned (.tuple #[.agg #[.int .i64 a, .int .i64 b], .int .i64 0]) ∧ SAt w' bk g P s' ∧ Mod (fun j => j = g ∨ j = bk) w w'
def VRel (w : World) (bk g rb : Nat) (P : Nat → Prop) (rv : Array Value) (r : Option ((Int × Int) × St)) (s10 : Value) (wr : World) : Prop :=
  ∃ (k : Nat) (s : St) (a b : Int), k ≤ 2 ∧ s10 = .int .i64 (k : Int) ∧ SAt wr bk g P s ∧ vecTo (2 - k) s a b = r ∧
    Sat (fun j => j = g ∨ j = bk) w wr [⟨w.heap.size + 1, 24, #[.int .i64 a, .int .i64 b]⟩, ⟨w.heap.size, 156, #[.int .i64 0, .int .i64 0]⟩] [⟨rb, 217, rv⟩]

set_option maxRecDepth 100000 in
set_option maxHeartbeats 4000000 in
theorem dVector (w : World) (bk g rb fr dg : Nat) (P : Nat → Prop) (hPg : ¬ P g) (hPb : ¬ P bk) (hPw : ∀ j, P j → j < w.heap.size) (hgb : g ≠ bk) (K : Bool) (N Q : Int) (s : St) (h : SAt w bk g P s)
    (hr : Blk w rb 217 (rdV K N Q bk g fr dg)) (hrg : rb ≠ g) (hrb : rb ≠ bk) : Calls Tryz.prog 186 #[.pointer (some ⟨rb, 0, none⟩)] w (VPost w bk g P (svec s)) := by
  have hbw : bk < w.heap.size := h.1.lt
  have hgw : g < w.heap.size := by obtain ⟨_, _, _, hb, _⟩ := h.2.2; exact hb.lt
  have HS0 := ((Sat.one (fun j => j = g ∨ j = bk) hr).alloc 156 #[.int .i64 0, .int .i64 0] rfl).alloc (g := w.heap.size + 1) 24 #[.int .i64 0, .int .i64 0] (by simp)
  have h1 : SAt ((w.alloc (.cells #[.int .i64 0, .int .i64 0] 156)).alloc (.cells #[.int .i64 0, .int .i64 0] 24)) bk g P s := h.mod (((Mod.refl (fun _ => False) w).alloc _).alloc _) (fun h => h) (fun h => h) (fun _ _ h => h)
  have H0 := Lib.hid (And.intro HS0 (And.intro h1 hPw))
  clear HS0 h1 h hr hPw
  go_enter Tryz.func186, Tryz.ntmps186
  go_wp2_with fail
  go_loopw [10] (VRel w bk g rb P (rdV K N Q bk g fr dg) (svec s)) (fun s _ => 2 - (intOf s).toNat)
  case atStart => exact ⟨0, s, 0, 0, by omega, rfl, H0.out.2.1, rfl, H0.out.1⟩
  case round =>
    obtain ⟨k, s1, a, b, hk, rfl, hs1, hR, HS⟩ := hrel
    have hb0 := HS.old_ 0 rfl
    dsimp only at hb0
    have r3 : wr.cell? ⟨rb, 3, none⟩ = some (.pointer (some ⟨bk, 0, none⟩)) := hb0.cell 3
    have r4 : wr.cell? ⟨rb, 4, none⟩ = some (.pointer (some ⟨g, 0, none⟩)) := hb0.cell 4
    obtain ⟨vc, vf⟩ := (HS.own_ 0 rfl).both
    have vl := (HS.own_ 0 rfl).lt
    have hsz := HS.mod.size
    have HK := Lib.hid (And.intro HS (And.intro hs1 hR))
    clear HS hs1 hR hb0
    have i0 : ∀ w, (Instr.index 24 (.agg #[.int .i64 6, .int .i64 7]) (.int .i64 0)).run Tryz.prog w = .ok (.int .i64 6) w := fun _ => by kernel_rfl
    have i1 : ∀ w, (Instr.index 24 (.agg #[.int .i64 6, .int .i64 7]) (.int .i64 1)).run Tryz.prog w = .ok (.int .i64 7) w := fun _ => by kernel_rfl
    have hcs : k = 0 ∨ k = 1 ∨ k = 2 := by omega
    clear hk
    rcases hcs with rfl | rfl | rfl
    · go_upto_region 5 with (fail)
      refine wp_region_plan [9] [] [0, 1, 2, 3, 4, 5, 6, 7, 8, 9, 10, 11, 12, 13, 14] (by kernel_rfl) (by kernel_rfl) (fun _ _ _ d _ h => by cases d <;> exact h) ?_
      iterate 9 (refine plan_still rfl rfl (fun K hK => ?_); go_simp; refine hK _ ?_; clear hK K)
      refine plan_loud rfl rfl (fun K hK => ?_)
      go_simp
      refine (bookSigned _ bk g P hPg hPb (fun j hj => by have := H0.out.2.2 j hj; simp; omega) hgb s1 6 (by omega) (HK.out.2.1.mod ((Mod.refl (fun _ => False) _).drew) (fun h => h) (fun h => h) (fun _ _ h => h))).mono ?_
      rintro e w2 (⟨hr, er, her, rfl, hm⟩ | ⟨v, s2, hr, rfl, hs2, hm⟩)
      · have HS2 := Sat.beside hm HK.out.1.drew (fun _ h => .inl h) (by intro e he; simp only [List.mem_append, List.mem_cons, List.not_mem_nil, or_false] at he; rcases he with (rfl | rfl) | rfl <;> (dsimp only; omega))
        have hR0 : vecTo 2 s1 a b = svec s := HK.out.2.2
        rw [vecTo_2, hr] at hR0
        have hR : svec s = none := hR0.symm
        clear hR0
        have H2 := Lib.hid (And.intro HS2 hR)
        obtain ⟨rc, rf⟩ := (HS2.own_ 1 rfl).both
        have rl := (HS2.own_ 1 rfl).lt
        have her' : (er != 0) = true := by rw [bne, her]; rfl
        clear HS2 hR hm r3 r4 vc vf vl hr her i0 i1
        dsimp only []
        refine hK _ _ ?_
        clear hK K
        iterate 5 (refine plan_still rfl rfl (fun K hK => ?_); go_simp; refine hK _ ?_; clear hK K)
        refine plan_done ?_
        go_wp2_with fail
        have HE := (H2.out.1.put (g := w.heap.size) (i := 0) (u := .int .i64 0) (.there (.here rfl))).put (g := w.heap.size) (i := 1) (u := .int .i64 0) (.there (.here rfl))
        refine bodyPost_ret (v := .tuple #[.agg #[.int .i64 0, .int .i64 0], .int .i64 er]) (by simp [results, Tryz.results186, go_sem, rc]) rfl (.inl ⟨H2.out.2, er, by simpa using her', rfl, HE.mod⟩)
      · have HS2 := Sat.beside hm HK.out.1.drew (fun _ h => .inl h) (by intro e he; simp only [List.mem_append, List.mem_cons, List.not_mem_nil, or_false] at he; rcases he with (rfl | rfl) | rfl <;> (dsimp only; omega))
        have hle := ssigned_le hr
        obtain ⟨hl1, hl2⟩ := hle
        by_cases hv : v < -128 ∨ 128 < v
        · have hR0 : vecTo 2 s1 a b = svec s := HK.out.2.2
          rw [vecTo_2, hr] at hR0
          have hR0 : (if v < -128 ∨ 128 < v then none else vecTo 1 s2 v b) = svec s := hR0
          rw [if_pos hv] at hR0
          have hR := hR0.symm
          clear hR0
          have H2 := Lib.hid (And.intro HS2 hR)
          obtain ⟨rc, rf⟩ := (HS2.own_ 1 rfl).both
          have rl := (HS2.own_ 1 rfl).lt
          clear HS2 hR hm r3 r4 vc vf vl hr i0 i1 hs2
          dsimp only []
          refine hK _ _ ?_
          clear hK K
          iterate 5 (refine plan_still rfl rfl (fun K hK => ?_); go_simp; refine hK _ ?_; clear hK K)
          refine plan_done ?_
          have HE := (H2.out.1.put (g := w.heap.size) (i := 0) (u := .int .i64 0) (.there (.here rfl))).put (g := w.heap.size) (i := 1) (u := .int .i64 0) (.there (.here rfl))
          by_cases hv1 : v < -128
          · have d1 : decide (v < -128) = true := decide_eq_true hv1
            have HE := Lib.hid HE
            go_wp2_with fail
            refine bodyPost_ret (v := .tuple #[.agg #[.int .i64 0, .int .i64 0], .int .i64 132]) (by simp [results, Tryz.results186, go_sem, rc]) rfl (.inl ⟨H2.out.2, 132, rfl, rfl, HE.out.mod⟩)
          · have d1 : decide (v < -128) = false := decide_eq_false hv1
            have d2 : decide (128 < v) = true := decide_eq_true (by omega)
            have HE := Lib.hid HE
            go_wp2_with fail
            refine bodyPost_ret (v := .tuple #[.agg #[.int .i64 0, .int .i64 0], .int .i64 132]) (by simp [results, Tryz.results186, go_sem, rc]) rfl (.inl ⟨H2.out.2, 132, rfl, rfl, HE.out.mod⟩)
        · have hR0 : vecTo 2 s1 a b = svec s := HK.out.2.2
          rw [vecTo_2, hr] at hR0
          have hR0 : (if v < -128 ∨ 128 < v then none else vecTo 1 s2 v b) = svec s := hR0
          rw [if_neg hv] at hR0
          have hR := hR0
          clear hR0
          have d1 : decide (v < -128) = false := decide_eq_false (by omega)
          have d2 : decide (128 < v) = false := decide_eq_false (by omega)
          obtain ⟨vc, vf⟩ := (HS2.own_ 0 rfl).both
          have vl := (HS2.own_ 0 rfl).lt
          have H2 := Lib.hid (And.intro HS2 (And.intro hR hs2))
          clear HS2 hR hm r3 r4 hr i0 i1 hs2 hv
          dsimp only []
          refine hK _ _ ?_
          clear hK K
          iterate 5 (refine plan_still rfl rfl (fun K hK => ?_); go_simp; refine hK _ ?_; clear hK K)
          refine plan_done ?_
          go_wp2_with fail
          go_roundw
          case rel =>
            have HE := H2.out.1.put (g := w.heap.size + 1) (i := 0) (u := .int .i64 v) (.here rfl)
            have hm2 := HE.mod
            exact ⟨1, s2, v, b, by omega, rfl, H2.out.2.2.mod ((Mod.refl (· = w.heap.size + 1) _).setCell (p := ⟨w.heap.size + 1, 0, none⟩) (.inl rfl) _) (by omega) (by omega) (fun j hj e => by have := H0.out.2.2 j hj; omega), H2.out.2.1, HE⟩
          case measure => simp [intOf]
    · go_upto_region 5 with (fail)
      refine wp_region_plan [9] [] [0, 1, 2, 3, 4, 5, 6, 7, 8, 9, 10, 11, 12, 13, 14] (by kernel_rfl) (by kernel_rfl) (fun _ _ _ d _ h => by cases d <;> exact h) ?_
      iterate 9 (refine plan_still rfl rfl (fun K hK => ?_); go_simp; refine hK _ ?_; clear hK K)
      refine plan_loud rfl rfl (fun K hK => ?_)
      go_simp
      refine (bookSigned _ bk g P hPg hPb (fun j hj => by have := H0.out.2.2 j hj; simp; omega) hgb s1 7 (by omega) (HK.out.2.1.mod ((Mod.refl (fun _ => False) _).drew) (fun h => h) (fun h => h) (fun _ _ h => h))).mono ?_
      rintro e w2 (⟨hr, er, her, rfl, hm⟩ | ⟨v, s2, hr, rfl, hs2, hm⟩)
      · have HS2 := Sat.beside hm HK.out.1.drew (fun _ h => .inl h) (by intro e he; simp only [List.mem_append, List.mem_cons, List.not_mem_nil, or_false] at he; rcases he with (rfl | rfl) | rfl <;> (dsimp only; omega))
        have hR0 : vecTo 1 s1 a b = svec s := HK.out.2.2
        rw [vecTo_1, hr] at hR0
        have hR : svec s = none := hR0.symm
        clear hR0
        have H2 := Lib.hid (And.intro HS2 hR)
        obtain ⟨rc, rf⟩ := (HS2.own_ 1 rfl).both
        have rl := (HS2.own_ 1 rfl).lt
        have her' : (er != 0) = true := by rw [bne, her]; rfl
        clear HS2 hR hm r3 r4 vc vf vl hr her i0 i1
        dsimp only []
        refine hK _ _ ?_
        clear hK K
        iterate 5 (refine plan_still rfl rfl (fun K hK => ?_); go_simp; refine hK _ ?_; clear hK K)
        refine plan_done ?_
        go_wp2_with fail
        have HE := (H2.out.1.put (g := w.heap.size) (i := 0) (u := .int .i64 0) (.there (.here rfl))).put (g := w.heap.size) (i := 1) (u := .int .i64 0) (.there (.here rfl))
        refine bodyPost_ret (v := .tuple #[.agg #[.int .i64 0, .int .i64 0], .int .i64 er]) (by simp [results, Tryz.results186, go_sem, rc]) rfl (.inl ⟨H2.out.2, er, by simpa using her', rfl, HE.mod⟩)
      · have HS2 := Sat.beside hm HK.out.1.drew (fun _ h => .inl h) (by intro e he; simp only [List.mem_append, List.mem_cons, List.not_mem_nil, or_false] at he; rcases he with (rfl | rfl) | rfl <;> (dsimp only; omega))
        have hle := ssigned_le hr
        obtain ⟨hl1, hl2⟩ := hle
        by_cases hv : v < -128 ∨ 128 < v
        · have hR0 : vecTo 1 s1 a b = svec s := HK.out.2.2
          rw [vecTo_1, hr] at hR0
          have hR0 : (if v < -128 ∨ 128 < v then none else vecTo 0 s2 a v) = svec s := hR0
          rw [if_pos hv] at hR0
          have hR := hR0.symm
          clear hR0
          have H2 := Lib.hid (And.intro HS2 hR)
          obtain ⟨rc, rf⟩ := (HS2.own_ 1 rfl).both
          have rl := (HS2.own_ 1 rfl).lt
          clear HS2 hR hm r3 r4 vc vf vl hr i0 i1 hs2
          dsimp only []
          refine hK _ _ ?_
          clear hK K
          iterate 5 (refine plan_still rfl rfl (fun K hK => ?_); go_simp; refine hK _ ?_; clear hK K)
          refine plan_done ?_
          have HE := (H2.out.1.put (g := w.heap.size) (i := 0) (u := .int .i64 0) (.there (.here rfl))).put (g := w.heap.size) (i := 1) (u := .int .i64 0) (.there (.here rfl))
          by_cases hv1 : v < -128
          · have d1 : decide (v < -128) = true := decide_eq_true hv1
            have HE := Lib.hid HE
            go_wp2_with fail
            refine bodyPost_ret (v := .tuple #[.agg #[.int .i64 0, .int .i64 0], .int .i64 132]) (by simp [results, Tryz.results186, go_sem, rc]) rfl (.inl ⟨H2.out.2, 132, rfl, rfl, HE.out.mod⟩)
          · have d1 : decide (v < -128) = false := decide_eq_false hv1
            have d2 : decide (128 < v) = true := decide_eq_true (by omega)
            have HE := Lib.hid HE
            go_wp2_with fail
            refine bodyPost_ret (v := .tuple #[.agg #[.int .i64 0, .int .i64 0], .int .i64 132]) (by simp [results, Tryz.results186, go_sem, rc]) rfl (.inl ⟨H2.out.2, 132, rfl, rfl, HE.out.mod⟩)
        · have hR0 : vecTo 1 s1 a b = svec s := HK.out.2.2
          rw [vecTo_1, hr] at hR0
          have hR0 : (if v < -128 ∨ 128 < v then none else vecTo 0 s2 a v) = svec s := hR0
          rw [if_neg hv] at hR0
          have hR := hR0
          clear hR0
          have d1 : decide (v < -128) = false := decide_eq_false (by omega)
          have d2 : decide (128 < v) = false := decide_eq_false (by omega)
          obtain ⟨vc, vf⟩ := (HS2.own_ 0 rfl).both
          have vl := (HS2.own_ 0 rfl).lt
          have H2 := Lib.hid (And.intro HS2 (And.intro hR hs2))
          clear HS2 hR hm r3 r4 hr i0 i1 hs2 hv
          dsimp only []
          refine hK _ _ ?_
          clear hK K
          iterate 5 (refine plan_still rfl rfl (fun K hK => ?_); go_simp; refine hK _ ?_; clear hK K)
          refine plan_done ?_
          go_wp2_with fail
          go_roundw
          case rel =>
            have HE := H2.out.1.put (g := w.heap.size + 1) (i := 1) (u := .int .i64 v) (.here rfl)
            have hm2 := HE.mod
            exact ⟨2, s2, a, v, by omega, rfl, H2.out.2.2.mod ((Mod.refl (· = w.heap.size + 1) _).setCell (p := ⟨w.heap.size + 1, 1, none⟩) (.inl rfl) _) (by omega) (by omega) (fun j hj e => by have := H0.out.2.2 j hj; omega), H2.out.2.1, HE⟩
          case measure => simp [intOf]
    · obtain ⟨rc, rf⟩ := (HK.out.1.own_ 1 rfl).both
      have rl := (HK.out.1.own_ 1 rfl).lt
      clear i0 i1 r3 r4
      go_wp2_with fail
      have HE := (HK.out.1.put (g := w.heap.size) (i := 0) (u := .int .i64 a) (.there (.here rfl))).put (g := w.heap.size) (i := 1) (u := .int .i64 b) (.there (.here rfl))
      refine bodyPost_ret (v := .tuple #[.agg #[.int .i64 a, .int .i64 b], .int .i64 0]) (by simp [results, Tryz.results186, go_sem, rc]) rfl (.inr ⟨a, b, s1, HK.out.2.2.symm, rfl, ?_, HE.mod⟩)
      exact HK.out.2.1.mod (((Mod.refl (· = w.heap.size) _).setCell (p := ⟨w.heap.size, 0, none⟩) (.inl rfl) _).setCell (p := ⟨w.heap.size, 1, none⟩) (.inl rfl) _) (by omega) (by omega) (fun j hj e => by have := H0.out.2.2 j hj; omega)
end Go.Proofs.YtmkopcojnibhlaaGreatDoor
