/-
  quant.Get of 64.
-/
import Derived.Test.YteppnjgfebcmjaaGreatM28
import Derived.Test.YteppnjgfebcmjaaGreatM32
import Derived.Test.YteppnjgfebcmjaaGreatM2
namespace Go.Proofs.YteppnjgfebcmjaaGreat
open Go.RowKit

def lvTo (t : Nat) : Nat → Nat → List Int → St → Option (List Int × St)
  | 0, _, L, s => some (L, s)
  | m + 1, i, L, s => (ssigned (t + 1) s).bind fun x => lvTo t m (i + 1) (L.set i x.1) x.2
def lvFin (c : Nat) (y : List Int × St) : Option (List Int × St) := if 0 < c ∧ y.1.getD (c - 1) 0 = 0 then none else some (unsortL y.1, y.2)
/-- The next block of 64 levels. -/
def sblock (t : Nat) (s : St) : Option (List Int × St) := (snum t s).bind fun c => if 64 < c.1 then none else (lvTo t c.1 0 (List.replicate 64 0) c.2).bind (lvFin c.1)
theorem lvTo_length (t : Nat) (m : Nat) : ∀ (i : Nat) (L : List Int) (s : St) (L' : List Int) (s' : St), lvTo t m i L s = some (L', s') → L'.length = L.length := by
  induction m with
  | zero => intro i L s L' s' h; simp [lvTo] at h; rw [h.1]
  | succ m ih =>
    intro i L s L' s' h
    simp only [lvTo, Option.bind_eq_some_iff] at h
    obtain ⟨x, _, h2⟩ := h
    have := ih _ _ _ _ _ h2
    simpa using this

def QGetPost (w : World) (bk g : Nat) (P : Nat → Prop) (r : Option (List Int × St)) (e : Ending) (w' : World) : Prop :=
  (r = none ∧ ∃ er : Int, (er == 0) = false ∧ e = .returned (.tuple #[.slice none 0 0, .int .i64 er]) ∧ Mod (fun j => j = g ∨ j = bk) w w') ∨
  ∃ l s' ob, r = some (l, s') ∧ e = .returned (.tuple #[.slice (some ⟨ob, 0, none⟩) 64 64, .int .i64 0]) ∧ Blk w' ob 3 (i64s l).toArray ∧ l.length = 64 ∧ w.heap.size ≤ ob ∧ SAt w' bk g P s' ∧ Mod (fun j => j = g ∨ j = bk) w w'
def LvRel (w : World) (bk g ob : Nat) (P : Nat → Prop) (t c : Nat) (r : Option (List Int × St)) (v49 : Value) (wr : World) : Prop :=
  ∃ (i : Nat) (L : List Int) (s : St), i ≤ c ∧ v49 = .int .i64 (i : Int) ∧ L.length = 64 ∧ Blk wr ob 3 (i64s L).toArray ∧ SAt wr bk g P s ∧ (lvTo t (c - i) i L s).bind (lvFin c) = r ∧ Mod (fun j => j = g ∨ j = bk) w wr

set_option maxRecDepth 100000 in
set_option maxHeartbeats 4000000 in
theorem qGet (w : World) (bk g : Nat) (P : Nat → Prop) (hPg : ¬ P g) (hPb : ¬ P bk) (hPw : ∀ j, P j → j < w.heap.size) (hgb : g ≠ bk) (s : St) (t : Nat) (ht : t < 15) (h : SAt w bk g P s) :
    Calls Tryz.prog 137 #[.pointer (some ⟨bk, 0, none⟩), .pointer (some ⟨g, 0, none⟩), .int .i64 (t : Int), .int .i64 64] w (QGetPost w bk g P (sblock t s)) := by
  have hbw : bk < w.heap.size := h.1.lt
  have hgw : g < w.heap.size := by obtain ⟨_, _, _, hb, _⟩ := h.2.2; exact hb.lt
  have N1 := bookGet w bk g P hPg hPb hPw hgb s t (by omega) h
  obtain ⟨tg, htg⟩ : ∃ tg, tg = sblock t s := ⟨_, rfl⟩
  rw [← htg]
  unfold sblock at htg
  have HT := Lib.hid (And.intro htg hPw)
  clear htg h hPw
  have p0 : decide ((t : Int) < 0) = false := decide_eq_false (by omega)
  have p1 : decide (15 ≤ (t : Int)) = false := decide_eq_false (by omega)
  go_enter Tryz.func137, Tryz.ntmps137
  go_wp2_with fail
  refine (quantSide _ 64 (by omega)).mono ?_
  rintro e w1 ⟨rfl, rfl⟩
  rw [show ((sideOf 64 : Nat) : Int) = 8 from rfl]
  go_wp2_with fail
  refine N1.mono ?_
  clear N1
  rintro e w2 (⟨hr, er, her, rfl, hm⟩ | ⟨c, s2, hr, rfl, hs, hm⟩)
  · have her2 : (er != 0) = true := by simp [bne, her]
    have HR : Hid (tg = none) := by show _ = _; rw [HT.out.1, hr]; rfl
    have HH := Lib.hid (And.intro her hm)
    clear hr her hm
    go_wp2_with fail
    go_ret2
    exact .inl ⟨HR.out, er, HH.out.1, rfl, HH.out.2⟩
  · have hcb := snum_le hr
    by_cases hbig : 64 < c
    · have d1 : decide ((64 : Int) < (c : Int)) = true := decide_eq_true (by omega)
      have HR : Hid (tg = none) := by show _ = _; rw [HT.out.1, hr]; exact if_pos hbig
      have HH := Lib.hid hm
      clear hr hs hm
      go_wp2_with fail
      go_ret2
      exact .inl ⟨HR.out, 51, rfl, rfl, HH.out⟩
    · have d1 : decide ((64 : Int) < (c : Int)) = false := decide_eq_false (by omega)
      have HR : Hid (tg = (lvTo t c 0 (List.replicate 64 0) s2).bind (lvFin c)) := by show _ = _; rw [HT.out.1, hr]; exact if_neg hbig
      have HH := Lib.hid (And.intro hs hm)
      clear hr hs hm
      go_wp2_with (refine wpList_mk_int _ rfl (.tmp 46) (.tmp 46) rfl 64 rfl rfl (by omega) ?_; intro w3 hb3 hm3; have HO := Lib.hid (And.intro hb3 hm3); clear hb3 hm3)
      have hs3 := HH.out.1.mod HO.out.2 (fun h => h) (fun h => h) (fun _ _ h => h)
      have M3 := HH.out.2.trans (HO.out.2.mono (fun _ h => h.elim))
      have how : w.heap.size ≤ w2.heap.size := HH.out.2.size
      obtain ⟨ob, hobe⟩ : ∃ ob, ob = w2.heap.size := ⟨_, rfl⟩
      have hb3 := HO.out.1
      rw [← hobe] at hb3 how ⊢
      have HB3 := Lib.hid (And.intro hb3 (And.intro hs3 M3))
      clear hb3 hs3 M3 HO hobe
      go_loopw [49] (LvRel w bk g ob P t c tg) (fun i _ => c - (intOf i).toNat)
      case atStart => exact ⟨0, List.replicate 64 0, s2, by omega, rfl, by simp, HB3.out.1, HB3.out.2.1, HR.out.symm, HB3.out.2.2⟩
      case round =>
        clear HB3 HR
        obtain ⟨i, L, s4, hi, rfl, hL, hbl, hs4, hg4, hM4⟩ := hrel
        have HPW := Lib.hid (fun j hj => Nat.lt_of_lt_of_le (HT.out.2 j hj) hM4.size)
        have hl := hbl.lt
        have HL := Lib.hid hL
        clear hL
        by_cases hlt : i < c
        · have hge : (lvTo t (c - i) i L s4).bind (lvFin c) = (ssigned (t + 1) s4).bind fun x => (lvTo t (c - (i + 1)) (i + 1) (L.set i x.1) x.2).bind (lvFin c) := by
            rw [show c - i = (c - (i + 1)) + 1 by omega]
            simp only [lvTo, Option.bind_assoc]
          rw [hg4] at hge
          have S1 := bookSigned wr bk g P hPg hPb HPW.out hgb s4 (t + 1) (by omega) hs4
          have q1 : ((t + 1 : Nat) : Int) = (t : Int) + 1 := by omega
          rw [q1] at S1
          have HG := Lib.hid (And.intro hge (And.intro hbl hM4))
          clear hge hg4 hbl hM4 hs4 q1
          go_wp2_with fail
          refine S1.mono ?_
          clear S1
          rintro e w5 (⟨hr, er, her, rfl, hm5⟩ | ⟨v, s5, hr, rfl, hs5, hm5⟩)
          · have her2 : (er != 0) = true := by simp [bne, her]
            have HR5 : Hid (tg = none) := by show _ = _; rw [HG.out.1, hr]; rfl
            have hb5 := HG.out.2.1.keep hm5 (fun h => by omega)
            have p2 : (0 : Int) ≤ (i : Int) := by omega
            have p3 : (i : Int) < 64 := by omega
            have k5 : w5.cell? ⟨ob, i, none⟩ = some (.int .i64 (L.getD i 0)) := by rw [hb5.cell]; simp [i64s, List.getD_eq_getElem?_getD, HL.out, show i < 64 by omega]
            have f5 := hb5.frozen i
            have hl5 := hb5.lt
            have HM5 := Lib.hid (And.intro (HG.out.2.2.trans hm5) her)
            clear hr hm5 her hb5
            go_wp2_with fail
            go_ret2
            exact .inl ⟨HR5.out, er, HM5.out.2, rfl, HM5.out.1.setCell (.inr how) _⟩
          · have HR5 : Hid (tg = (lvTo t (c - (i + 1)) (i + 1) (L.set i v) s5).bind (lvFin c)) := by show _ = _; rw [HG.out.1, hr]; rfl
            have hb5 := HG.out.2.1.keep hm5 (fun h => by omega)
            have p2 : (0 : Int) ≤ (i : Int) := by omega
            have p3 : (i : Int) < 64 := by omega
            have k5 : w5.cell? ⟨ob, i, none⟩ = some (.int .i64 (L.getD i 0)) := by rw [hb5.cell]; simp [i64s, List.getD_eq_getElem?_getD, HL.out, show i < 64 by omega]
            have f5 := hb5.frozen i
            have hl5 := hb5.lt
            have hPo : ¬ P ob := fun hp => by have := HT.out.2 ob hp; omega
            have HM5 := Lib.hid (And.intro (HG.out.2.2.trans hm5) (And.intro hb5 hs5))
            clear hr hm5 hb5 hs5
            go_wp2_with fail
            go_roundw
            case rel =>
              refine ⟨i + 1, L.set i v, s5, by omega, by go_num, by simp [HL.out], HM5.out.2.1.put (by simp [i64s, List.map_set]), ?_, HR5.out.symm, HM5.out.1.setCell (.inr how) _⟩
              exact HM5.out.2.2.mod (S := (· = ob)) ((Mod.refl (· = ob) _).setCell (.inl rfl) _) (by omega) (by omega) (fun j hj e => hPo (e ▸ hj))
            case measure => simp [intOf]; omega
        · obtain rfl : i = c := by omega
          rw [Nat.sub_self] at hg4
          have hg5 : lvFin i (L, s4) = tg := hg4
          unfold lvFin at hg5
          have hin4 : IntsIn wr (some ⟨ob, 0, none⟩) 64 64 L := by
            have := (IntsOwn.whole (l := L) (B := ob) (Nat.le_refl _) hbl (by rw [HL.out]; unfold maxLen; omega)).in_
            rwa [HL.out] at this
          have U4 := lUnsort wr _ 64 L hin4
          by_cases hi0 : 0 < i
          · have d2 : decide ((0 : Int) < (i : Int)) = true := decide_eq_true (by omega)
            have p2 : (0 : Int) ≤ (i : Int) - 1 := by omega
            have p3 : (i : Int) - 1 < 64 := by omega
            have p4 : ((i : Int) - 1).toNat = i - 1 := by omega
            have p5 : (1 : Int) ≤ (i : Int) := by omega
            have k5 : wr.cell? ⟨ob, i - 1, none⟩ = some (.int .i64 (L.getD (i - 1) 0)) := by rw [hbl.cell]; simp [i64s, List.getD_eq_getElem?_getD, HL.out, show i - 1 < 64 by omega]
            generalize hlast : L.getD (i - 1) 0 = last at *
            by_cases hz : last = 0
            · subst hz
              have HR5 : Hid (tg = none) := by show _ = _; rw [← hg5, if_pos ⟨hi0, rfl⟩]
              have HM := Lib.hid hM4
              clear hg5 hg4 hM4 hbl hs4 hlast hin4 U4
              go_wp2_with fail
              go_ret2
              exact .inl ⟨HR5.out, 51, rfl, rfl, HM.out⟩
            · have d3 : (last == 0) = false := beq_eq_false_iff_ne.2 hz
              have HR5 : Hid (tg = some (unsortL L, s4)) := by show _ = _; rw [← hg5, if_neg (fun h => hz h.2)]
              have HM := Lib.hid (And.intro hM4 hs4)
              clear hg5 hg4 hM4 hbl hs4 hlast hin4
              go_wp2_with fail
              refine U4.mono ?_
              clear U4
              rintro e w6 ⟨ob6, rfl, hb6, ho6, hm6⟩
              have HM6 := Lib.hid (And.intro hb6 (And.intro ho6 hm6))
              clear hb6 ho6 hm6
              go_wp2_with fail
              go_ret2
              obtain ⟨hb6, ho6, hm6⟩ := HM6.out
              exact .inr ⟨_, s4, ob6, HR5.out, rfl, hb6, unsTo_length _ _, Nat.le_trans HM.out.1.size ho6, HM.out.2.mod hm6 (fun h => h) (fun h => h) (fun _ _ h => h), HM.out.1.trans (hm6.mono (fun _ h => h.elim))⟩
          · have d2 : decide ((0 : Int) < (i : Int)) = false := decide_eq_false (by omega)
            have HR5 : Hid (tg = some (unsortL L, s4)) := by show _ = _; rw [← hg5, if_neg (fun h => hi0 h.1)]
            have HM := Lib.hid (And.intro hM4 hs4)
            clear hg5 hg4 hM4 hbl hs4 hin4
            go_wp2_with fail
            refine U4.mono ?_
            clear U4
            rintro e w6 ⟨ob6, rfl, hb6, ho6, hm6⟩
            have HM6 := Lib.hid (And.intro hb6 (And.intro ho6 hm6))
            clear hb6 ho6 hm6
            go_wp2_with fail
            go_ret2
            obtain ⟨hb6, ho6, hm6⟩ := HM6.out
            exact .inr ⟨_, s4, ob6, HR5.out, rfl, hb6, unsTo_length _ _, Nat.le_trans HM.out.1.size ho6, HM.out.2.mod hm6 (fun h => h) (fun h => h) (fun _ _ h => h), HM.out.1.trans (hm6.mono (fun _ h => h.elim))⟩
end Go.Proofs.YteppnjgfebcmjaaGreat
