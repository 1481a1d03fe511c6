/-
  The reference's book: GetSigned, GetOne of 3 and of 4.
-/
import Derived.Test.YteppnjgfebcmjaaGreatM35
import Derived.Test.YteppnjgfebcmjaaGreatM26
namespace Go.Proofs.YteppnjgfebcmjaaGreat
open Go.RowKit

def FSPostI (w : World) (bk g : Nat) (P : Nat → Prop) (r : Option (Int × St)) (e : Ending) (w' : World) : Prop :=
  (r = none ∧ ∃ er : Int, (er == 0) = false ∧ e = .returned (.tuple #[.int .i64 0, .int .i64 er]) ∧ Mod (fun j => j = g ∨ j = bk) w w') ∨
  ∃ v s', r = some (v, s') ∧ e = .returned (.tuple #[.int .i64 v, .int .i64 0]) ∧ RSAt w' bk g P s' ∧ Mod (fun j => j = g ∨ j = bk) w w'
set_option maxRecDepth 100000 in
set_option maxHeartbeats 8000000 in
theorem fBookSigned (w : World) (bk g : Nat) (P : Nat → Prop) (hPg : ¬ P g) (hPb : ¬ P bk) (hgb : g ≠ bk) (s : St) (t : Nat) (ht : t < 16) (h : RSAt w bk g P s) :
    Calls Tryz.prog 113 #[.pointer (some ⟨bk, 0, none⟩), .pointer (some ⟨g, 0, none⟩), .int .i64 (t : Int)] w (FSPostI w bk g P (ssigned t s)) := by
  have G1 := Lib.hid (fBookNum w bk g P hPg hPb hgb s t ht h)
  clear h
  go_enter Tryz.func113, Tryz.ntmps113
  go_wp2_with fail
  refine G1.out.mono ?_
  rintro e w1 (⟨hr, er, her, rfl, hm1⟩ | ⟨v, s1, hr, rfl, hs1, hm1⟩)
  · have her2 : (er != 0) = true := by simp [bne, her]
    have HR := Lib.hid (And.intro (show ssigned t s = none by unfold ssigned; rw [hr]; rfl) (And.intro her hm1))
    clear hr hm1 her
    go_wp2_with fail
    go_ret2
    exact .inl ⟨HR.out.1, er, HR.out.2.1, rfl, HR.out.2.2⟩
  · have hvl := snum_le hr
    by_cases hv0 : v = 0
    · subst hv0
      have HR := Lib.hid (And.intro (show ssigned t s = some (0, s1) by unfold ssigned; rw [hr]; rfl) (And.intro hs1 hm1))
      clear hr hm1 hs1 hvl
      go_wp2_with fail
      go_ret2
      exact .inr ⟨0, s1, HR.out.1, rfl, HR.out.2.1, HR.out.2.2⟩
    · have d1 : ((v : Int) == 0) = false := by simp; exact hv0
      have G2 := Lib.hid (fBookGet w1 bk g P hPg hgb s1 t 36 ht (by omega) hPb hs1)
      have hse : ssigned t s = (sget s1 (t * 37 + 36)).map fun y => (if y.1 = 1 then -(v : Int) else (v : Int), y.2) := by
        unfold ssigned
        rw [hr]
        dsimp only [Option.bind_some]
        rw [if_neg hv0]
      have HR := Lib.hid (And.intro hse hm1)
      clear hr hm1 hs1 hse
      go_wp2_with fail
      refine G2.out.mono ?_
      rintro e w2 (⟨hr, er, her, rfl, hm2⟩ | ⟨b, s2, hr, rfl, hs2, hm2⟩)
      · have her2 : (er != 0) = true := by simp [bne, her]
        have HF := Lib.hid (And.intro (show ssigned t s = none by rw [HR.out.1, hr]; rfl) (And.intro her (HR.out.2.trans hm2)))
        clear hr hm2 her
        go_wp2_with fail
        go_ret2
        exact .inl ⟨HF.out.1, er, HF.out.2.1, rfl, HF.out.2.2⟩
      · have hb := sget_bit hr
        have HF := Lib.hid (And.intro (show ssigned t s = some (if b = 1 then -(v : Int) else (v : Int), s2) by rw [HR.out.1, hr]; rfl) (And.intro hs2 (HR.out.2.trans hm2)))
        clear hr hm2 hs2
        by_cases hb1 : b = 1
        · subst hb1
          go_wp2_with fail
          go_ret2
          exact .inr ⟨_, s2, HF.out.1, rfl, HF.out.2.1, HF.out.2.2⟩
        · obtain rfl : b = 0 := by omega
          go_wp2_with fail
          go_ret2
          exact .inr ⟨_, s2, HF.out.1, rfl, HF.out.2.1, HF.out.2.2⟩
def FWRel (v3 v4 : Value) (wr w : World) : Prop := ((v3 = .int .i64 0 ∧ (v4 = .int .i64 2 ∨ v4 = .int .i64 3)) ∨ (v3 = .int .i64 1 ∧ v4 = .int .i64 1) ∨ (v3 = .int .i64 2 ∧ v4 = .int .i64 0)) ∧ wr = w
set_option maxRecDepth 100000 in
theorem fWidth (w : World) (n : Nat) (hn : n = 3 ∨ n = 4) : Calls Tryz.prog 141 #[.int .i64 (n : Int)] w fun e w' => e = .returned (.int .i64 2) ∧ w = w' := by
  have h4 : ((n : Int) - 1 = 2 ∨ (n : Int) - 1 = 3) := by omega
  rcases hn with rfl | rfl
  · go_enter Tryz.func141, Tryz.ntmps141
    go_wp2_with fail
    go_loopw [3, 4] (fun a b wr => FWRel a b wr w) (fun _ b _ => (intOf b).toNat)
    case atStart => exact ⟨.inl ⟨rfl, .inl rfl⟩, rfl⟩
    case round =>
      rename World => wr
      obtain ⟨⟨rfl, rfl | rfl⟩ | ⟨rfl, rfl⟩ | ⟨rfl, rfl⟩, rfl⟩ := hrel
      · go_wp2_with fail
        go_roundw
        case rel => exact ⟨.inr (.inl ⟨rfl, rfl⟩), rfl⟩
        case measure => simp [intOf]
      · go_wp2_with fail
        go_roundw
        case rel => exact ⟨.inr (.inl ⟨rfl, rfl⟩), rfl⟩
        case measure => simp [intOf]
      · go_wp2_with fail
        go_roundw
        case rel => exact ⟨.inr (.inr ⟨rfl, rfl⟩), rfl⟩
        case measure => simp [intOf]
      · go_wp2_with fail
        go_ret
        exact ⟨rfl, rfl⟩
  · go_enter Tryz.func141, Tryz.ntmps141
    go_wp2_with fail
    go_loopw [3, 4] (fun a b wr => FWRel a b wr w) (fun _ b _ => (intOf b).toNat)
    case atStart => exact ⟨.inl ⟨rfl, .inr rfl⟩, rfl⟩
    case round =>
      rename World => wr
      obtain ⟨⟨rfl, rfl | rfl⟩ | ⟨rfl, rfl⟩ | ⟨rfl, rfl⟩, rfl⟩ := hrel
      · go_wp2_with fail
        go_roundw
        case rel => exact ⟨.inr (.inl ⟨rfl, rfl⟩), rfl⟩
        case measure => simp [intOf]
      · go_wp2_with fail
        go_roundw
        case rel => exact ⟨.inr (.inl ⟨rfl, rfl⟩), rfl⟩
        case measure => simp [intOf]
      · go_wp2_with fail
        go_roundw
        case rel => exact ⟨.inr (.inr ⟨rfl, rfl⟩), rfl⟩
        case measure => simp [intOf]
      · go_wp2_with fail
        go_ret
        exact ⟨rfl, rfl⟩
end Go.Proofs.YteppnjgfebcmjaaGreat

/-
  The reference's book: GetOne of 3 and of 4.
-/
namespace Go.Proofs.YteppnjgfebcmjaaGreat
open Go.RowKit

def FOneRel (w : World) (bk g : Nat) (P : Nat → Prop) (t n : Nat) (r : Option (Nat × St)) (v11 v13 : Value) (wr : World) : Prop :=
  ∃ (i ahead : Nat) (s : St), i ≤ 2 ∧ ahead < 2 ^ i ∧ v11 = .int .i64 ((ahead : Nat) : Int) ∧ v13 = .int .i64 (i : Int) ∧ RSAt wr bk g P s ∧ ((glow t (2 - i) i ahead s).bind fun y => if n ≤ y.1 then none else some y) = r ∧ Mod (fun j => j = g ∨ j = bk) w wr
set_option maxRecDepth 100000 in
set_option maxHeartbeats 8000000 in
theorem fBookOne (w : World) (bk g : Nat) (P : Nat → Prop) (hPg : ¬ P g) (hPb : ¬ P bk) (hgb : g ≠ bk) (s : St) (t n : Nat) (ht : t < 16) (hn : n = 3 ∨ n = 4) (h : RSAt w bk g P s) :
    Calls Tryz.prog 112 #[.pointer (some ⟨bk, 0, none⟩), .pointer (some ⟨g, 0, none⟩), .int .i64 (t : Int), .int .i64 (n : Int)] w (FSPost w bk g P (sone t n s)) := by
  obtain ⟨tg, htg⟩ : ∃ tg, tg = sone t n s := ⟨_, rfl⟩
  rw [← htg]
  have HH := Lib.hid (And.intro h htg)
  have HW := Lib.hid fun w => fWidth w n hn
  have hn1 : 3 ≤ n ∧ n ≤ 4 := by omega
  obtain ⟨hn3, hn4⟩ := hn1
  have d1 : decide ((n : Int) < 1) = false := decide_eq_false (by omega)
  have d2 : decide ((16 : Int) < (n : Int)) = false := decide_eq_false (by omega)
  clear h htg hn
  go_enter Tryz.func112, Tryz.ntmps112
  go_wp2_with fail
  refine (fTopic _ t ht).mono ?_
  rintro e w0 ⟨rfl, rfl⟩
  go_wp2_with fail
  refine (HW.out _).mono ?_
  rintro e w0 ⟨rfl, rfl⟩
  go_wp2_with fail
  go_loopw [11, 13] (FOneRel w bk g P t n tg) (fun _ i _ => 2 - (intOf i).toNat)
  case atStart => exact ⟨0, 0, s, by omega, by simp, rfl, rfl, HH.out.1, HH.out.2.symm, Mod.refl _ _⟩
  case round =>
    rename World => wq
    obtain ⟨i, ahead, s4, hi, ha, rfl, rfl, hs4, hg4, hM4⟩ := hrel
    have hp4 : 2 ^ i ≤ 4 := Nat.pow_le_pow_right (n := 2) (by omega) (show i ≤ 2 by omega)
    by_cases hin : i < 2
    · have d5 : decide ((i : Int) < 2) = true := decide_eq_true (by omega)
      obtain ⟨pl, hpl, ⟨hpl1, hpl2⟩, hG⟩ := fLow wq bk g P hPg hPb hgb s4 t i ahead ht (by omega) ha hs4
      have hge : glow t (2 - i) i ahead s4 = (slow s4 t i ahead).bind fun x => glow t (2 - (i + 1)) (i + 1) (2 * ahead + x.1) x.2 := by
        rw [show 2 - i = (2 - (i + 1)) + 1 by omega]
        rfl
      rw [hge] at hg4
      have ha4 : ahead < 4 := by omega
      have HK := Lib.hid (And.intro hpl (And.intro hG (And.intro hg4 (And.intro hM4 ha))))
      clear hpl hG hg4 hM4 hs4 hge hp4 ha
      go_wp2_with fail
      refine (HK.out.1 _).mono ?_
      rintro e w5 ⟨rfl, rfl⟩
      go_wp2_with fail
      refine HK.out.2.1.mono ?_
      rintro e w6 (⟨hr, er, her, rfl, hm6⟩ | ⟨b, s6, hr, rfl, hs6, hm6⟩)
      · have her2 : (er != 0) = true := by simp [bne, her]
        have hno : tg = none := by rw [← HK.out.2.2.1, hr]; rfl
        have HR := Lib.hid (And.intro hno (And.intro her (HK.out.2.2.2.1.trans hm6)))
        clear hr hm6 her hno
        go_wp2_with fail
        go_ret2
        exact .inl ⟨HR.out.1, er, HR.out.2.1, rfl, HR.out.2.2⟩
      · have hb := slow_bit hr
        have hnx : ((glow t (2 - (i + 1)) (i + 1) (2 * ahead + b) s6).bind fun y => if n ≤ y.1 then none else some y) = tg := by rw [← HK.out.2.2.1, hr]; rfl
        have hpa : 2 * ahead + b < 2 ^ (i + 1) := by have := HK.out.2.2.2.2; rw [Nat.pow_succ]; omega
        have HR := Lib.hid (And.intro hnx (And.intro hs6 (And.intro (HK.out.2.2.2.1.trans hm6) hpa)))
        clear hr hm6 hnx hs6 hpa
        go_wp2_with fail
        go_roundw
        case rel =>
          first
          | exact ⟨i + 1, 2 * ahead + b, s6, by omega, HR.out.2.2.2, by go_num, by go_num, HR.out.2.1, HR.out.1, HR.out.2.2.1⟩
          | ((repeat apply Exists.intro)
             exact ⟨⟨i + 1, 2 * ahead + b, s6, by omega, HR.out.2.2.2, by go_num, by go_num, HR.out.2.1, HR.out.1, HR.out.2.2.1⟩, rfl⟩)
        case measure => simp [intOf]; omega
    · have hie : i = 2 := by omega
      subst hie
      have ha4 : ahead < 4 := ha
      have hres : tg = if n ≤ ahead then none else some (ahead, s4) := by rw [← hg4]; rfl
      have HR := Lib.hid (And.intro hres (And.intro hs4 hM4))
      clear hres hs4 hM4 hg4 ha hp4
      by_cases hbig : n ≤ ahead
      · have dB : decide ((n : Int) ≤ (ahead : Int)) = true := decide_eq_true (by omega)
        go_wp2_with fail
        go_ret2
        exact .inl ⟨by rw [HR.out.1, if_pos hbig], 51, rfl, rfl, HR.out.2.2⟩
      · have dB : decide ((n : Int) ≤ (ahead : Int)) = false := decide_eq_false (by omega)
        go_wp2_with fail
        go_ret2
        exact .inr ⟨ahead, s4, by rw [HR.out.1, if_neg hbig], rfl, HR.out.2.1, HR.out.2.2⟩
end Go.Proofs.YteppnjgfebcmjaaGreat

/-
  The reference's Order of eight, Unsort of 64.
-/
namespace Go.Proofs.YteppnjgfebcmjaaGreat
open Go.RowKit

set_option maxRecDepth 100000 in
theorem fSide (w : World) : Calls Tryz.prog 92 #[.int .i64 64] w fun e w' => e = .returned (.int .i64 8) ∧ w = w' := by
  go_enter Tryz.func92, Tryz.ntmps92
  go_wp2_with fail
  go_ret
  exact ⟨rfl, rfl⟩
set_option maxRecDepth 100000 in
set_option maxHeartbeats 4000000 in
theorem fOrder (w : World) : Calls Tryz.prog 170 #[.int .i64 8] w fun e w' => ∃ b c, e = .returned (.slice (some ⟨b, 0, none⟩) 64 c) ∧ w.heap.size ≤ b ∧ IntsIn w' (some ⟨b, 0, none⟩) 64 c ord8 ∧ Mod (fun _ => False) w w' := by
  go_enter Tryz.func170, Tryz.ntmps170
  go_wp2_with fail
  go_loopw [3, 4] (OrdRel w) (fun _ i _ => 15 - (intOf i).toNat)
  case atStart => exact ⟨0, by omega, rfl, IntsOwn.nil _ _, Mod.refl _ _⟩
  case round =>
    obtain ⟨s, hs, rfl, hown, hM⟩ := hrel
    by_cases hlt : s < 15
    · obtain ⟨wo, rfl⟩ : ∃ wo : World, wo = wr := ⟨_, rfl⟩
      have HB := Lib.hid (And.intro hown hM)
      clear hown hM
      have dx : decide ((s : Int) ≤ 14) = true := decide_eq_true (by omega)
      go_wp2_with fail
      go_loopw [3, 5] (OrdIn w s) (fun _ i _ => 8 - (intOf i).toNat)
      case atStart => exact ⟨0, by omega, rfl, HB.out.1, HB.out.2⟩
      case round =>
        clear HB
        obtain ⟨y, hy, rfl, hown, hM⟩ := hrel
        by_cases hly : y < 8
        · have dy : decide ((y : Int) < 8) = true := decide_eq_true (by omega)
          obtain ⟨A3, c3, hv3⟩ := own_shape hown
          subst hv3
          have hle := ordTo_le s y
          generalize hlen : (ordTo s y).length = n3 at *
          have HB := Lib.hid (And.intro hown (And.intro hM (And.intro hM.size hlen)))
          clear hown hM hlen
          by_cases h1 : y ≤ s
          · have d1 : decide ((0 : Int) ≤ (s : Int) - (y : Int)) = true := decide_eq_true (by omega)
            have d1' : decide ((y : Int) ≤ (s : Int)) = true := decide_eq_true (by omega)
            by_cases h2 : s < y + 8
            · have d2 : decide ((s : Int) - (y : Int) < 8) = true := decide_eq_true (by omega)
              have HS := Lib.hid (ordTo_yes s y ⟨h1, h2⟩)
              have ev : (y : Int) * 8 + ((s : Int) - (y : Int)) = ((y * 8 + (s - y) : Nat) : Int) := by omega
              have HE := Lib.hid ev
              clear ev
              go_wp2_with (at_builtin; have _t := HB; refine wpList_app_int _ rfl (.tmp 37) (.tmp 43) rfl w.heap.size _ _ ((y : Int) * 8 + ((s : Int) - (y : Int))) rfl rfl HB.out.1 HB.out.2.2.1 (by rw [HB.out.2.2.2]; omega) ?_; intro v8 w8 hown8 hMa hMb hF; have HO := Lib.hid (And.intro hown8 (hMb w (fun _ => False) (Nat.le_refl _) HB.out.2.1)); clear hown8 hMa hMb hF)
              go_roundw
              case rel =>
                refine ⟨y + 1, by omega, by go_num, ?_, HO.out.2⟩
                rw [HS.out, ← HE.out]
                exact HO.out.1
              case measure => simp [intOf]; omega
            · have d2 : decide ((s : Int) - (y : Int) < 8) = false := decide_eq_false (by omega)
              have HS := Lib.hid (ordTo_no s y (fun h => h2 h.2))
              go_wp2_with fail
              go_roundw
              case rel =>
                refine ⟨y + 1, by omega, by go_num, ?_, HB.out.2.1⟩
                rw [HS.out]
                exact HB.out.1
              case measure => simp [intOf]; omega
          · have d1 : decide ((0 : Int) ≤ (s : Int) - (y : Int)) = false := decide_eq_false (by omega)
            have d1' : decide ((y : Int) ≤ (s : Int)) = false := decide_eq_false (by omega)
            have HS := Lib.hid (ordTo_no s y (fun h => h1 h.1))
            go_wp2_with fail
            go_roundw
            case rel =>
              refine ⟨y + 1, by omega, by go_num, ?_, HB.out.2.1⟩
              rw [HS.out]
              exact HB.out.1
            case measure => simp [intOf]; omega
        · obtain rfl : y = 8 := by omega
          have HB := Lib.hid (And.intro hown hM)
          clear hown hM
          go_wp2_with fail
          go_roundw
          case rel => exact ⟨s + 1, by omega, by go_num, by rw [← ordTo_succ]; exact HB.out.1, HB.out.2⟩
          case measure => simp [intOf]; omega
    · obtain rfl : s = 15 := by omega
      have HB := Lib.hid (And.intro hown hM)
      clear hown hM
      go_wp2_with fail
      go_ret
      obtain ⟨h9, hM9⟩ := HB.out
      have h9' : IntsOwn _ _ _ ord8 := h9
      obtain ⟨A9, c9, hv9⟩ := own_shape h9'
      subst hv9
      have hl := ord8_facts.1
      have hin := h9'.in_
      rw [hl] at hin
      rcases h9'.2 with ⟨hv, h0⟩ | ⟨g, cap, cur, hv, hB, _⟩
      · rw [hl] at h0; cases h0
      · injection hv with e1 e2 e3
        subst e1
        exact ⟨g, c9, by rw [hl]; rfl, hB, hin, hM9⟩
set_option maxRecDepth 100000 in
set_option maxHeartbeats 4000000 in
theorem fUnsort (w : World) (A : Option Addr) (c : Nat) (l : List Int) (hin : IntsIn w A 64 c l) : Calls Tryz.prog 149 #[.slice A 64 c] w fun e w' => ∃ ob, e = .returned (.slice (some ⟨ob, 0, none⟩) 64 64) ∧ Blk w' ob 3 (i64s (unsortL l)).toArray ∧ w.heap.size ≤ ob ∧ Mod (fun _ => False) w w' := by
  obtain ⟨b, off, hA, hb, hcell⟩ := hin.place (by omega)
  subst hA
  have HC := Lib.hid hcell
  clear hcell hin
  go_enter Tryz.func149, Tryz.ntmps149
  go_wp2_with fail
  refine (fSide _).mono ?_
  rintro e w1 ⟨rfl, rfl⟩
  go_wp2_with fail
  refine (fOrder _).mono ?_
  rintro e w2 ⟨b2, c2, rfl, hbb2, hin2, hm2⟩
  obtain ⟨_, off2, hA2, hb2, hcell2⟩ := hin2.place (by omega)
  injection hA2 with hA2
  injection hA2 with hA2 hA3 _
  subst hA2 hA3
  have HC2 := Lib.hid hcell2
  have HM2 := Lib.hid (And.intro hm2 (And.intro hb2 hbb2))
  clear hcell2 hin2 hm2 hbb2
  go_wp2_with (refine wpList_mk_int _ rfl (.tmp 11) (.tmp 11) rfl 64 rfl rfl (by omega) ?_; intro w3 hb3 hm3; have HO := Lib.hid (And.intro hb3 hm3); clear hb3 hm3)
  obtain ⟨ob, hobe⟩ : ∃ ob, ob = w2.heap.size := ⟨_, rfl⟩
  rw [← hobe] at HO ⊢
  have hbn : ¬ b = ob := by have := HM2.out.1.size; omega
  have hb2n : ¬ b2 = ob := by have := HM2.out.2.1; omega
  have how : w.heap.size ≤ ob := by have := HM2.out.1.size; omega
  have hb2l : b2 < w2.heap.size := HM2.out.2.1
  have hbl2 : b < w2.heap.size := Nat.lt_of_lt_of_le hb HM2.out.1.size
  clear hobe
  go_loopw [5] (UnsRel w3 ob l) (fun i _ => 64 - (intOf i).toNat)
  case atStart => exact ⟨0, by omega, rfl, HO.out.1, Mod.refl _ _⟩
  case round =>
    rename World => wr
    obtain ⟨k, hk, rfl, hbk, hM⟩ := hrel
    by_cases hlt : k < 64
    · have dk : decide ((k : Int) < 64) = true := decide_eq_true (by omega)
      have p1 : (k : Int) < 64 := by omega
      have hMw : Mod (fun j => j = ob) w2 wr := (HO.out.2.mono (fun _ h => h.elim)).trans hM
      have k1 : wr.drew.cell? ⟨b, off + k, none⟩ = some (.int .i64 (l.getD k 0)) := (World.cell?_of_block (hMw.block b hbl2 hbn)).trans ((World.cell?_of_block (HM2.out.1.block b hb (fun h => h))).trans (HC.out k hlt))
      have k2 : wr.drew.cell? ⟨b2, k, none⟩ = some (.int .i64 (ord8.getD k 0)) := (World.cell?_of_block (hMw.block b2 hb2l hb2n)).trans (by have := HC2.out k hlt; rwa [Nat.zero_add] at this)
      have hpl := ord8_facts.2 k hlt
      obtain ⟨pl, hpe⟩ : ∃ pl : Nat, (pl : Int) = ord8.getD k 0 := ⟨(ord8.getD k 0).toNat, by omega⟩
      rw [← hpe] at k2 hpl
      have HS : Hid (unsTo l (k + 1) = (unsTo l k).set pl (l.getD k 0)) := by show _ = _; rw [unsTo, ← hpe]; simp
      clear hpe
      generalize l.getD k 0 = v at *
      have p3 : (pl : Int) < 64 := by omega
      have hbd := hbk.drew
      have k3 : wr.drew.cell? ⟨ob, pl, none⟩ = some (.int .i64 ((unsTo l k).getD pl 0)) := by rw [hbd.cell]; simp [i64s, List.getD_eq_getElem?_getD, unsTo_length, show pl < 64 by omega]
      have f3 := hbd.frozen pl
      have HB := Lib.hid (And.intro hbd hM)
      clear hbk hM hMw hpl hbd
      generalize (unsTo l k).getD pl 0 = old at *
      have hpn : pl < 64 := by omega
      go_upto_region 6 with (fail)
      refine wp_region_planS [10] [] (0 :: 1 :: 2 :: 3 :: 4 :: 5 :: 6 :: 7 :: 8 :: 9 :: 10 :: []) (fun _ => True) (by kernel_rfl) (by kernel_rfl) (fun _ _ _ d _ h => by cases d <;> exact h) trivial ?_
      iterate 10 (refine planS_still rfl rfl (fun K hK => ?_); go_simp; refine hK _ ?_; clear hK K)
      refine planS_loud rfl rfl (fun K hK => ?_)
      go_simp
      refine hK _ _ trivial ?_
      clear hK K
      refine planS_done ?_
      go_wp2_with fail
      go_roundw
      case rel =>
        refine ⟨k + 1, by omega, by go_num, ?_, (HB.out.2.drew).setCell (.inl rfl) _⟩
        rw [HS.out]
        exact HB.out.1.put (by simp [i64s, List.map_set])
      case measure => simp [intOf]; omega
    · obtain rfl : k = 64 := by omega
      have HB := Lib.hid (And.intro hbk hM)
      clear hbk hM
      go_wp2_with fail
      go_ret
      exact ⟨ob, rfl, HB.out.1, how, ((HM2.out.1.trans HO.out.2)).into HB.out.2 (fun i e => .inr (by omega))⟩
end Go.Proofs.YteppnjgfebcmjaaGreat
