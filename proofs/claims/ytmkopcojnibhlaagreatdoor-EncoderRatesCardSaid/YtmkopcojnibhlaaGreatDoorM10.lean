/-
  book: chances.get.
-/
import Derived.Test.YtmkopcojnibhlaaGreatDoorM9
namespace Go.Proofs.YtmkopcojnibhlaaGreatDoor
open Go.RowKit

def glen (t : Nat) : Nat → Nat → St → Option (Nat × St)
  | 0, n, s => some (n, s)
  | m + 1, n, s => (sget s (t * 37 + (n - 1))).bind fun x => if x.1 = 0 then some (n, x.2) else glen t m (n + 1) x.2
def gfin (t n : Nat) (s : St) : Option (Nat × St) := (glow t (n - 1) 0 0 s).bind fun y => if 1048576 < 2 ^ (n - 1) + y.1 - 1 then none else some (2 ^ (n - 1) + y.1 - 1, y.2)
/-- The next number. -/
def snum (t : Nat) (s : St) : Option (Nat × St) := (glen t 20 1 s).bind fun x => gfin t x.1 x.2

def LenRel (w : World) (bk g : Nat) (P : Nat → Prop) (t : Nat) (r : Option (Nat × St)) (v6 : Value) (wr : World) : Prop :=
  ∃ (n : Nat) (s : St), 1 ≤ n ∧ n ≤ 21 ∧ v6 = .int .i64 (n : Int) ∧ SAt wr bk g P s ∧ (glen t (21 - n) n s).bind (fun x => gfin t x.1 x.2) = r ∧ Mod (fun j => j = g ∨ j = bk) w wr

set_option maxRecDepth 100000 in
set_option maxHeartbeats 4000000 in
theorem bGetNum (w : World) (bk g : Nat) (P : Nat → Prop) (hPg : ¬ P g) (hPb : ¬ P bk) (hPw : ∀ j, P j → j < w.heap.size) (hgb : g ≠ bk) (s : St) (t : Nat) (ht : t < 16) (h : SAt w bk g P s) :
    Calls Tryz.prog 266 #[.pointer (some ⟨bk, t * 37, none⟩), .pointer (some ⟨g, 0, none⟩)] w (SPost w bk g P (snum t s)) := by
  obtain ⟨tg, htg⟩ : ∃ tg, tg = snum t s := ⟨_, rfl⟩
  rw [← htg]
  have HH := Lib.hid (And.intro h (And.intro hPw htg))
  clear h hPw htg
  go_enter Tryz.func266, Tryz.ntmps266
  go_wp2_with fail
  go_loopw [6] (LenRel w bk g P t tg) (fun i _ => 21 - (intOf i).toNat)
  case atStart => exact ⟨1, s, by omega, by omega, rfl, HH.out.1, HH.out.2.2.symm, Mod.refl _ _⟩
  case round =>
    obtain ⟨n, s1, hn1, hn2, rfl, hs, hg, hM⟩ := hrel
    by_cases hlt : n < 21
    · have d1 : decide ((n : Int) < 21) = true := decide_eq_true (by omega)
      have hge : (glen t (21 - n) n s1).bind (fun x => gfin t x.1 x.2) = (sget s1 (t * 37 + (n - 1))).bind fun x => if x.1 = 0 then gfin t n x.2 else (glen t (21 - (n + 1)) (n + 1) x.2).bind (fun x => gfin t x.1 x.2) := by
        rw [show 21 - n = (21 - (n + 1)) + 1 by omega]
        simp only [glen, Option.bind_assoc]
        congr 1
        funext x
        split <;> rfl
      rw [hg] at hge
      have G2 := bGet_at wr bk g P hPg hPb hgb s1 (t * 37 + (n - 1)) (by omega) hs
      have HB := Lib.hid (And.intro hge hM)
      clear hge hg hM hs
      have p1 : (0 : Int) ≤ (n : Int) - 1 := by omega
      have p2 : ((n : Int) - 1).toNat = n - 1 := by omega
      have p3 : (n : Int) - 1 < 20 := by omega
      have p4 : (1 : Int) ≤ (n : Int) := by omega
      --ROUND
      go_wp2_with fail
      refine G2.mono ?_
      clear G2
      rintro e w3 (⟨hr, er, her, rfl, hm3⟩ | ⟨v, s3, hr, rfl, hs3, hm3⟩)
      · have her2 : (er != 0) = true := by simp [bne, her]
        have HR : Hid (tg = none) := by show _ = _; rw [HB.out.1, hr]; rfl
        have HM3 := Lib.hid (HB.out.2.trans hm3)
        have HE := Lib.hid her
        clear hr hm3 her
        go_wp2_with fail
        go_ret2
        exact .inl ⟨HR.out, er, HE.out, rfl, HM3.out⟩
      · have hv := sget_bit hr
        rcases Nat.eq_zero_or_pos v with hv0 | hv0
        · subst hv0
          have HS : Hid (SAt w3 bk g P s3 ∧ tg = gfin t n s3 ∧ Mod (fun j => j = g ∨ j = bk) w w3) := ⟨hs3, by rw [HB.out.1, hr]; rfl, HB.out.2.trans hm3⟩
          clear hr hm3 hs3 HB
          have L2 := bGetLow w3 bk g P hPg hPb (fun j hj => Nat.lt_of_lt_of_le (HH.out.2.1 j hj) HS.out.2.2.size) hgb s3 t (n - 1) ht (by omega) HS.out.1
          have q1 : ((n - 1 : Nat) : Int) = (n : Int) - 1 := by omega
          rw [q1] at L2
          clear q1
          go_wp2_with fail
          refine L2.mono ?_
          clear L2
          rintro e w5 (⟨hr, er, her, rfl, hm5⟩ | ⟨lo, s5, hr, rfl, hs5, hm5⟩)
          · have her2 : (er != 0) = true := by simp [bne, her]
            have HR : Hid (tg = none) := by show _ = _; rw [HS.out.2.1]; unfold gfin; rw [hr]; rfl
            have HM5 := Lib.hid (HS.out.2.2.trans hm5)
            have HE := Lib.hid her
            clear hr hm5 her
            go_wp2_with fail
            go_ret2
            exact .inl ⟨HR.out, er, HE.out, rfl, HM5.out⟩
          · have hlo := glow_lt t (n - 1) 0 0 _ lo s5 (by simp) hr
            rw [Nat.zero_add] at hlo
            have HR : Hid (tg = if 1048576 < 2 ^ (n - 1) + lo - 1 then none else some (2 ^ (n - 1) + lo - 1, s5)) := by show _ = _; rw [HS.out.2.1]; unfold gfin; rw [hr]; rfl
            have hp1 : 2 ^ (n - 1) ≤ 2 ^ 20 := Nat.pow_le_pow_right (by omega) (by omega)
            have hp0 : 1 ≤ 2 ^ (n - 1) := Nat.one_le_two_pow
            have hpi : (2 : Int) ^ (n - 1) = ((2 ^ (n - 1) : Nat) : Int) := by simp
            have HP := Lib.hid hpi
            obtain ⟨pw, hpw⟩ : ∃ pw, pw = 2 ^ (n - 1) := ⟨_, rfl⟩
            rw [← hpw] at hlo HR hp1 hp0 HP
            have HPW := Lib.hid hpw
            have HM5 := Lib.hid (And.intro (HS.out.2.2.trans hm5) hs5)
            clear hr hm5 hs5 hpw hpi
            go_upto_region 12 with (fail)
            rw [show wrap64 (wrap64 (wrap64 ((2 : Int) ^ (n - 1)) + (lo : Int)) - 1) = ((pw + lo - 1 : Nat) : Int) by rw [HP.out]; unfold wrap64; omega]
            obtain ⟨nv, hnv⟩ : ∃ nv, nv = pw + lo - 1 := ⟨_, rfl⟩
            rw [← hnv] at HR ⊢
            have hnb : nv < 4194304 := by omega
            clear hnv
            by_cases hbig : 1048576 < nv
            · have dB : decide ((1048576 : Int) < (nv : Int)) = true := decide_eq_true (by omega)
              have HR2 : Hid (tg = none) := by show _ = _; rw [HR.out, if_pos hbig]
              go_wp2_with fail
              go_ret2
              exact .inl ⟨HR2.out, 51, rfl, rfl, HM5.out.1⟩
            · have dB : decide ((1048576 : Int) < (nv : Int)) = false := decide_eq_false (by omega)
              have HR2 : Hid (tg = some (nv, s5)) := by show _ = _; rw [HR.out, if_neg hbig]
              go_wp2_with fail
              go_ret2
              exact .inr ⟨nv, s5, HR2.out, rfl, HM5.out.2, HM5.out.1⟩
        · obtain rfl : v = 1 := by omega
          have HS : Hid (SAt w3 bk g P s3 ∧ tg = (glen t (21 - (n + 1)) (n + 1) s3).bind (fun x => gfin t x.1 x.2) ∧ Mod (fun j => j = g ∨ j = bk) w w3) := ⟨hs3, by rw [HB.out.1, hr]; rfl, HB.out.2.trans hm3⟩
          clear hr hm3 hs3 HB
          go_wp2_with fail
          go_roundw
          case rel => exact ⟨n + 1, s3, by omega, by omega, by go_num, HS.out.1, HS.out.2.1.symm, HS.out.2.2⟩
          case measure => simp [intOf]; omega
    · have d1 : decide ((n : Int) < 21) = false := decide_eq_false (by omega)
      have HS : Hid (SAt wr bk g P s1 ∧ tg = gfin t n s1 ∧ Mod (fun j => j = g ∨ j = bk) w wr) := ⟨hs, by rw [← hg, show 21 - n = 0 by omega]; rfl, hM⟩
      clear hs hg hM
      have L2 := bGetLow wr bk g P hPg hPb (fun j hj => Nat.lt_of_lt_of_le (HH.out.2.1 j hj) HS.out.2.2.size) hgb s1 t (n - 1) ht (by omega) HS.out.1
      have q1 : ((n - 1 : Nat) : Int) = (n : Int) - 1 := by omega
      rw [q1] at L2
      clear q1
      go_wp2_with fail
      refine L2.mono ?_
      clear L2
      rintro e w5 (⟨hr, er, her, rfl, hm5⟩ | ⟨lo, s5, hr, rfl, hs5, hm5⟩)
      · have her2 : (er != 0) = true := by simp [bne, her]
        have HR : Hid (tg = none) := by show _ = _; rw [HS.out.2.1]; unfold gfin; rw [hr]; rfl
        have HM5 := Lib.hid (HS.out.2.2.trans hm5)
        have HE := Lib.hid her
        clear hr hm5 her
        go_wp2_with fail
        go_ret2
        exact .inl ⟨HR.out, er, HE.out, rfl, HM5.out⟩
      · have hlo := glow_lt t (n - 1) 0 0 _ lo s5 (by simp) hr
        rw [Nat.zero_add] at hlo
        have HR : Hid (tg = if 1048576 < 2 ^ (n - 1) + lo - 1 then none else some (2 ^ (n - 1) + lo - 1, s5)) := by show _ = _; rw [HS.out.2.1]; unfold gfin; rw [hr]; rfl
        have hp1 : 2 ^ (n - 1) ≤ 2 ^ 20 := Nat.pow_le_pow_right (by omega) (by omega)
        have hp0 : 1 ≤ 2 ^ (n - 1) := Nat.one_le_two_pow
        have hpi : (2 : Int) ^ (n - 1) = ((2 ^ (n - 1) : Nat) : Int) := by simp
        have HP := Lib.hid hpi
        obtain ⟨pw, hpw⟩ : ∃ pw, pw = 2 ^ (n - 1) := ⟨_, rfl⟩
        rw [← hpw] at hlo HR hp1 hp0 HP
        have HPW := Lib.hid hpw
        have HM5 := Lib.hid (And.intro (HS.out.2.2.trans hm5) hs5)
        clear hr hm5 hs5 hpw hpi
        go_upto_region 12 with (fail)
        rw [show wrap64 (wrap64 (wrap64 ((2 : Int) ^ (n - 1)) + (lo : Int)) - 1) = ((pw + lo - 1 : Nat) : Int) by rw [HP.out]; unfold wrap64; omega]
        obtain ⟨nv, hnv⟩ : ∃ nv, nv = pw + lo - 1 := ⟨_, rfl⟩
        rw [← hnv] at HR ⊢
        have hnb : nv < 4194304 := by omega
        clear hnv
        by_cases hbig : 1048576 < nv
        · have dB : decide ((1048576 : Int) < (nv : Int)) = true := decide_eq_true (by omega)
          have HR2 : Hid (tg = none) := by show _ = _; rw [HR.out, if_pos hbig]
          go_wp2_with fail
          go_ret2
          exact .inl ⟨HR2.out, 51, rfl, rfl, HM5.out.1⟩
        · have dB : decide ((1048576 : Int) < (nv : Int)) = false := decide_eq_false (by omega)
          have HR2 : Hid (tg = some (nv, s5)) := by show _ = _; rw [HR.out, if_neg hbig]
          go_wp2_with fail
          go_ret2
          exact .inr ⟨nv, s5, HR2.out, rfl, HM5.out.2, HM5.out.1⟩
end Go.Proofs.YtmkopcojnibhlaaGreatDoor

/-
  book.Book: Get, GetSigned, GetOne.
-/
namespace Go.Proofs.YtmkopcojnibhlaaGreatDoor
open Go.RowKit

set_option maxRecDepth 100000 in
set_option maxHeartbeats 1000000 in
theorem bookGet (w : World) (bk g : Nat) (P : Nat → Prop) (hPg : ¬ P g) (hPb : ¬ P bk) (hPw : ∀ j, P j → j < w.heap.size) (hgb : g ≠ bk) (s : St) (t : Nat) (ht : t < 16) (h : SAt w bk g P s) :
    Calls Tryz.prog 267 #[.pointer (some ⟨bk, 0, none⟩), .pointer (some ⟨g, 0, none⟩), .int .i64 (t : Int)] w (SPost w bk g P (snum t s)) := by
  have N1 := bGetNum w bk g P hPg hPb hPw hgb s t ht h
  clear h hPw
  go_enter Tryz.func267, Tryz.ntmps267
  go_wp2_with fail
  refine (bTopic _ bk t ht).mono ?_
  rintro e w1 ⟨rfl, rfl⟩
  go_wp2_with fail
  refine N1.mono ?_
  rintro e w2 (⟨hr, er, her, rfl, hm⟩ | ⟨v, s2, hr, rfl, hs, hm⟩)
  · have HH := Lib.hid (And.intro hr (And.intro her hm))
    clear hr her hm
    go_wp2_with fail
    go_ret2
    exact .inl ⟨HH.out.1, er, HH.out.2.1, rfl, HH.out.2.2⟩
  · have HH := Lib.hid (And.intro hr (And.intro hs hm))
    clear hr hs hm
    go_wp2_with fail
    go_ret2
    exact .inr ⟨v, s2, HH.out.1, rfl, HH.out.2.1, HH.out.2.2⟩

/-- The next number with a sign. -/
def ssigned (t : Nat) (s : St) : Option (Int × St) := (snum t s).bind fun x => if x.1 = 0 then some (0, x.2) else (sget x.2 (t * 37 + 36)).map fun y => (if y.1 = 1 then -(x.1 : Int) else (x.1 : Int), y.2)
def SPostI (w : World) (bk g : Nat) (P : Nat → Prop) (r : Option (Int × St)) (e : Ending) (w' : World) : Prop :=
  (r = none ∧ ∃ er : Int, (er == 0) = false ∧ e = .returned (.tuple #[.int .i64 0, .int .i64 er]) ∧ Mod (fun j => j = g ∨ j = bk) w w') ∨
  ∃ (v : Int) (s' : St), r = some (v, s') ∧ e = .returned (.tuple #[.int .i64 v, .int .i64 0]) ∧ SAt w' bk g P s' ∧ Mod (fun j => j = g ∨ j = bk) w w'
theorem snum_le {t : Nat} {s s' : St} {v : Nat} (h : snum t s = some (v, s')) : v ≤ 1048576 := by
  unfold snum gfin at h
  simp only [Option.bind_eq_some_iff] at h
  obtain ⟨x, _, y, _, h3⟩ := h
  split at h3
  · cases h3
  · simp at h3; omega
theorem ssigned_le {t : Nat} {s s' : St} {v : Int} (h : ssigned t s = some (v, s')) : -1048576 ≤ v ∧ v ≤ 1048576 := by
  unfold ssigned at h
  simp only [Option.bind_eq_some_iff] at h
  obtain ⟨⟨x, s1⟩, h1, h3⟩ := h
  have := snum_le h1
  dsimp only at h3
  split at h3
  · simp at h3; omega
  · simp only [Option.map_eq_some_iff] at h3
    obtain ⟨y, _, h4⟩ := h3
    simp at h4
    split at h4 <;> omega

set_option maxRecDepth 100000 in
set_option maxHeartbeats 1000000 in
theorem bookSigned (w : World) (bk g : Nat) (P : Nat → Prop) (hPg : ¬ P g) (hPb : ¬ P bk) (hPw : ∀ j, P j → j < w.heap.size) (hgb : g ≠ bk) (s : St) (t : Nat) (ht : t < 16) (h : SAt w bk g P s) :
    Calls Tryz.prog 233 #[.pointer (some ⟨bk, 0, none⟩), .pointer (some ⟨g, 0, none⟩), .int .i64 (t : Int)] w (SPostI w bk g P (ssigned t s)) := by
  have N1 := bGetNum w bk g P hPg hPb hPw hgb s t ht h
  clear h hPw
  obtain ⟨tg, htg⟩ : ∃ tg, tg = ssigned t s := ⟨_, rfl⟩
  rw [← htg]
  unfold ssigned at htg
  have HT := Lib.hid htg
  clear htg
  go_enter Tryz.func233, Tryz.ntmps233
  go_wp2_with fail
  refine (bTopic _ bk t ht).mono ?_
  rintro e w1 ⟨rfl, rfl⟩
  go_wp2_with fail
  refine N1.mono ?_
  clear N1
  rintro e w2 (⟨hr, er, her, rfl, hm⟩ | ⟨v, s2, hr, rfl, hs, hm⟩)
  · have her2 : (er != 0) = true := by simp [bne, her]
    have HR : Hid (tg = none) := by show _ = _; rw [HT.out, hr]; rfl
    have HH := Lib.hid (And.intro her hm)
    clear hr her hm
    go_wp2_with fail
    go_ret2
    exact .inl ⟨HR.out, er, HH.out.1, rfl, HH.out.2⟩
  · have hv := snum_le hr
    by_cases hv0 : v = 0
    · subst hv0
      have HR : Hid (tg = some (0, s2)) := by show _ = _; rw [HT.out, hr]; rfl
      have HH := Lib.hid (And.intro hs hm)
      clear hr hs hm
      go_wp2_with fail
      go_ret2
      exact .inr ⟨0, s2, HR.out, rfl, HH.out.1, HH.out.2⟩
    · have d0 : ((v : Int) == 0) = false := beq_eq_false_iff_ne.2 (by omega)
      have HR : Hid (tg = (sget s2 (t * 37 + 36)).map fun y => (if y.1 = 1 then -(v : Int) else (v : Int), y.2)) := by show _ = _; rw [HT.out, hr]; exact if_neg hv0
      have G2 := bGet_at w2 bk g P hPg hPb hgb s2 (t * 37 + 36) (by omega) hs
      have HH := Lib.hid hm
      clear hr hs hm
      go_wp2_with fail
      refine G2.mono ?_
      clear G2
      rintro e w3 (⟨hr, er, her, rfl, hm3⟩ | ⟨b, s3, hr, rfl, hs3, hm3⟩)
      · have her2 : (er != 0) = true := by simp [bne, her]
        have HR3 : Hid (tg = none) := by show _ = _; rw [HR.out, hr]; rfl
        have HH3 := Lib.hid (And.intro her (HH.out.trans hm3))
        clear hr her hm3
        go_wp2_with fail
        go_ret2
        exact .inl ⟨HR3.out, er, HH3.out.1, rfl, HH3.out.2⟩
      · have hb := sget_bit hr
        have HR3 : Hid (tg = some (if b = 1 then -(v : Int) else (v : Int), s3)) := by show _ = _; rw [HR.out, hr]; rfl
        have HH3 := Lib.hid (And.intro hs3 (HH.out.trans hm3))
        clear hr hs3 hm3
        rcases Nat.eq_zero_or_pos b with hb0 | hb0
        · subst hb0
          go_wp2_with fail
          go_ret2
          exact .inr ⟨_, s3, HR3.out, rfl, HH3.out.1, HH3.out.2⟩
        · obtain rfl : b = 1 := by omega
          go_wp2_with fail
          go_ret2
          exact .inr ⟨_, s3, HR3.out, rfl, HH3.out.1, HH3.out.2⟩

set_option maxRecDepth 100000 in
set_option maxHeartbeats 1000000 in
theorem bitsLen64_2 (w : World) : Calls Tryz.prog 195 #[.int .u64 2] w fun e w' => e = .returned (.int .i64 2) ∧ w = w' := by
  go_enter Tryz.func195, Tryz.ntmps195
  go_wp2_with fail
  go_ret
  exact ⟨by kernel_rfl, rfl⟩
theorem bitsLen2 (w : World) : Calls Tryz.prog 138 #[.int .u64 2] w fun e w' => e = .returned (.int .i64 2) ∧ w = w' := by
  go_enter Tryz.func138, Tryz.ntmps138
  go_wp2_with fail
  refine (bitsLen64_2 _).mono ?_
  rintro e w1 ⟨rfl, rfl⟩
  go_wp2_with fail
  go_ret
  exact ⟨rfl, rfl⟩
set_option maxRecDepth 100000 in
set_option maxHeartbeats 1000000 in
theorem bitsLen64_3 (w : World) : Calls Tryz.prog 195 #[.int .u64 3] w fun e w' => e = .returned (.int .i64 2) ∧ w = w' := by
  go_enter Tryz.func195, Tryz.ntmps195
  go_wp2_with fail
  go_ret
  exact ⟨by kernel_rfl, rfl⟩
theorem bitsLen3 (w : World) : Calls Tryz.prog 138 #[.int .u64 3] w fun e w' => e = .returned (.int .i64 2) ∧ w = w' := by
  go_enter Tryz.func138, Tryz.ntmps138
  go_wp2_with fail
  refine (bitsLen64_3 _).mono ?_
  rintro e w1 ⟨rfl, rfl⟩
  go_wp2_with fail
  go_ret
  exact ⟨rfl, rfl⟩

/-- The next choice of n (three or four) ways. -/
def sone (t n : Nat) (s : St) : Option (Nat × St) := (glow t 2 0 0 s).bind fun y => if n ≤ y.1 then none else some y
set_option maxRecDepth 100000 in
set_option maxHeartbeats 1000000 in
theorem bookOne3 (w : World) (bk g : Nat) (P : Nat → Prop) (hPg : ¬ P g) (hPb : ¬ P bk) (hPw : ∀ j, P j → j < w.heap.size) (hgb : g ≠ bk) (s : St) (t : Nat) (ht : t < 16) (h : SAt w bk g P s) :
    Calls Tryz.prog 185 #[.pointer (some ⟨bk, 0, none⟩), .pointer (some ⟨g, 0, none⟩), .int .i64 (t : Int), .int .i64 3] w (SPost w bk g P (sone t 3 s)) := by
  have N1 := bGetLow w bk g P hPg hPb hPw hgb s t 2 ht (by omega) h
  clear h hPw
  obtain ⟨tg, htg⟩ : ∃ tg, tg = sone t 3 s := ⟨_, rfl⟩
  rw [← htg]
  unfold sone at htg
  have HT := Lib.hid htg
  clear htg
  go_enter Tryz.func185, Tryz.ntmps185
  go_wp2_with fail
  refine (bTopic _ bk t ht).mono ?_
  rintro e w1 ⟨rfl, rfl⟩
  go_wp2_with fail
  refine (bitsLen2 _).mono ?_
  rintro e w1 ⟨rfl, rfl⟩
  go_wp2_with fail
  refine N1.mono ?_
  clear N1
  rintro e w2 (⟨hr, er, her, rfl, hm⟩ | ⟨v, s2, hr, rfl, hs, hm⟩)
  · have her2 : (er != 0) = true := by simp [bne, her]
    have HR : Hid (tg = none) := by show _ = _; rw [HT.out, hr]; rfl
    have HH := Lib.hid (And.intro her hm)
    clear hr her hm
    go_wp2_with fail
    go_ret2
    exact .inl ⟨HR.out, er, HH.out.1, rfl, HH.out.2⟩
  · have HH := Lib.hid (And.intro hs hm)
    by_cases hv : 3 ≤ v
    · have d1 : decide ((3 : Int) ≤ (v : Int)) = true := decide_eq_true (by omega)
      have HR : Hid (tg = none) := by show _ = _; rw [HT.out, hr]; exact if_pos hv
      clear hr hs hm
      go_wp2_with fail
      go_ret2
      exact .inl ⟨HR.out, 51, rfl, rfl, HH.out.2⟩
    · have d1 : decide ((3 : Int) ≤ (v : Int)) = false := decide_eq_false (by omega)
      have HR : Hid (tg = some (v, s2)) := by show _ = _; rw [HT.out, hr]; exact if_neg hv
      clear hr hs hm
      go_wp2_with fail
      go_ret2
      exact .inr ⟨v, s2, HR.out, rfl, HH.out.1, HH.out.2⟩
set_option maxRecDepth 100000 in
set_option maxHeartbeats 1000000 in
theorem bookOne4 (w : World) (bk g : Nat) (P : Nat → Prop) (hPg : ¬ P g) (hPb : ¬ P bk) (hPw : ∀ j, P j → j < w.heap.size) (hgb : g ≠ bk) (s : St) (t : Nat) (ht : t < 16) (h : SAt w bk g P s) :
    Calls Tryz.prog 185 #[.pointer (some ⟨bk, 0, none⟩), .pointer (some ⟨g, 0, none⟩), .int .i64 (t : Int), .int .i64 4] w (SPost w bk g P (sone t 4 s)) := by
  have N1 := bGetLow w bk g P hPg hPb hPw hgb s t 2 ht (by omega) h
  clear h hPw
  obtain ⟨tg, htg⟩ : ∃ tg, tg = sone t 4 s := ⟨_, rfl⟩
  rw [← htg]
  unfold sone at htg
  have HT := Lib.hid htg
  clear htg
  go_enter Tryz.func185, Tryz.ntmps185
  go_wp2_with fail
  refine (bTopic _ bk t ht).mono ?_
  rintro e w1 ⟨rfl, rfl⟩
  go_wp2_with fail
  refine (bitsLen3 _).mono ?_
  rintro e w1 ⟨rfl, rfl⟩
  go_wp2_with fail
  refine N1.mono ?_
  clear N1
  rintro e w2 (⟨hr, er, her, rfl, hm⟩ | ⟨v, s2, hr, rfl, hs, hm⟩)
  · have her2 : (er != 0) = true := by simp [bne, her]
    have HR : Hid (tg = none) := by show _ = _; rw [HT.out, hr]; rfl
    have HH := Lib.hid (And.intro her hm)
    clear hr her hm
    go_wp2_with fail
    go_ret2
    exact .inl ⟨HR.out, er, HH.out.1, rfl, HH.out.2⟩
  · have HH := Lib.hid (And.intro hs hm)
    by_cases hv : 4 ≤ v
    · have d1 : decide ((4 : Int) ≤ (v : Int)) = true := decide_eq_true (by omega)
      have HR : Hid (tg = none) := by show _ = _; rw [HT.out, hr]; exact if_pos hv
      clear hr hs hm
      go_wp2_with fail
      go_ret2
      exact .inl ⟨HR.out, 51, rfl, rfl, HH.out.2⟩
    · have d1 : decide ((4 : Int) ≤ (v : Int)) = false := decide_eq_false (by omega)
      have HR : Hid (tg = some (v, s2)) := by show _ = _; rw [HT.out, hr]; exact if_neg hv
      clear hr hs hm
      go_wp2_with fail
      go_ret2
      exact .inr ⟨v, s2, HR.out, rfl, HH.out.1, HH.out.2⟩
end Go.Proofs.YtmkopcojnibhlaaGreatDoor
