/-
  book: chances.get.
-/
import Derived.Test.YteppnjgfebcmjaaGreatM15
import Derived.Test.YteppnjgfebcmjaaGreatM12
import Derived.OrdersHeld
namespace Go.Proofs.YteppnjgfebcmjaaGreat
open Go.RowKit

def glen (t : Nat) : Nat → Nat → St → Option (Nat × St)
  | 0, n, s => some (n, s)
  | m + 1, n, s => (sget s (t * 37 + (n - 1))).bind fun x => if x.1 = 0 then some (n, x.2) else glen t m (n + 1) x.2
def gfin (t n : Nat) (s : St) : Option (Nat × St) := (glow t (n - 1) 0 0 s).bind fun y => if 1048576 < 2 ^ (n - 1) + y.1 - 1 then none else some (2 ^ (n - 1) + y.1 - 1, y.2)
/-- The next number. -/
def snum (t : Nat) (s : St) : Option (Nat × St) := (glen t 20 1 s).bind fun x => gfin t x.1 x.2

def LenRel (w : World) (bk g : Nat) (P : Nat → Prop) (t : Nat) (r : Option (Nat × St)) (v6 : Value) (wr : World) : Prop :=
  ∃ (n : Nat) (s : St), 1 ≤ n ∧ n ≤ 21 ∧ v6 = .int .i64 (n : Int) ∧ SAt wr bk g P s ∧ (glen t (21 - n) n s).bind (fun x => gfin t x.1 x.2) = r ∧ Mod (fun j => j = g ∨ j = bk) w wr

set_option maxRecDepth 100000 in
set_option maxHeartbeats 4000000 in
theorem bGetNum (w : World) (bk g : Nat) (P : Nat → Prop) (hPg : ¬ P g) (hPb : ¬ P bk) (hPw : ∀ j, P j → j < w.heap.size) (hgb : g ≠ bk) (s : St) (t : Nat) (ht : t < 16) (h : SAt w bk g P s) :
    Calls Tryz.prog 159 #[.pointer (some ⟨bk, t * 37, none⟩), .pointer (some ⟨g, 0, none⟩)] w (SPost w bk g P (snum t s)) := by
  obtain ⟨tg, htg⟩ : ∃ tg, tg = snum t s := ⟨_, rfl⟩
  rw [← htg]
  have HH := Lib.hid (And.intro h (And.intro hPw htg))
  clear h hPw htg
  go_enter Tryz.func159, Tryz.ntmps159
  go_wp2_with fail
  go_loopw [6] (LenRel w bk g P t tg) (fun i _ => 21 - (intOf i).toNat)
  case atStart => exact ⟨1, s, by omega, by omega, rfl, HH.out.1, HH.out.2.2.symm, Mod.refl _ _⟩
  case round =>
    obtain ⟨n, s1, hn1, hn2, rfl, hs, hg, hM⟩ := hrel
    by_cases hlt : n < 21
    · have d1 : decide ((n : Int) < 21) = true := decide_eq_true (by omega)
      have hge : (glen t (21 - n) n s1).bind (fun x => gfin t x.1 x.2) = (sget s1 (t * 37 + (n - 1))).bind fun x => if x.1 = 0 then gfin t n x.2 else (glen t (21 - (n + 1)) (n + 1) x.2).bind (fun x => gfin t x.1 x.2) := by
        rw [show 21 - n = (21 - (n + 1)) + 1 by omega]
        simp only [glen, Option.bind_assoc]
        congr 1
        funext x
        split <;> rfl
      rw [hg] at hge
      have G2 := bGet_at wr bk g P hPg hPb hgb s1 (t * 37 + (n - 1)) (by omega) hs
      have HB := Lib.hid (And.intro hge hM)
      clear hge hg hM hs
      have p1 : (0 : Int) ≤ (n : Int) - 1 := by omega
      have p2 : ((n : Int) - 1).toNat = n - 1 := by omega
      have p3 : (n : Int) - 1 < 20 := by omega
      have p4 : (1 : Int) ≤ (n : Int) := by omega
      --ROUND
      go_wp2_with fail
      refine G2.mono ?_
      clear G2
      rintro e w3 (⟨hr, er, her, rfl, hm3⟩ | ⟨v, s3, hr, rfl, hs3, hm3⟩)
      · have her2 : (er != 0) = true := by simp [bne, her]
        have HR : Hid (tg = none) := by show _ = _; rw [HB.out.1, hr]; rfl
        have HM3 := Lib.hid (HB.out.2.trans hm3)
        have HE := Lib.hid her
        clear hr hm3 her
        go_wp2_with fail
        go_ret2
        exact .inl ⟨HR.out, er, HE.out, rfl, HM3.out⟩
      · have hv := sget_bit hr
        rcases Nat.eq_zero_or_pos v with hv0 | hv0
        · subst hv0
          have HS : Hid (SAt w3 bk g P s3 ∧ tg = gfin t n s3 ∧ Mod (fun j => j = g ∨ j = bk) w w3) := ⟨hs3, by rw [HB.out.1, hr]; rfl, HB.out.2.trans hm3⟩
          clear hr hm3 hs3 HB
          have L2 := bGetLow w3 bk g P hPg hPb (fun j hj => Nat.lt_of_lt_of_le (HH.out.2.1 j hj) HS.out.2.2.size) hgb s3 t (n - 1) ht (by omega) HS.out.1
          have q1 : ((n - 1 : Nat) : Int) = (n : Int) - 1 := by omega
          rw [q1] at L2
          clear q1
          go_wp2_with fail
          refine L2.mono ?_
          clear L2
          rintro e w5 (⟨hr, er, her, rfl, hm5⟩ | ⟨lo, s5, hr, rfl, hs5, hm5⟩)
          · have her2 : (er != 0) = true := by simp [bne, her]
            have HR : Hid (tg = none) := by show _ = _; rw [HS.out.2.1]; unfold gfin; rw [hr]; rfl
            have HM5 := Lib.hid (HS.out.2.2.trans hm5)
            have HE := Lib.hid her
            clear hr hm5 her
            go_wp2_with fail
            go_ret2
            exact .inl ⟨HR.out, er, HE.out, rfl, HM5.out⟩
          · have hlo := glow_lt t (n - 1) 0 0 _ lo s5 (by simp) hr
            rw [Nat.zero_add] at hlo
            have HR : Hid (tg = if 1048576 < 2 ^ (n - 1) + lo - 1 then none else some (2 ^ (n - 1) + lo - 1, s5)) := by show _ = _; rw [HS.out.2.1]; unfold gfin; rw [hr]; rfl
            have hp1 : 2 ^ (n - 1) ≤ 2 ^ 20 := Nat.pow_le_pow_right (by omega) (by omega)
            have hp0 : 1 ≤ 2 ^ (n - 1) := Nat.one_le_two_pow
            have hpi : (2 : Int) ^ (n - 1) = ((2 ^ (n - 1) : Nat) : Int) := by simp
            have HP := Lib.hid hpi
            obtain ⟨pw, hpw⟩ : ∃ pw, pw = 2 ^ (n - 1) := ⟨_, rfl⟩
            rw [← hpw] at hlo HR hp1 hp0 HP
            have HPW := Lib.hid hpw
            have HM5 := Lib.hid (And.intro (HS.out.2.2.trans hm5) hs5)
            clear hr hm5 hs5 hpw hpi
            go_upto_region 12 with (fail)
            rw [show wrap64 (wrap64 (wrap64 ((2 : Int) ^ (n - 1)) + (lo : Int)) - 1) = ((pw + lo - 1 : Nat) : Int) by rw [HP.out]; unfold wrap64; omega]
            obtain ⟨nv, hnv⟩ : ∃ nv, nv = pw + lo - 1 := ⟨_, rfl⟩
            rw [← hnv] at HR ⊢
            have hnb : nv < 4194304 := by omega
            clear hnv
            by_cases hbig : 1048576 < nv
            · have dB : decide ((1048576 : Int) < (nv : Int)) = true := decide_eq_true (by omega)
              have HR2 : Hid (tg = none) := by show _ = _; rw [HR.out, if_pos hbig]
              go_wp2_with fail
              go_ret2
              exact .inl ⟨HR2.out, 51, rfl, rfl, HM5.out.1⟩
            · have dB : decide ((1048576 : Int) < (nv : Int)) = false := decide_eq_false (by omega)
              have HR2 : Hid (tg = some (nv, s5)) := by show _ = _; rw [HR.out, if_neg hbig]
              go_wp2_with fail
              go_ret2
              exact .inr ⟨nv, s5, HR2.out, rfl, HM5.out.2, HM5.out.1⟩
        · obtain rfl : v = 1 := by omega
          have HS : Hid (SAt w3 bk g P s3 ∧ tg = (glen t (21 - (n + 1)) (n + 1) s3).bind (fun x => gfin t x.1 x.2) ∧ Mod (fun j => j = g ∨ j = bk) w w3) := ⟨hs3, by rw [HB.out.1, hr]; rfl, HB.out.2.trans hm3⟩
          clear hr hm3 hs3 HB
          go_wp2_with fail
          go_roundw
          case rel => exact ⟨n + 1, s3, by omega, by omega, by go_num, HS.out.1, HS.out.2.1.symm, HS.out.2.2⟩
          case measure => simp [intOf]; omega
    · have d1 : decide ((n : Int) < 21) = false := decide_eq_false (by omega)
      have HS : Hid (SAt wr bk g P s1 ∧ tg = gfin t n s1 ∧ Mod (fun j => j = g ∨ j = bk) w wr) := ⟨hs, by rw [← hg, show 21 - n = 0 by omega]; rfl, hM⟩
      clear hs hg hM
      have L2 := bGetLow wr bk g P hPg hPb (fun j hj => Nat.lt_of_lt_of_le (HH.out.2.1 j hj) HS.out.2.2.size) hgb s1 t (n - 1) ht (by omega) HS.out.1
      have q1 : ((n - 1 : Nat) : Int) = (n : Int) - 1 := by omega
      rw [q1] at L2
      clear q1
      go_wp2_with fail
      refine L2.mono ?_
      clear L2
      rintro e w5 (⟨hr, er, her, rfl, hm5⟩ | ⟨lo, s5, hr, rfl, hs5, hm5⟩)
      · have her2 : (er != 0) = true := by simp [bne, her]
        have HR : Hid (tg = none) := by show _ = _; rw [HS.out.2.1]; unfold gfin; rw [hr]; rfl
        have HM5 := Lib.hid (HS.out.2.2.trans hm5)
        have HE := Lib.hid her
        clear hr hm5 her
        go_wp2_with fail
        go_ret2
        exact .inl ⟨HR.out, er, HE.out, rfl, HM5.out⟩
      · have hlo := glow_lt t (n - 1) 0 0 _ lo s5 (by simp) hr
        rw [Nat.zero_add] at hlo
        have HR : Hid (tg = if 1048576 < 2 ^ (n - 1) + lo - 1 then none else some (2 ^ (n - 1) + lo - 1, s5)) := by show _ = _; rw [HS.out.2.1]; unfold gfin; rw [hr]; rfl
        have hp1 : 2 ^ (n - 1) ≤ 2 ^ 20 := Nat.pow_le_pow_right (by omega) (by omega)
        have hp0 : 1 ≤ 2 ^ (n - 1) := Nat.one_le_two_pow
        have hpi : (2 : Int) ^ (n - 1) = ((2 ^ (n - 1) : Nat) : Int) := by simp
        have HP := Lib.hid hpi
        obtain ⟨pw, hpw⟩ : ∃ pw, pw = 2 ^ (n - 1) := ⟨_, rfl⟩
        rw [← hpw] at hlo HR hp1 hp0 HP
        have HPW := Lib.hid hpw
        have HM5 := Lib.hid (And.intro (HS.out.2.2.trans hm5) hs5)
        clear hr hm5 hs5 hpw hpi
        go_upto_region 12 with (fail)
        rw [show wrap64 (wrap64 (wrap64 ((2 : Int) ^ (n - 1)) + (lo : Int)) - 1) = ((pw + lo - 1 : Nat) : Int) by rw [HP.out]; unfold wrap64; omega]
        obtain ⟨nv, hnv⟩ : ∃ nv, nv = pw + lo - 1 := ⟨_, rfl⟩
        rw [← hnv] at HR ⊢
        have hnb : nv < 4194304 := by omega
        clear hnv
        by_cases hbig : 1048576 < nv
        · have dB : decide ((1048576 : Int) < (nv : Int)) = true := decide_eq_true (by omega)
          have HR2 : Hid (tg = none) := by show _ = _; rw [HR.out, if_pos hbig]
          go_wp2_with fail
          go_ret2
          exact .inl ⟨HR2.out, 51, rfl, rfl, HM5.out.1⟩
        · have dB : decide ((1048576 : Int) < (nv : Int)) = false := decide_eq_false (by omega)
          have HR2 : Hid (tg = some (nv, s5)) := by show _ = _; rw [HR.out, if_neg hbig]
          go_wp2_with fail
          go_ret2
          exact .inr ⟨nv, s5, HR2.out, rfl, HM5.out.2, HM5.out.1⟩
end Go.Proofs.YteppnjgfebcmjaaGreat

/-
  book.Book: Get, GetSigned, GetOne.
-/
namespace Go.Proofs.YteppnjgfebcmjaaGreat
open Go.RowKit

set_option maxRecDepth 100000 in
set_option maxHeartbeats 1000000 in
theorem bookGet (w : World) (bk g : Nat) (P : Nat → Prop) (hPg : ¬ P g) (hPb : ¬ P bk) (hPw : ∀ j, P j → j < w.heap.size) (hgb : g ≠ bk) (s : St) (t : Nat) (ht : t < 16) (h : SAt w bk g P s) :
    Calls Tryz.prog 163 #[.pointer (some ⟨bk, 0, none⟩), .pointer (some ⟨g, 0, none⟩), .int .i64 (t : Int)] w (SPost w bk g P (snum t s)) := by
  have N1 := bGetNum w bk g P hPg hPb hPw hgb s t ht h
  clear h hPw
  go_enter Tryz.func163, Tryz.ntmps163
  go_wp2_with fail
  refine (bTopic _ bk t ht).mono ?_
  rintro e w1 ⟨rfl, rfl⟩
  go_wp2_with fail
  refine N1.mono ?_
  rintro e w2 (⟨hr, er, her, rfl, hm⟩ | ⟨v, s2, hr, rfl, hs, hm⟩)
  · have HH := Lib.hid (And.intro hr (And.intro her hm))
    clear hr her hm
    go_wp2_with fail
    go_ret2
    exact .inl ⟨HH.out.1, er, HH.out.2.1, rfl, HH.out.2.2⟩
  · have HH := Lib.hid (And.intro hr (And.intro hs hm))
    clear hr hs hm
    go_wp2_with fail
    go_ret2
    exact .inr ⟨v, s2, HH.out.1, rfl, HH.out.2.1, HH.out.2.2⟩

/-- The next number with a sign. -/
def ssigned (t : Nat) (s : St) : Option (Int × St) := (snum t s).bind fun x => if x.1 = 0 then some (0, x.2) else (sget x.2 (t * 37 + 36)).map fun y => (if y.1 = 1 then -(x.1 : Int) else (x.1 : Int), y.2)
def SPostI (w : World) (bk g : Nat) (P : Nat → Prop) (r : Option (Int × St)) (e : Ending) (w' : World) : Prop :=
  (r = none ∧ ∃ er : Int, (er == 0) = false ∧ e = .returned (.tuple #[.int .i64 0, .int .i64 er]) ∧ Mod (fun j => j = g ∨ j = bk) w w') ∨
  ∃ (v : Int) (s' : St), r = some (v, s') ∧ e = .returned (.tuple #[.int .i64 v, .int .i64 0]) ∧ SAt w' bk g P s' ∧ Mod (fun j => j = g ∨ j = bk) w w'
theorem snum_le {t : Nat} {s s' : St} {v : Nat} (h : snum t s = some (v, s')) : v ≤ 1048576 := by
  unfold snum gfin at h
  simp only [Option.bind_eq_some_iff] at h
  obtain ⟨x, _, y, _, h3⟩ := h
  split at h3
  · cases h3
  · simp at h3; omega
theorem ssigned_le {t : Nat} {s s' : St} {v : Int} (h : ssigned t s = some (v, s')) : -1048576 ≤ v ∧ v ≤ 1048576 := by
  unfold ssigned at h
  simp only [Option.bind_eq_some_iff] at h
  obtain ⟨⟨x, s1⟩, h1, h3⟩ := h
  have := snum_le h1
  dsimp only at h3
  split at h3
  · simp at h3; omega
  · simp only [Option.map_eq_some_iff] at h3
    obtain ⟨y, _, h4⟩ := h3
    simp at h4
    split at h4 <;> omega

set_option maxRecDepth 100000 in
set_option maxHeartbeats 1000000 in
theorem bookSigned (w : World) (bk g : Nat) (P : Nat → Prop) (hPg : ¬ P g) (hPb : ¬ P bk) (hPw : ∀ j, P j → j < w.heap.size) (hgb : g ≠ bk) (s : St) (t : Nat) (ht : t < 16) (h : SAt w bk g P s) :
    Calls Tryz.prog 135 #[.pointer (some ⟨bk, 0, none⟩), .pointer (some ⟨g, 0, none⟩), .int .i64 (t : Int)] w (SPostI w bk g P (ssigned t s)) := by
  have N1 := bGetNum w bk g P hPg hPb hPw hgb s t ht h
  clear h hPw
  obtain ⟨tg, htg⟩ : ∃ tg, tg = ssigned t s := ⟨_, rfl⟩
  rw [← htg]
  unfold ssigned at htg
  have HT := Lib.hid htg
  clear htg
  go_enter Tryz.func135, Tryz.ntmps135
  go_wp2_with fail
  refine (bTopic _ bk t ht).mono ?_
  rintro e w1 ⟨rfl, rfl⟩
  go_wp2_with fail
  refine N1.mono ?_
  clear N1
  rintro e w2 (⟨hr, er, her, rfl, hm⟩ | ⟨v, s2, hr, rfl, hs, hm⟩)
  · have her2 : (er != 0) = true := by simp [bne, her]
    have HR : Hid (tg = none) := by show _ = _; rw [HT.out, hr]; rfl
    have HH := Lib.hid (And.intro her hm)
    clear hr her hm
    go_wp2_with fail
    go_ret2
    exact .inl ⟨HR.out, er, HH.out.1, rfl, HH.out.2⟩
  · have hv := snum_le hr
    by_cases hv0 : v = 0
    · subst hv0
      have HR : Hid (tg = some (0, s2)) := by show _ = _; rw [HT.out, hr]; rfl
      have HH := Lib.hid (And.intro hs hm)
      clear hr hs hm
      go_wp2_with fail
      go_ret2
      exact .inr ⟨0, s2, HR.out, rfl, HH.out.1, HH.out.2⟩
    · have d0 : ((v : Int) == 0) = false := beq_eq_false_iff_ne.2 (by omega)
      have HR : Hid (tg = (sget s2 (t * 37 + 36)).map fun y => (if y.1 = 1 then -(v : Int) else (v : Int), y.2)) := by show _ = _; rw [HT.out, hr]; exact if_neg hv0
      have G2 := bGet_at w2 bk g P hPg hPb hgb s2 (t * 37 + 36) (by omega) hs
      have HH := Lib.hid hm
      clear hr hs hm
      go_wp2_with fail
      refine G2.mono ?_
      clear G2
      rintro e w3 (⟨hr, er, her, rfl, hm3⟩ | ⟨b, s3, hr, rfl, hs3, hm3⟩)
      · have her2 : (er != 0) = true := by simp [bne, her]
        have HR3 : Hid (tg = none) := by show _ = _; rw [HR.out, hr]; rfl
        have HH3 := Lib.hid (And.intro her (HH.out.trans hm3))
        clear hr her hm3
        go_wp2_with fail
        go_ret2
        exact .inl ⟨HR3.out, er, HH3.out.1, rfl, HH3.out.2⟩
      · have hb := sget_bit hr
        have HR3 : Hid (tg = some (if b = 1 then -(v : Int) else (v : Int), s3)) := by show _ = _; rw [HR.out, hr]; rfl
        have HH3 := Lib.hid (And.intro hs3 (HH.out.trans hm3))
        clear hr hs3 hm3
        rcases Nat.eq_zero_or_pos b with hb0 | hb0
        · subst hb0
          go_wp2_with fail
          go_ret2
          exact .inr ⟨_, s3, HR3.out, rfl, HH3.out.1, HH3.out.2⟩
        · obtain rfl : b = 1 := by omega
          go_wp2_with fail
          go_ret2
          exact .inr ⟨_, s3, HR3.out, rfl, HH3.out.1, HH3.out.2⟩

set_option maxRecDepth 100000 in
set_option maxHeartbeats 1000000 in
theorem bitsLen64_2 (w : World) : Calls Tryz.prog 158 #[.int .u64 2] w fun e w' => e = .returned (.int .i64 2) ∧ w = w' := by
  go_enter Tryz.func158, Tryz.ntmps158
  go_wp2_with fail
  go_ret
  exact ⟨by kernel_rfl, rfl⟩
theorem bitsLen2 (w : World) : Calls Tryz.prog 134 #[.int .u64 2] w fun e w' => e = .returned (.int .i64 2) ∧ w = w' := by
  go_enter Tryz.func134, Tryz.ntmps134
  go_wp2_with fail
  refine (bitsLen64_2 _).mono ?_
  rintro e w1 ⟨rfl, rfl⟩
  go_wp2_with fail
  go_ret
  exact ⟨rfl, rfl⟩
set_option maxRecDepth 100000 in
set_option maxHeartbeats 1000000 in
theorem bitsLen64_3 (w : World) : Calls Tryz.prog 158 #[.int .u64 3] w fun e w' => e = .returned (.int .i64 2) ∧ w = w' := by
  go_enter Tryz.func158, Tryz.ntmps158
  go_wp2_with fail
  go_ret
  exact ⟨by kernel_rfl, rfl⟩
theorem bitsLen3 (w : World) : Calls Tryz.prog 134 #[.int .u64 3] w fun e w' => e = .returned (.int .i64 2) ∧ w = w' := by
  go_enter Tryz.func134, Tryz.ntmps134
  go_wp2_with fail
  refine (bitsLen64_3 _).mono ?_
  rintro e w1 ⟨rfl, rfl⟩
  go_wp2_with fail
  go_ret
  exact ⟨rfl, rfl⟩

/-- The next choice of n (three or four) ways. -/
def sone (t n : Nat) (s : St) : Option (Nat × St) := (glow t 2 0 0 s).bind fun y => if n ≤ y.1 then none else some y
set_option maxRecDepth 100000 in
set_option maxHeartbeats 1000000 in
theorem bookOne3 (w : World) (bk g : Nat) (P : Nat → Prop) (hPg : ¬ P g) (hPb : ¬ P bk) (hPw : ∀ j, P j → j < w.heap.size) (hgb : g ≠ bk) (s : St) (t : Nat) (ht : t < 16) (h : SAt w bk g P s) :
    Calls Tryz.prog 104 #[.pointer (some ⟨bk, 0, none⟩), .pointer (some ⟨g, 0, none⟩), .int .i64 (t : Int), .int .i64 3] w (SPost w bk g P (sone t 3 s)) := by
  have N1 := bGetLow w bk g P hPg hPb hPw hgb s t 2 ht (by omega) h
  clear h hPw
  obtain ⟨tg, htg⟩ : ∃ tg, tg = sone t 3 s := ⟨_, rfl⟩
  rw [← htg]
  unfold sone at htg
  have HT := Lib.hid htg
  clear htg
  go_enter Tryz.func104, Tryz.ntmps104
  go_wp2_with fail
  refine (bTopic _ bk t ht).mono ?_
  rintro e w1 ⟨rfl, rfl⟩
  go_wp2_with fail
  refine (bitsLen2 _).mono ?_
  rintro e w1 ⟨rfl, rfl⟩
  go_wp2_with fail
  refine N1.mono ?_
  clear N1
  rintro e w2 (⟨hr, er, her, rfl, hm⟩ | ⟨v, s2, hr, rfl, hs, hm⟩)
  · have her2 : (er != 0) = true := by simp [bne, her]
    have HR : Hid (tg = none) := by show _ = _; rw [HT.out, hr]; rfl
    have HH := Lib.hid (And.intro her hm)
    clear hr her hm
    go_wp2_with fail
    go_ret2
    exact .inl ⟨HR.out, er, HH.out.1, rfl, HH.out.2⟩
  · have HH := Lib.hid (And.intro hs hm)
    by_cases hv : 3 ≤ v
    · have d1 : decide ((3 : Int) ≤ (v : Int)) = true := decide_eq_true (by omega)
      have HR : Hid (tg = none) := by show _ = _; rw [HT.out, hr]; exact if_pos hv
      clear hr hs hm
      go_wp2_with fail
      go_ret2
      exact .inl ⟨HR.out, 51, rfl, rfl, HH.out.2⟩
    · have d1 : decide ((3 : Int) ≤ (v : Int)) = false := decide_eq_false (by omega)
      have HR : Hid (tg = some (v, s2)) := by show _ = _; rw [HT.out, hr]; exact if_neg hv
      clear hr hs hm
      go_wp2_with fail
      go_ret2
      exact .inr ⟨v, s2, HR.out, rfl, HH.out.1, HH.out.2⟩
set_option maxRecDepth 100000 in
set_option maxHeartbeats 1000000 in
theorem bookOne4 (w : World) (bk g : Nat) (P : Nat → Prop) (hPg : ¬ P g) (hPb : ¬ P bk) (hPw : ∀ j, P j → j < w.heap.size) (hgb : g ≠ bk) (s : St) (t : Nat) (ht : t < 16) (h : SAt w bk g P s) :
    Calls Tryz.prog 104 #[.pointer (some ⟨bk, 0, none⟩), .pointer (some ⟨g, 0, none⟩), .int .i64 (t : Int), .int .i64 4] w (SPost w bk g P (sone t 4 s)) := by
  have N1 := bGetLow w bk g P hPg hPb hPw hgb s t 2 ht (by omega) h
  clear h hPw
  obtain ⟨tg, htg⟩ : ∃ tg, tg = sone t 4 s := ⟨_, rfl⟩
  rw [← htg]
  unfold sone at htg
  have HT := Lib.hid htg
  clear htg
  go_enter Tryz.func104, Tryz.ntmps104
  go_wp2_with fail
  refine (bTopic _ bk t ht).mono ?_
  rintro e w1 ⟨rfl, rfl⟩
  go_wp2_with fail
  refine (bitsLen3 _).mono ?_
  rintro e w1 ⟨rfl, rfl⟩
  go_wp2_with fail
  refine N1.mono ?_
  clear N1
  rintro e w2 (⟨hr, er, her, rfl, hm⟩ | ⟨v, s2, hr, rfl, hs, hm⟩)
  · have her2 : (er != 0) = true := by simp [bne, her]
    have HR : Hid (tg = none) := by show _ = _; rw [HT.out, hr]; rfl
    have HH := Lib.hid (And.intro her hm)
    clear hr her hm
    go_wp2_with fail
    go_ret2
    exact .inl ⟨HR.out, er, HH.out.1, rfl, HH.out.2⟩
  · have HH := Lib.hid (And.intro hs hm)
    by_cases hv : 4 ≤ v
    · have d1 : decide ((4 : Int) ≤ (v : Int)) = true := decide_eq_true (by omega)
      have HR : Hid (tg = none) := by show _ = _; rw [HT.out, hr]; exact if_pos hv
      clear hr hs hm
      go_wp2_with fail
      go_ret2
      exact .inl ⟨HR.out, 51, rfl, rfl, HH.out.2⟩
    · have d1 : decide ((4 : Int) ≤ (v : Int)) = false := decide_eq_false (by omega)
      have HR : Hid (tg = some (v, s2)) := by show _ = _; rw [HT.out, hr]; exact if_neg hv
      clear hr hs hm
      go_wp2_with fail
      go_ret2
      exact .inr ⟨v, s2, HR.out, rfl, HH.out.1, HH.out.2⟩
end Go.Proofs.YteppnjgfebcmjaaGreat

/-
  A region that draws its order, walked by a plan, where some reads may float past calls that make memory: they read the same in every world that meets S, and each write and call leaves S.
-/
namespace Go.Proofs.YteppnjgfebcmjaaGreat

section
variable {P : Program} {ops : Array Oper} {md : Region.Mode} {loud pure_ : List Nat} {S : World → Prop} {Q : Exit → Act → World → Prop}
def wpY (P : Program) (md : Region.Mode) (ops : Array Oper) (loud : List Nat) (S : World → Prop) (Q : Exit → Act → World → Prop) : Nat → Array Bool → Act → World → Prop
  | 0, listed, a, w => Region.ready md ops listed = [] ∧ Q .normal a w
  | f + 1, listed, a, w => (Region.ready md ops listed = [] → Q .normal a w) ∧ ∀ i ∈ Region.ready md ops listed,
      if i ∈ loud then wpOp P ops Q i (fun a' w' => S w' ∧ wpY P md ops loud S Q f (listed.setIfInBounds i true) a' w') a w
      else stOp P ops w i (fun a' => wpY P md ops loud S Q f (listed.setIfInBounds i true) a' w) a
theorem wpY_any : ∀ (f : Nat) (listed : Array Bool) (a : Act) (w : World), wpY P md ops loud S Q f listed a w → wpAny P md ops Q f listed a w
  | 0, _, _, _, h => h
  | f + 1, listed, a, w, h => ⟨h.1, fun i hi => by
      have h2 := h.2 i hi
      split at h2
      · exact wpOp_mono (fun a' w' h' => wpY_any f _ a' w' h'.2) h2
      · exact wpOp_of_stOp (fun a' h' => wpY_any f _ a' w h') h2⟩

theorem wpY_still {B : Array Nat} (hB : waitB md ops B = true) (hsel : ∀ (j : Nat) (o : Oper) cs b, ops[j]? = some o → o.op ≠ .select cs b) {i : Nat} {oi : Oper} {v : Value} (hi : ops[i]? = some oi) (hil : i ∉ loud) {w : World} :
    ∀ (f : Nat) (listed : Array Bool) (a : Act), (∀ j ∈ loud, (B.getD j 0).testBit i = true ∨ listed.getD j true = true) → Closed md ops listed →
      (∀ j oj, ops[j]? = some oj → j ≠ i → listed.getD j true = false → (∀ e ∈ oj.after, Region.binds md e = true → e.on ≠ i) → oi.apart ops oj = true) →
      i ∈ Region.ready md ops listed → YieldsAt P ops w oi v a →
      wpY P md ops loud S Q f (listed.setIfInBounds i true) (a.put oi.dst v) w → wpY P md ops loud S Q (f + 1) listed a w := by
  intro f
  induction f with
  | zero =>
    intro listed a _ hc hfree hr hy H
    refine ⟨fun h => (by rw [h] at hr; cases hr), fun j hj => ?_⟩
    obtain rfl := ready_set_nil H.1 hj
    rw [if_neg hil]
    exact hy.stOp hi H
  | succ f ih =>
    intro listed a hw hc hfree hr hy H
    refine ⟨fun h => (by rw [h] at hr; cases hr), fun j hj => ?_⟩
    by_cases hji : j = i
    · subst hji
      rw [if_neg hil]
      exact hy.stOp hi H
    · obtain ⟨hjun, oj, hoj, hall⟩ := mem_ready.1 hj
      have hjl : j ∉ loud := fun hjl => by
        rcases hw j hjl with h | h
        · have h2 := waits_listed hB hc j j (Nat.le_refl _) oj hoj hall i (Array.getElem?_eq_some_iff.1 hi).1 h
          rw [getD_both (mem_ready.1 hr).1] at h2
          cases h2
        · rw [hjun] at h
          cases h
      have h1 := H.2 j (ready_mono hj hji)
      rw [if_neg hjl] at h1 ⊢
      refine stOp_mono (fun a' h3 => ih (listed.setIfInBounds j true) a' (fun k hk => (hw k hk).imp id getD_keep) (hc.set hj) (free_set hfree hjun) (ready_mono hr (Ne.symm hji)) h3.1 ?_)
        (stOp_put hoj (hfree j oj hoj hji hjun (not_waiting hr hall)) (fun cs b => hsel i oi cs b hi) (fun cs b => hsel j oj cs b hoj) hy h1)
      rw [Array.setIfInBounds_comm _ _ hji]
      exact h3.2

theorem stOp_putIf {j : Nat} {oi oj : Oper} {v : Value} {w : World} (hj : ops[j]? = some oj) (hap : oi.apart ops oj = true)
    (hsi : ∀ cs b, oi.op ≠ .select cs b) (hsj : ∀ cs b, oj.op ≠ .select cs b) {K : Act → Prop} {a : Act}
    (hy : YieldsIf P ops S oi v a) (h : stOp P ops w j K (a.put oi.dst v)) :
    stOp P ops w j (fun a' => YieldsIf P ops S oi v a' ∧ K (a'.put oi.dst v)) a := by
  obtain ⟨h1, h2, h3⟩ := Oper.apart_spec hap
  have keep : ∀ u, YieldsIf P ops S oi v (a.put oj.dst u) := fun u => hy.of_same (execOp_put oi hsi a oj.dst u h3) (wanted_put oi a oj.dst u h3)
  unfold stOp at *
  simp only [hj] at *
  rw [wanted_put oj a oi.dst v h1] at h
  split
  · rename_i hw
    simp only [hw, if_true] at h
    unfold Oper.still at *
    rw [execOp_put oj hsj a oi.dst v h1] at h
    generalize (execOp a.eval oj).run P w = r at *
    cases r with
    | ok n w' =>
      cases n <;> simp only [Oper.stillUpon] at h ⊢
      case value u => exact ⟨h.1, keep u, by rw [← Act.put_comm a v u h2]; exact h.2⟩
      case skip => exact ⟨h.1, keep _, by rw [← Act.put_comm a v undef h2]; exact h.2⟩
      case enter f args => obtain ⟨hw', u, hc, hn⟩ := h; exact ⟨hw', u, hc, keep u, by rw [← Act.put_comm a v u h2]; exact hn⟩
    | halt x w' => simp only [Oper.stillUpon] at h
  · rename_i hw
    simp only [hw] at h
    exact ⟨keep _, by rw [← Act.put_comm a v undef h2]; exact h⟩

/-- What yields the same in every world that meets S. -/
theorem wpY_if (hsel : ∀ (j : Nat) (o : Oper) cs b, ops[j]? = some o → o.op ≠ .select cs b) {i : Nat} {oi : Oper} {v : Value} (hi : ops[i]? = some oi) (hil : i ∉ loud)
    (hQ : ∀ c a w d u, Q (.panic c) (a.put d u) w → Q (.panic c) a w) :
    ∀ (f : Nat) (listed : Array Bool) (a : Act) (w : World), S w →
      (∀ j oj, ops[j]? = some oj → j ≠ i → listed.getD j true = false → (∀ e ∈ oj.after, Region.binds md e = true → e.on ≠ i) → oi.apart ops oj = true) →
      i ∈ Region.ready md ops listed → YieldsIf P ops S oi v a →
      wpY P md ops loud S Q f (listed.setIfInBounds i true) (a.put oi.dst v) w → wpY P md ops loud S Q (f + 1) listed a w := by
  have here : ∀ {K : Act → Prop} {a : Act} {w : World}, S w → YieldsIf P ops S oi v a → K (a.put oi.dst v) → stOp P ops w i K a := fun {K a w} hS hy h => by
    unfold stOp
    simp only [hi]
    rcases hy with ⟨hw, hv⟩ | ⟨hw, rfl⟩
    · simp only [hw, if_true, Oper.still, hv w hS, Oper.stillUpon]; exact ⟨trivial, h⟩
    · simp only [hw, Bool.false_eq_true, if_false]; exact h
  intro f
  induction f with
  | zero =>
    intro listed a w hS hfree hr hy H
    refine ⟨fun h => (by rw [h] at hr; cases hr), fun j hj => ?_⟩
    obtain rfl := ready_set_nil H.1 hj
    rw [if_neg hil]
    exact here hS hy H
  | succ f ih =>
    intro listed a w hS hfree hr hy H
    refine ⟨fun h => (by rw [h] at hr; cases hr), fun j hj => ?_⟩
    by_cases hji : j = i
    · subst hji
      rw [if_neg hil]
      exact here hS hy H
    · obtain ⟨hjun, oj, hoj, hall⟩ := mem_ready.1 hj
      have h1 := H.2 j (ready_mono hj hji)
      split
      · rename_i hjl
        rw [if_pos hjl] at h1
        refine wpOp_mono (fun a' w' h3 => ⟨h3.2.1, ih (listed.setIfInBounds j true) a' w' h3.2.1 (free_set hfree hjun) (ready_mono hr (Ne.symm hji)) h3.1 ?_⟩)
          (wpOp_putIf hoj (hfree j oj hoj hji hjun (not_waiting hr hall)) (fun cs b => hsel i oi cs b hi) (fun cs b => hsel j oj cs b hoj) (fun c a w h => hQ c a w _ _ h) hy h1)
        rw [Array.setIfInBounds_comm _ _ hji]
        exact h3.2.2
      · rename_i hjl
        rw [if_neg hjl] at h1
        refine stOp_mono (fun a' h3 => ih (listed.setIfInBounds j true) a' w hS (free_set hfree hjun) (ready_mono hr (Ne.symm hji)) h3.1 ?_)
          (stOp_putIf hoj (hfree j oj hoj hji hjun (not_waiting hr hall)) (fun cs b => hsel i oi cs b hi) (fun cs b => hsel j oj cs b hoj) hy h1)
        rw [Array.setIfInBounds_comm _ _ hji]
        exact h3.2

def wpPlanS (P : Program) (ops : Array Oper) (loud pure_ : List Nat) (S : World → Prop) (Q : Exit → Act → World → Prop) : List Nat → Act → World → Prop
  | [], a, w => Q .normal a w
  | i :: is, a, w => if loud.contains i then wpOp P ops Q i (fun a' w' => S w' ∧ wpPlanS P ops loud pure_ S Q is a' w') a w
    else if pure_.contains i then ∃ o v, ops[i]? = some o ∧ YieldsIf P ops S o v a ∧ wpPlanS P ops loud pure_ S Q is (a.put o.dst v) w
    else stOp P ops w i (fun a' => wpPlanS P ops loud pure_ S Q is a' w) a

theorem wpY_plan {B : Array Nat} (hB : waitB md ops B = true) (hs : Region.noSelect ops = true) (hQ : ∀ c a w d u, Q (.panic c) (a.put d u) w → Q (.panic c) a w) :
    ∀ (is : List Nat) (listed : Array Bool) (a : Act) (w : World), S w → Closed md ops listed → planOk md ops loud pure_ B is listed = true → wpPlanS P ops loud pure_ S Q is a w → wpY P md ops loud S Q is.length listed a w
  | [], listed, a, w, _, hc, hp, h => ⟨by simpa [planOk] using hp, h⟩
  | i :: is, listed, a, w, hS, hc, hp, h => by
    simp only [planOk, Bool.and_eq_true] at hp
    obtain ⟨h1, h2⟩ := hp
    unfold wpPlanS at h
    by_cases hl : loud.contains i = true
    · rw [if_pos hl, decide_eq_true_eq] at h1
      rw [if_pos hl] at h
      have hr : i ∈ Region.ready md ops listed := by rw [h1]; simp
      refine ⟨fun h0 => (by rw [h0] at hr; cases hr), fun j hj => ?_⟩
      rw [h1] at hj
      obtain rfl : j = i := by simpa using hj
      rw [if_pos (by simpa using hl)]
      exact wpOp_mono (fun a' w' h' => ⟨h'.1, wpY_plan hB hs hQ is _ a' w' h'.1 (hc.set hr) h2 h'.2⟩) h
    · rw [if_neg hl] at h1 h
      simp only [Bool.and_eq_true, Bool.or_eq_true, List.all_eq_true] at h1
      obtain ⟨⟨hr, hf⟩, hw⟩ := h1
      have hr' : i ∈ Region.ready md ops listed := by simpa using hr
      have hil : i ∉ loud := by simpa using hl
      by_cases hpu : pure_.contains i = true
      · rw [if_pos hpu] at h
        obtain ⟨o, v, ho, hy, hk⟩ := h
        exact wpY_if (Region.noSelect_spec hs) ho hil hQ is.length listed a w hS (Region.free_spec ho hf) hr' hy (wpY_plan hB hs hQ is _ _ w hS (hc.set hr') h2 hk)
      · rw [if_neg hpu] at h
        have hw' := hw.resolve_left hpu
        obtain ⟨_, o, ho, _⟩ := mem_ready.1 hr'
        obtain ⟨v, hy, hk⟩ := yieldsAt_of_stOp ho h
        exact wpY_still hB (Region.noSelect_spec hs) ho hil is.length listed a (fun j hj => by simpa using hw' j hj) hc (Region.free_spec ho hf) hr' hy (wpY_plan hB hs hQ is _ _ w hS (hc.set hr') h2 hk)

theorem wp_region_planS0 {id : Nat} {a : Act} {w : World} (loud pure_ is : List Nat) (S : World → Prop) (hm : P.follows .mixedOrders = true) (hB : planB ops loud pure_ is = true)
    (hQ : ∀ c a w d u, Q (.panic c) (a.put d u) w → Q (.panic c) a w) (hS : S w.drew) (h : wpPlanS P ops loud pure_ S Q is a w.drew) : (Code.region id ops true).wp P Q a w := by
  simp only [planB, Bool.and_eq_true, decide_eq_true_eq] at hB
  obtain ⟨⟨⟨hs, hw⟩, hl⟩, hp⟩ := hB
  refine wp_region_any hm ?_
  have := wpY_any _ _ _ _ (wpY_plan (md := .any) hw hs hQ is _ a w.drew hS (fun j oj _ hl => by rw [getD_replicate_false] at hl; cases hl) hp h)
  rw [hl] at this
  exact this
theorem planS0_still {i : Nat} {is : List Nat} {o : Oper} {a : Act} {w : World} (hl : (loud.contains i || pure_.contains i) = false) (ho : ops[i]? = some o)
    (h : ∀ K : Act → Prop, (∀ a', wpPlanS P ops loud pure_ S Q is a' w → K a') → if Region.wanted o (yielded ops a.tmps) then o.still P a w K else K (a.put o.dst undef)) : wpPlanS P ops loud pure_ S Q (i :: is) a w := by
  rw [Bool.or_eq_false_iff] at hl
  unfold wpPlanS
  rw [if_neg (by simpa using hl.1), if_neg (by simpa using hl.2)]
  unfold stOp
  simp only [ho]
  exact h _ (fun a' h' => h')
theorem planS0_pure {i : Nat} {is : List Nat} {o : Oper} {a : Act} {w : World} {v : Value} (hl : (!loud.contains i && pure_.contains i) = true) (ho : ops[i]? = some o) (hg : Region.wanted o (yielded ops a.tmps) = true)
    (hr : ∀ w, S w → (execOp a.eval o).run P w = .ok (.value v) w) (h : wpPlanS P ops loud pure_ S Q is (a.put o.dst v) w) : wpPlanS P ops loud pure_ S Q (i :: is) a w := by
  rw [Bool.and_eq_true, Bool.not_eq_true'] at hl
  unfold wpPlanS
  rw [if_neg (by simpa using hl.1), if_pos hl.2]
  exact ⟨o, v, ho, .inl ⟨hg, hr⟩, h⟩
/-- What is not wanted. -/
theorem planS0_not {i : Nat} {is : List Nat} {o : Oper} {a : Act} {w : World} (hl : (!loud.contains i && pure_.contains i) = true) (ho : ops[i]? = some o) (hg : Region.wanted o (yielded ops a.tmps) = false)
    (h : wpPlanS P ops loud pure_ S Q is (a.put o.dst undef) w) : wpPlanS P ops loud pure_ S Q (i :: is) a w := by
  rw [Bool.and_eq_true, Bool.not_eq_true'] at hl
  unfold wpPlanS
  rw [if_neg (by simpa using hl.1), if_pos hl.2]
  exact ⟨o, undef, ho, .inr ⟨hg, rfl⟩, h⟩
theorem planS0_loud {i : Nat} {is : List Nat} {o : Oper} {a : Act} {w : World} (hl : loud.contains i = true) (ho : ops[i]? = some o)
    (h : ∀ K : Act → World → Prop, (∀ a w, S w → wpPlanS P ops loud pure_ S Q is a w → K a w) → if Region.wanted o (yielded ops a.tmps) = true then Oper.wp P o a w K Q else K (a.put o.dst undef) w) : wpPlanS P ops loud pure_ S Q (i :: is) a w := by
  unfold wpPlanS
  rw [if_pos hl]
  exact wpOp_step ho (fun K hK => h K (fun a w h1 h2 => hK a w ⟨h1, h2⟩))
/-- A whole row read, as a step of a plan. -/
theorem planS0_row {i : Nat} {is : List Nat} {o : Oper} {a : Act} {w : World} (hl : (loud.contains i || pure_.contains i) = false) (ho : ops[i]? = some o) (ty : TypeId) (x : Operand) (hop : o.op = .load ty x) (hw : Region.wanted o (yielded ops a.tmps) = true)
    (g : Nat) (hx : a.eval x = .pointer (some ⟨g, 0, none⟩)) (t : TypeId) (cs : Array Value) (d : TypeDesc) (hb : w.heap[g]? = some (.cells cs t (0, 0)))
    (hu : P.underlying ty = some d) (hd : (match d with | .struct _ | .array _ _ => true | _ => false) = true) (hi : (P.info? ty).map (·.size) = some cs.size)
    (h : wpPlanS P ops loud pure_ S Q is (a.put o.dst (.agg cs)) w) : wpPlanS P ops loud pure_ S Q (i :: is) a w := by
  refine planS0_still hl ho (fun K hK => ?_)
  rw [if_pos hw]
  unfold Oper.still execOp
  simp only [hop, hx, Instr.loadAt, Instr.sureAddr, Sem.run_bind, Sem.run_pure, Result.andThen_ok, run_loadVar_row w g t ty cs (0, 0) d hb hu hd hi]
  exact ⟨rfl, hK _ h⟩
theorem planS0_done {a : Act} {w : World} (h : Q .normal a w) : wpPlanS P ops loud pure_ S Q [] a w := h

/-- A plan behind a name that nothing takes apart (an elaborator that looks for a hidden 'for all' would run through the plan). -/
structure PlanG (P : Program) (ops : Array Oper) (loud pure_ : List Nat) (S : World → Prop) (Q : Exit → Act → World → Prop) (is : List Nat) (a : Act) (w : World) : Prop where
  out : wpPlanS P ops loud pure_ S Q is a w
theorem wp_region_planS {id : Nat} {a : Act} {w : World} (loud pure_ is : List Nat) (S : World → Prop) (hm : P.follows .mixedOrders = true) (hB : planB ops loud pure_ is = true)
    (hQ : ∀ c a w d u, Q (.panic c) (a.put d u) w → Q (.panic c) a w) (hS : S w.drew) (h : PlanG P ops loud pure_ S Q is a w.drew) : (Code.region id ops true).wp P Q a w :=
  wp_region_planS0 loud pure_ is S hm hB hQ hS h.out
theorem planS_still {i : Nat} {is : List Nat} {o : Oper} {a : Act} {w : World} (hl : (loud.contains i || pure_.contains i) = false) (ho : ops[i]? = some o)
    (h : ∀ K : Act → Prop, (∀ a', PlanG P ops loud pure_ S Q is a' w → K a') → if Region.wanted o (yielded ops a.tmps) then o.still P a w K else K (a.put o.dst undef)) : PlanG P ops loud pure_ S Q (i :: is) a w :=
  ⟨planS0_still hl ho (fun K hK => h K (fun a' h' => hK a' h'.out))⟩
theorem planS_pure {i : Nat} {is : List Nat} {o : Oper} {a : Act} {w : World} {v : Value} (hl : (!loud.contains i && pure_.contains i) = true) (ho : ops[i]? = some o) (hg : Region.wanted o (yielded ops a.tmps) = true)
    (hr : ∀ w, S w → (execOp a.eval o).run P w = .ok (.value v) w) (h : PlanG P ops loud pure_ S Q is (a.put o.dst v) w) : PlanG P ops loud pure_ S Q (i :: is) a w :=
  ⟨planS0_pure hl ho hg hr h.out⟩
/-- What is not wanted. -/
theorem planS_not {i : Nat} {is : List Nat} {o : Oper} {a : Act} {w : World} (hl : (!loud.contains i && pure_.contains i) = true) (ho : ops[i]? = some o) (hg : Region.wanted o (yielded ops a.tmps) = false)
    (h : PlanG P ops loud pure_ S Q is (a.put o.dst undef) w) : PlanG P ops loud pure_ S Q (i :: is) a w :=
  ⟨planS0_not hl ho hg h.out⟩
theorem planS_loud {i : Nat} {is : List Nat} {o : Oper} {a : Act} {w : World} (hl : loud.contains i = true) (ho : ops[i]? = some o)
    (h : ∀ K : Act → World → Prop, (∀ a w, S w → PlanG P ops loud pure_ S Q is a w → K a w) → if Region.wanted o (yielded ops a.tmps) = true then Oper.wp P o a w K Q else K (a.put o.dst undef) w) : PlanG P ops loud pure_ S Q (i :: is) a w :=
  ⟨planS0_loud hl ho (fun K hK => h K (fun a w h1 h2 => hK a w h1 h2.out))⟩
/-- A whole row read, as a step of a plan. -/
theorem planS_row {i : Nat} {is : List Nat} {o : Oper} {a : Act} {w : World} (hl : (loud.contains i || pure_.contains i) = false) (ho : ops[i]? = some o) (ty : TypeId) (x : Operand) (hop : o.op = .load ty x) (hw : Region.wanted o (yielded ops a.tmps) = true)
    (g : Nat) (hx : a.eval x = .pointer (some ⟨g, 0, none⟩)) (t : TypeId) (cs : Array Value) (d : TypeDesc) (hb : w.heap[g]? = some (.cells cs t (0, 0)))
    (hu : P.underlying ty = some d) (hd : (match d with | .struct _ | .array _ _ => true | _ => false) = true) (hi : (P.info? ty).map (·.size) = some cs.size)
    (h : PlanG P ops loud pure_ S Q is (a.put o.dst (.agg cs)) w) : PlanG P ops loud pure_ S Q (i :: is) a w :=
  ⟨planS0_row hl ho ty x hop hw g hx t cs d hb hu hd hi h.out⟩
theorem planS_done {a : Act} {w : World} (h : Q .normal a w) : PlanG P ops loud pure_ S Q [] a w := ⟨planS0_done h⟩
end
end Go.Proofs.YteppnjgfebcmjaaGreat
