/-
  The reference's reader: Get of bits, of a Golomb number.
-/
import Derived.Test.YteppnjgfebcmjaaGreatM18
import Derived.Test.YteppnjgfebcmjaaGreatM19
import Derived.Test.YteppnjgfebcmjaaGreatM10
namespace Go.Proofs.YteppnjgfebcmjaaGreat
open Go.RowKit

/-- A part of a row. -/
theorem BytesIn.seg {w : World} {r n c i j : Nat} {l : List UInt8} (h : BytesIn w (some ⟨r, 0, none⟩) n c l) (hi : i < j) (hj : j ≤ n) : BytesIn w (some ⟨r, i, none⟩) (j - i) (c - i) ((l.drop i).take (j - i)) := by
  obtain ⟨h1, h2, h3, h4⟩ := h
  refine ⟨by simp; omega, (fun h => by cases h), ⟨by simp [u8s]; omega, (fun h => by cases h), fun ad e k u hu => ?_⟩, fun h0 ad e => ?_⟩
  · injection e with e
    subst e
    have e3 : u8s ((l.drop i).take (j - i)) = ((u8s l).drop i).take (j - i) := by simp [u8s, List.map_drop, List.map_take]
    rw [e3, List.getElem?_take] at hu
    split at hu
    · rw [List.getElem?_drop] at hu
      have := h3.2.2 _ rfl _ _ hu
      rw [addr_add] at this
      rw [addr_add']
      exact this
    · cases hu
  · injection e with e
    subst e
    exact h4 (by omega) ⟨r, 0, none⟩ rfl

theorem RRd.step {w w1 : World} {g I j m c B : Nat} {A : Option Addr} {l : List UInt8} {u : Value} (hb : Blk w g 153 #[.slice A m c, .int .i64 (I : Int)]) (hr : Bytes w B (.slice A m c) (rowL l)) (hm : m = 8 * l.length) (hj : j ≤ m) (h1 : Mod (fun _ => False) w w1) (hu : u = .int .i64 (j : Int)) : RRd (w1.setCell ⟨g, 1, none⟩ u) g l j := by
  subst hu
  refine ⟨A, m, c, B, ((hb.keep h1 (fun h => h)).set_ 1 _), ?_, hj, hm⟩
  exact own_mod hr ((h1.mono (S' := (· = g)) (fun _ h => h.elim)).setCell (.inl rfl) _) (fun k hk e => own_ne_blk hr hb (by decide) (by rw [hk, show k = g from e]))
def RGetPost (w : World) (g : Nat) (l : List UInt8) (I n : Nat) (e : Ending) (w' : World) : Prop :=
  (8 * l.length < I + n ∧ e = .returned (.tuple #[.int .u64 0, .int .i64 11]) ∧ Mod (fun _ => False) w w') ∨
  (I + n ≤ 8 * l.length ∧ e = .returned (.tuple #[.int .u64 (numAt l I n : Int), .int .i64 0]) ∧ RRd w' g l (I + n) ∧ Mod (· = g) w w')

set_option maxRecDepth 100000 in
set_option maxHeartbeats 2000000 in
theorem refRGet (w : World) (g : Nat) (l : List UInt8) (I n : Nat) (h : RRd w g l I) (hll : l.length ≤ 1048576) (hn0 : 0 < n) (hn : n ≤ 64) : Calls Tryz.prog 47 #[.pointer (some ⟨g, 0, none⟩), .int .i64 (n : Int)] w (RGetPost w g l I n) := by
  obtain ⟨A, m, c, B, hb, hrow, hI, hm⟩ := h
  have c0 : w.cell? ⟨g, 0, none⟩ = some (.slice A m c) := hb.cell 0
  have c1 : w.cell? ⟨g, 1, none⟩ = some (.int .i64 (I : Int)) := hb.cell 1
  have f1 := hb.frozen 1
  have hgl := hb.lt
  have hcap := hrow.cap
  have hm8 : m ≤ 8388608 := by omega
  have HB := Lib.hid (And.intro hb hrow)
  have HM := Lib.hid hm
  clear hb hrow
  by_cases hlt : m < I + n
  · have d1 : decide ((m : Int) - (I : Int) < (n : Int)) = true := decide_eq_true (by omega)
    clear hm
    go_enter Tryz.func47, Tryz.ntmps47
    go_upto_region 3 with (fail)
    go_quiet (fail)
    go_wp2_with fail
    go_ret2
    exact .inl ⟨by rw [← HM.out]; exact hlt, rfl, (Mod.refl _ _).drewN _⟩
  · have d1 : decide ((m : Int) - (I : Int) < (n : Int)) = false := decide_eq_false (by omega)
    obtain ⟨r, hA, _⟩ := HB.out.2.some_ (by rw [rowL_length]; omega)
    subst hA
    have hrd : BytesIn w (some ⟨r, I, none⟩) (I + n - I) (c - I) (((rowL l).drop I).take (I + n - I)) := HB.out.2.in_.seg (by omega) (by omega)
    rw [Nat.add_sub_cancel_left] at hrd
    have hnum := numL_row l I n (by omega)
    have HN := Lib.hid (And.intro hrd hnum)
    obtain ⟨j, hj⟩ : ∃ j, j = I + n := ⟨_, rfl⟩
    have hw : IntKind.i64.wrap ((I : Int) + (n : Int)) = (j : Int) := by rw [hj, IntWalk.i64_in _ ⟨by omega, by omega⟩]; simp
    have j1 : I ≤ j := by omega
    have j2 : (j : Int) ≤ (c : Int) := by omega
    have j3 : j - I = n := by omega
    have j4 : ¬ c = I := by omega
    have j5 : (0 : Int) ≤ (j : Int) := by omega
    have HJ := Lib.hid hj
    clear hm hrd hnum hj
    go_enter Tryz.func47, Tryz.ntmps47
    go_upto_region 3 with (fail)
    go_quiet (fail)
    go_upto_region 5 with (fail)
    refine wp_region_plan [] [] [0, 1, 2, 3, 4, 5, 6, 7, 8, 9, 10, 11, 12, 13, 14, 15, 16] (by kernel_rfl) (by kernel_rfl) (fun _ _ _ d _ h => by cases d <;> exact h) ?_
    iterate 15 (refine plan_still rfl rfl (fun K hK => ?_); go_simp; refine hK _ ?_; clear hK K)
    refine plan_still rfl rfl (fun K hK => ?_)
    go_simp
    refine ⟨_, (refNumber _ _ n (c - I) _ (HN.out.1.quiet ((Mod.refl (fun _ => False) w).drewN _)) hn (fun b hb => rowL_bits l b (List.mem_of_mem_drop (List.mem_of_mem_take hb)))).mono (fun _ _ ⟨a, b⟩ => ⟨a, b.symm⟩), hK _ ?_⟩
    clear hK K
    rw [HN.out.2]
    refine plan_still rfl rfl (fun K hK => ?_); go_simp; refine hK _ ?_; clear hK K
    refine plan_done ?_
    go_wp2_with fail
    go_ret2
    have hmS : ∀ (v : Value), Mod (· = g) w (((w.drewN nq).drew).setCell ⟨g, 1, none⟩ v) := fun v => (((Mod.refl (· = g) w).drewN nq).drew).setCell (.inl rfl) v
    refine .inr ⟨by have := HM.out; omega, rfl, RRd.step HB.out.1 HB.out.2 HM.out (by have := HJ.out; omega) (((Mod.refl (fun _ => False) w).drewN nq).drew) ?_, hmS _⟩
    first | rfl | (have := HJ.out; congr 1; omega) | simp

def zeroTo (l : List UInt8) (a n : Nat) : Prop := numAt l a n = 0 ∧ a + n ≤ 8 * l.length
def ggRel (l : List UInt8) (I : Nat) (v : Value) : Prop := ∃ n : Nat, n ≤ 32 ∧ v = .int .i64 (n : Int) ∧ (n = 0 ∨ zeroTo l I n) ∧ gget l I n (32 - n) = gget l I 0 32
def GGetPost (w : World) (g : Nat) (l : List UInt8) (I : Nat) (e : Ending) (w' : World) : Prop :=
  (gget l I 0 32 = none ∧ ∃ er : Int, (er == 0) = false ∧ e = .returned (.tuple #[.int .u64 0, .int .i64 er]) ∧ Mod (fun _ => False) w w') ∨
  ∃ v J : Nat, gget l I 0 32 = some (v, J) ∧ e = .returned (.tuple #[.int .u64 (v : Int), .int .i64 0]) ∧ RRd w' g l J ∧ Mod (· = g) w w'
end Go.Proofs.YteppnjgfebcmjaaGreat

/-
  The reference's reader: Get of a Golomb number.
-/
namespace Go.Proofs.YteppnjgfebcmjaaGreat
open Go.RowKit

theorem gget_succ {l : List UInt8} {I n f : Nat} (h1 : I + n < 8 * l.length) (h2 : bitAt l (I + n) = 0) : gget l I n (f + 1) = gget l I (n + 1) f := by
  show (if _ then _ else _) = _
  rw [if_pos h1, if_pos h2]
theorem gget_out {l : List UInt8} {I n f : Nat} (h1 : ¬ I + n < 8 * l.length) : gget l I n (f + 1) = none := by
  show (if _ then _ else _) = _
  rw [if_neg h1]
theorem gget_one {l : List UInt8} {I n f : Nat} (h1 : I + n < 8 * l.length) (h2 : ¬ bitAt l (I + n) = 0) : gget l I n (f + 1) = if I + n + 1 + n ≤ 8 * l.length then some (2 ^ n + numAt l (I + n + 1) n - 1, I + n + 1 + n) else none := by
  show (if _ then _ else _) = _
  rw [if_pos h1, if_neg h2]
theorem num_gol {l : List UInt8} {I n : Nat} (h1 : n = 0 ∨ zeroTo l I n) (h2 : ¬ bitAt l (I + n) = 0) : numAt l I (2 * n + 1) = 2 ^ n + numAt l (I + n + 1) n := by
  have hz : numAt l I n = 0 := by
    rcases h1 with rfl | h1
    · rfl
    · exact h1.1
  have hb : bitAt l (I + n) = 1 := by have := bitAt_lt l (I + n); omega
  have e1 := numAt_add l I (n + 1) n
  have e2 : numAt l I (n + 1) = 1 := by
    show 2 * numAt l I n + bitAt l (I + n) = 1
    omega
  rw [show n + 1 + n = 2 * n + 1 by omega] at e1
  rw [e1, e2, Nat.mul_one]
  rfl
def GgW (w : World) (l : List UInt8) (I : Nat) (v : Value) (wr : World) : Prop := ggRel l I v ∧ Mod (fun _ => False) w wr

set_option maxRecDepth 100000 in
set_option maxHeartbeats 4000000 in
theorem refGGet (w : World) (g : Nat) (l : List UInt8) (I : Nat) (h : RRd w g l I) (hll : l.length ≤ 1048576) : Calls Tryz.prog 48 #[.pointer (some ⟨g, 0, none⟩)] w (GGetPost w g l I) := by
  obtain ⟨A, m, c, B, hb, hrow, hI, hm⟩ := h
  have hcap := hrow.cap
  have hm8 : m ≤ 8388608 := by omega
  have HB := Lib.hid (And.intro hb hrow)
  have HM := Lib.hid hm
  clear hb hrow hm
  go_enter Tryz.func48, Tryz.ntmps48
  go_wp2_with fail
  go_loopw [4] (GgW w l I) (fun i _ => 32 - (intOf i).toNat)
  case atStart => exact ⟨⟨0, by omega, rfl, .inl rfl, rfl⟩, Mod.refl _ _⟩
  case round =>
    obtain ⟨⟨n, hn, rfl, hz, hg⟩, hmod⟩ := hrel
    rename World => wr
    have hbr := HB.out.1.keep hmod (fun h => h)
    have c0 : wr.cell? ⟨g, 0, none⟩ = some (.slice A m c) := hbr.cell 0
    have c1 : wr.cell? ⟨g, 1, none⟩ = some (.int .i64 (I : Int)) := hbr.cell 1
    have hgl := hbr.lt
    have f1 := hbr.frozen 1
    have HH := Lib.hid (And.intro hz (And.intro hg (And.intro hmod hbr)))
    clear hz hg hmod hbr
    by_cases h32 : n = 32
    · subst h32
      clear c0 c1 hgl f1
      go_upto_region 2 with (fail)
      go_quiet (fail)
      go_wp2_with fail
      go_ret2
      exact .inl ⟨by rw [← HH.out.2.1]; rfl, 21, rfl, rfl, HH.out.2.2.1.drewN _⟩
    · have d1 : decide ((n : Int) < 32) = true := decide_eq_true (by omega)
      by_cases hin : I + n < m
      · have d2 : decide ((I : Int) + (n : Int) < (m : Int)) = true := decide_eq_true (by omega)
        obtain ⟨r, hA, hrc⟩ := HB.out.2.some_ (by rw [rowL_length, ← HM.out]; omega)
        subst hA
        have hrw := HB.out.2.quiet HH.out.2.2.1
        have hcell := hrw.cell (I + n) (by rw [rowL_length, ← HM.out]; exact hin)
        rw [rowL_get l (I + n) (by rw [← HM.out]; exact hin)] at hcell
        by_cases hbit : bitAt l (I + n) = 0
        · rw [hbit] at hcell
          have hg2 : gget l I (n + 1) (32 - (n + 1)) = gget l I 0 32 := by
            rw [← HH.out.2.1, show 32 - n = 32 - (n + 1) + 1 by omega, gget_succ (by rw [← HM.out]; exact hin) hbit]
          have hz2 : zeroTo l I (n + 1) := by
            refine ⟨?_, by rw [← HM.out]; omega⟩
            show 2 * numAt l I n + bitAt l (I + n) = 0
            have : numAt l I n = 0 := by
              rcases HH.out.1 with e | e
              · rw [e]; rfl
              · exact e.1
            omega
          have H2 := Lib.hid (And.intro hg2 hz2)
          clear hg2 hz2 hbit hrw
          go_upto_region 2 with (fail)
          go_quiet (fail)
          go_wp2_with fail
          exact ⟨⟨⟨n + 1, by omega, by go_num, .inr H2.out.2, H2.out.1⟩, HH.out.2.2.1.drewN _⟩, by simp [intOf]; omega⟩
        · have hb1 : bitAt l (I + n) = 1 := by have := bitAt_lt l (I + n); omega
          rw [hb1] at hcell
          have hg2 : gget l I 0 32 = if I + n + 1 + n ≤ 8 * l.length then some (2 ^ n + numAt l (I + n + 1) n - 1, I + n + 1 + n) else none := by
            rw [← HH.out.2.1, show 32 - n = 31 - n + 1 by omega, gget_one (by rw [← HM.out]; exact hin) hbit]
          have hnum := num_gol HH.out.1 hbit
          have d3 : ((n : Int) == 32) = false := by simp; omega
          by_cases hfit : I + n + 1 + n ≤ m
          · have d4 : decide ((m : Int) < (I : Int) + 2 * (n : Int) + 1) = false := decide_eq_false (by omega)
            rw [if_pos (by rw [← HM.out]; exact hfit), ← hnum] at hg2
            have hrd : BytesIn wr (some ⟨r, I, none⟩) (I + (2 * n + 1) - I) (c - I) (((rowL l).drop I).take (I + (2 * n + 1) - I)) := hrw.in_.seg (by omega) (by omega)
            rw [Nat.add_sub_cancel_left] at hrd
            have hnr := numL_row l I (2 * n + 1) (by rw [← HM.out]; omega)
            have hpos : 0 < numAt l I (2 * n + 1) := by rw [hnum]; have := Nat.pos_of_ne_zero (show 2 ^ n ≠ 0 by simp); omega
            have hlt63 : numAt l I (2 * n + 1) < 2 ^ 63 := Nat.lt_of_lt_of_le (numAt_lt l I _) (Nat.pow_le_pow_right (by omega) (by omega))
            simp only [Nat.reducePow] at hlt63
            obtain ⟨k, hk⟩ : ∃ k, k = 2 * n + 1 := ⟨_, rfl⟩
            rw [← hk] at hg2 hrd hnr hpos hlt63
            rw [show I + n + 1 + n = I + k by omega] at hg2
            obtain ⟨n2, hn2⟩ : ∃ n2, n2 = 2 * n := ⟨_, rfl⟩
            obtain ⟨p, hp⟩ : ∃ p, p = I + n2 := ⟨_, rfl⟩
            obtain ⟨j, hj⟩ : ∃ j, j = I + k := ⟨_, rfl⟩
            have hwa : IntKind.i64.wrap (2 * (n : Int)) = (n2 : Int) := by rw [hn2, IntWalk.i64_in _ ⟨by omega, by omega⟩]; simp
            have hwb : IntKind.i64.wrap ((I : Int) + (n2 : Int)) = (p : Int) := by rw [hp, IntWalk.i64_in _ ⟨by omega, by omega⟩]; simp
            have hwc : IntKind.i64.wrap ((p : Int) + 1) = (j : Int) := by rw [hj, IntWalk.i64_in _ ⟨by omega, by omega⟩]; omega
            have j1 : I ≤ j := by omega
            have j2 : (j : Int) ≤ (c : Int) := by omega
            have j3 : j - I = k := by omega
            have j4 : ¬ c = I := by omega
            have j5 : (0 : Int) ≤ (j : Int) := by omega
            have hk64 : k ≤ 64 := by omega
            have HJ := Lib.hid (And.intro hj (And.intro hk (And.intro hn2 (And.intro hp (show j ≤ m by omega)))))
            have H2 := Lib.hid (And.intro hg2 (And.intro hrd (And.intro hnr (And.intro hwa (And.intro hwb hwc)))))
            have HK1 := Lib.hid hk
            clear hg2 hbit hrw hnum hb1 hrd hnr hwa hwb hwc hj hk hn2 hp
            go_upto_region 2 with (fail)
            go_quiet (fail)
            go_upto_region 6 with (fail)
            go_quiet (fail)
            go_upto_region 8 with (fail)
            refine wp_region_plan [] [] [0, 1, 2, 3, 4, 5, 6, 7, 8, 9, 10, 11, 12, 13, 14, 15, 16, 17, 18] (by kernel_rfl) (by kernel_rfl) (fun _ _ _ d _ h => by cases d <;> exact h) ?_
            have hwa := H2.out.2.2.2.1
            have hwb := H2.out.2.2.2.2.1
            have hwc := H2.out.2.2.2.2.2
            iterate 17 (refine plan_still rfl rfl (fun K hK => ?_); go_simp; refine hK _ ?_; clear hK K)
            clear hwa hwb hwc
            refine plan_still rfl rfl (fun K hK => ?_)
            go_simp
            refine ⟨_, (refNumber _ _ k (c - I) _ (H2.out.2.1.quiet ((Mod.refl (fun _ => False) wr).drewN _)) hk64 (fun b hb => rowL_bits l b (List.mem_of_mem_drop (List.mem_of_mem_take hb)))).mono (fun _ _ ⟨a, b⟩ => ⟨a, b.symm⟩), hK _ ?_⟩
            clear hK K
            rw [H2.out.2.2.1]
            refine plan_still rfl rfl (fun K hK => ?_); go_simp; refine hK _ ?_; clear hK K
            refine plan_done ?_
            obtain ⟨v, hv⟩ : ∃ v, v = numAt l I k := ⟨_, rfl⟩
            rw [← hv] at hpos hlt63 ⊢
            have HV := Lib.hid hv
            clear hv
            go_wp2_with fail
            go_ret2
            have hH := HJ.out
            obtain ⟨hH1, hH2, hH3, hH4, hH5⟩ := hH
            refine .inr ⟨v - 1, j, by rw [H2.out.1, ← HV.out, ← hH1], by simp; omega, RRd.step (HB.out.1.keep HH.out.2.2.1 (fun h => h)) (HB.out.2.quiet HH.out.2.2.1) HM.out hH5 ((Mod.refl (fun _ => False) wr).drewN _) (by congr 1; omega), ((HH.out.2.2.1.mono (S' := (· = g)) (fun _ h => h.elim)).drewN _).setCell (.inl rfl) _⟩
          · have d4 : decide ((m : Int) < (I : Int) + 2 * (n : Int) + 1) = true := decide_eq_true (by omega)
            rw [if_neg (by rw [← HM.out]; exact hfit)] at hg2
            have H2 := Lib.hid hg2
            clear hg2 hbit hrw hnum hb1
            go_upto_region 2 with (fail)
            go_quiet (fail)
            go_upto_region 6 with (fail)
            go_quiet (fail)
            go_wp2_with fail
            go_ret2
            exact .inl ⟨H2.out, 11, rfl, rfl, (HH.out.2.2.1.drewN _).drewN _⟩
      · have d2 : decide ((I : Int) + (n : Int) < (m : Int)) = false := decide_eq_false (by omega)
        have d3 : ((n : Int) == 32) = false := by simp; omega
        have d4 : decide ((m : Int) < (I : Int) + 2 * (n : Int) + 1) = true := decide_eq_true (by omega)
        have hg2 : gget l I 0 32 = none := by
          rw [← HH.out.2.1, show 32 - n = 31 - n + 1 by omega, gget_out (by rw [← HM.out]; exact hin)]
        have H2 := Lib.hid hg2
        clear hg2
        go_upto_region 2 with (fail)
        go_quiet (fail)
        go_upto_region 6 with (fail)
        go_quiet (fail)
        go_wp2_with fail
        go_ret2
        exact .inl ⟨H2.out, 11, rfl, rfl, (HH.out.2.2.1.drewN _).drewN _⟩
end Go.Proofs.YteppnjgfebcmjaaGreat
