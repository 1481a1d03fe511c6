/-
  intra.Guess.
-/
import Derived.Test.YteppnjgfebcmjaaGreatM26
import Derived.Test.YteppnjgfebcmjaaGreatM27
import Derived.Laws.EntriesVeiled
namespace Go.Proofs.YteppnjgfebcmjaaGreat
open Go.RowKit

theorem iModes (w : World) : Calls Tryz.prog 175 #[] w fun e w' => e = .returned (.agg #[.func (.func 183) #[] #[], .func (.func 184) #[] #[], .func (.func 185) #[] #[], .func (.func 186) #[] #[]]) ∧ Mod (fun _ => False) w w' := by
  go_enter Tryz.func175, Tryz.ntmps175
  go_wp2_with fail
  refine bodyPost_ret (v := .agg #[.func (.func 183) #[] #[], .func (.func 184) #[] #[], .func (.func 185) #[] #[], .func (.func 186) #[] #[]]) (by simp [results, Tryz.results175, go_sem]) rfl ⟨rfl, ?_⟩
  exact (Mod.refl _ _).alloc _

def gsN (m : Nat) (ab lf : List UInt8) (co : UInt8) (i j : Nat) : Nat :=
  if m = 0 then flatN ab lf else if m = 1 then (ab.getD i 0).toNat else if m = 2 then (lf.getD j 0).toNat else slopeN ab lf co i j
theorem gsN_lt (m : Nat) (ab lf : List UInt8) (co : UInt8) (i j : Nat) : gsN m ab lf co i j < 256 := by
  unfold gsN
  split
  · have := flS_le ab lf 8
    unfold flatN
    omega
  · split
    · exact UInt8.toNat_lt _
    · split
      · exact UInt8.toNat_lt _
      · exact clipN_lt _
def guessF (W : Nat) (pix : List UInt8) (x y m k : Nat) : UInt8 := UInt8.ofNat (gsN m (lkAb W pix x y) (lkLf W pix x y) (lkCo W pix x y) (k % 8) (k / 8))
def guessL (W : Nat) (pix : List UInt8) (x y m : Nat) : List UInt8 := (List.range 64).map (guessF W pix x y m)
theorem guessF_n (W : Nat) (pix : List UInt8) (x y m k : Nat) : (guessF W pix x y m k).toNat = gsN m (lkAb W pix x y) (lkLf W pix x y) (lkCo W pix x y) (k % 8) (k / 8) := by
  unfold guessF
  rw [UInt8.toNat_ofNat']
  exact Nat.mod_eq_of_lt (gsN_lt _ _ _ _ _ _)
def fnOf (m : Nat) : Nat := if m = 0 then 183 else if m = 1 then 184 else if m = 2 then 185 else 186
theorem iMode (w : World) (m : Nat) (hm : m < 4) (ab lf : List UInt8) (co : UInt8) (h1 : ab.length = 8) (h2 : lf.length = 8) (i j : Nat) (hi : i < 8) (hj : j < 8) :
    Calls Tryz.prog (fnOf m) #[.agg (arV ab lf co), .int .i64 (i : Int), .int .i64 (j : Int)] w fun e w' => e = .returned (.int .u8 ((gsN m ab lf co i j : Nat) : Int)) ∧ Mod (fun _ => False) w w' := by
  have hc : m = 0 ∨ m = 1 ∨ m = 2 ∨ m = 3 := by omega
  rcases hc with rfl | rfl | rfl | rfl
  · exact iFlat w ab lf co h1 h2 _ _
  · exact iDown w ab lf co h1 i _ hi
  · exact iAcross w ab lf co h1 h2 _ j hj
  · exact iSlope w ab lf co h1 h2 i j hi hj
theorem run_fnOf (m : Nat) (hm : m < 4) (args : Array Value) (w : World) : (callFunc (fnOf m) args).run Tryz.prog w = .ok (.enter (fnOf m) args) w := by
  have hc : m = 0 ∨ m = 1 ∨ m = 2 ∨ m = 3 := by omega
  rcases hc with rfl | rfl | rfl | rfl
  · exact (show (callFunc 183 args).run Tryz.prog w = .ok (.enter 183 args) w by go_simp)
  · exact (show (callFunc 184 args).run Tryz.prog w = .ok (.enter 184 args) w by go_simp)
  · exact (show (callFunc 185 args).run Tryz.prog w = .ok (.enter 185 args) w by go_simp)
  · exact (show (callFunc 186 args).run Tryz.prog w = .ok (.enter 186 args) w by go_simp)
def GsRel (w : World) (q a l p : Nat) (lv av pv : Array Value) (f : Nat → UInt8) (s69 : Value) (wr : World) : Prop :=
  ∃ k : Nat, k ≤ 64 ∧ s69 = .int .i64 (k : Int) ∧ Sat (fun _ => False) w wr [⟨q, 5, (u8s (fillL f 64 k)).toArray⟩, ⟨a, 223, av⟩, ⟨l, 219, lv⟩, ⟨p, 35, pv⟩] []

set_option maxRecDepth 100000 in
set_option maxHeartbeats 4000000 in
theorem iGuess (w : World) (W H : Nat) (A : Option Addr) (n c : Nat) (pix : List UInt8) (h : sidesB W H = true) (hn : n = W * H) (hin : BytesIn w A n c pix) (hnc : n ≤ c) (x y m : Nat) (hx : x + 8 ≤ W) (hy : y + 8 ≤ H) (hm : m < 4) :
    Calls Tryz.prog 160 #[.agg #[.int .i64 (W : Int), .int .i64 (H : Int), .slice A n c], .int .i64 (x : Int), .int .i64 (y : Int), .int .i64 8, .int .i64 (m : Int)] w
      fun e w' => ∃ g, e = .returned (.tuple #[.slice (some ⟨g, 0, none⟩) 64 64, .int .i64 0]) ∧ Blk w' g 5 (u8s (guessL W pix x y m)).toArray ∧ w.heap.size ≤ g ∧ Mod (fun _ => False) w w' := by
  obtain ⟨_, hW1, hW2, hH1, hH2, _⟩ := area_le h
  have HI := Lib.hid (And.intro h (And.intro hin (And.intro hn hnc)))
  clear h hin hn hnc
  have t1 : decide ((x : Int) < 0) = false := decide_eq_false (by omega)
  have t2 : decide ((W : Int) - 8 < (x : Int)) = false := decide_eq_false (by omega)
  have t3 : decide ((y : Int) < 0) = false := decide_eq_false (by omega)
  have t4 : decide ((H : Int) - 8 < (y : Int)) = false := decide_eq_false (by omega)
  have t5 : decide ((m : Int) < 0) = false := decide_eq_false (by omega)
  have t6 : decide (4 ≤ (m : Int)) = false := decide_eq_false (by omega)
  have h0 := (Sat.nil (fun _ => False) w).alloc 35 #[.int .i64 (W : Int), .int .i64 (H : Int), .slice A n c] rfl
  have H0 := Lib.hid h0
  clear h0
  go_enter Tryz.func160, Tryz.ntmps160
  go_wp2_with fail
  refine (pRight' _ W H A n c HI.out.1 HI.out.2.2.1).mono ?_
  rintro e w1 ⟨rfl, hm1⟩
  have HS := Lib.hid (Sat.after hm1 H0.out)
  clear hm1 H0
  go_wp2_with fail
  refine (iModes _).mono ?_
  rintro e w2 ⟨rfl, hm2⟩
  have HS2 := (HS.out.quiet hm2).alloc 219 #[.func (.func 183) #[] #[], .func (.func 184) #[] #[], .func (.func 185) #[] #[], .func (.func 186) #[] #[]] rfl
  obtain ⟨pc, pf⟩ := (HS2.own_ 1 rfl).both
  have H2 := Lib.hid HS2
  have pl : w.heap.size < w2.heap.size := ((HS.out.quiet hm2).own_ 0 rfl).lt
  clear hm2 HS HS2
  go_wp2_with fail
  refine (iLook _ W H A n c pix HI.out.1 HI.out.2.2.1 (HI.out.2.1.quiet H2.out.mod) HI.out.2.2.2 x y hx hy).mono ?_
  rintro e w3 ⟨rfl, hm3⟩
  have HS3 := (H2.out.quiet hm3).alloc 223 #[.int .i64 0, .int .u8 0, .int .u8 0, .int .u8 0, .int .u8 0, .int .u8 0, .int .u8 0, .int .u8 0, .int .u8 0, .int .u8 0, .int .u8 0, .int .u8 0, .int .u8 0, .int .u8 0, .int .u8 0, .int .u8 0, .int .u8 0, .int .u8 0] rfl
  have H3 := Lib.hid HS3
  clear hm3 HS3 pc pf pl H2
  go_upto_region 7 with (refine wpList_store_part rfl 223 (.tmp 13) (.tmp 62) rfl w3.heap.size 0 (arL (lkAb W pix x y) (lkLf W pix x y) (lkCo W pix x y)) rfl rfl 223 [.int .i64 0, .int .u8 0, .int .u8 0, .int .u8 0, .int .u8 0, .int .u8 0, .int .u8 0, .int .u8 0, .int .u8 0, .int .u8 0, .int .u8 0, .int .u8 0, .int .u8 0, .int .u8 0, .int .u8 0, .int .u8 0, .int .u8 0, .int .u8 0] (Blk.new _ _ _) (by kernel_rfl) (by simp [arL, u8s, lkAb, lkLf]) (arL_one _ _ _) ?_; intro w4 hb4 hm4; have HB4 := Lib.hid (And.intro hb4 hm4); clear hb4 hm4)
  have hb4 := HB4.out.1
  rw [splice_all (by simp [arL, u8s, lkAb, lkLf])] at hb4
  have HS4 := Sat.turn HB4.out.2 H3.out hb4 .here
  have H4 := Lib.hid HS4
  clear hb4 HS4 HB4 H3
  go_upto_region 8 with (refine wpList_mk_u8 _ rfl (.tmp 65) (.tmp 65) rfl 64 rfl rfl (by omega) ?_; intro w5 hb5 hm5; have HB5 := Lib.hid (And.intro hb5 hm5); clear hb5 hm5)
  have HS5 := Sat.grew HB5.out.2 H4.out HB5.out.1 (Nat.le_refl _)
  rw [madeFill (guessF W pix x y m)] at HS5
  obtain ⟨q, hq⟩ : ∃ q, q = w4.heap.size := ⟨_, rfl⟩
  obtain ⟨a, ha⟩ : ∃ a, a = w3.heap.size := ⟨_, rfl⟩
  obtain ⟨l, hl⟩ : ∃ l, l = w2.heap.size := ⟨_, rfl⟩
  rw [← hq, ← ha, ← hl] at HS5
  rw [← hq, ← ha, ← hl]
  have H5 := Lib.hid HS5
  clear hq ha hl HS5 HB5 H4
  go_wp2_with fail
  go_loopw [69] (GsRel w q a l w.heap.size #[.func (.func 183) #[] #[], .func (.func 184) #[] #[], .func (.func 185) #[] #[], .func (.func 186) #[] #[]] (arV (lkAb W pix x y) (lkLf W pix x y) (lkCo W pix x y)) #[.int .i64 (W : Int), .int .i64 (H : Int), .slice A n c] (guessF W pix x y m)) (fun s _ => 64 - (intOf s).toNat)
  case atStart => exact ⟨0, by omega, rfl, H5.out⟩
  case round =>
    clear H5
    obtain ⟨k, hk, rfl, HS⟩ := hrel
    by_cases hlt : k < 64
    · have d1 : decide ((k : Int) < 64) = true := decide_eq_true (by omega)
      have lf0 : wr.cell? ⟨l, m, none⟩ = some (.func (.func (fnOf m)) #[] #[]) := by
        have h := (HS.own_ 2 rfl).cell m
        dsimp only at h
        rw [h]
        have hc : m = 0 ∨ m = 1 ∨ m = 2 ∨ m = 3 := by omega
        rcases hc with rfl | rfl | rfl | rfl <;> rfl
      have q0 := fill_cell (HS.own_ 0 rfl) hlt
      have p0 : (0 : Int) ≤ (m : Int) := by omega
      have p1 : (m : Int) < 4 := by omega
      have p2 : (0 : Int) ≤ (k : Int) := by omega
      have p3 : (k : Int) < 64 := by omega
      have e1 : IntKind.i64.wrap ((k : Int) / 8) = ((k / 8 : Nat) : Int) := by rw [IntWalk.i64_in _ ⟨by omega, by omega⟩]; omega
      have e2 : (k : Int).tmod 8 = ((k % 8 : Nat) : Int) := by rw [Int.tmod_eq_emod_of_nonneg (by omega)]; omega
      have HK := Lib.hid (And.intro HS (And.intro e1 e2))
      clear HS q0 e1 e2
      go_upto_region 11 with (fail)
      refine wp_region_plan [12, 14] [0, 1] [2, 3, 4, 5, 6, 7, 8, 9, 10, 11, 0, 1, 12, 13, 14] (by kernel_rfl) (by kernel_rfl) (fun _ _ _ d _ h => by cases d <;> exact h) ?_
      iterate 3 (refine plan_still rfl rfl (fun K hK => ?_); go_simp; refine hK _ ?_; clear hK K)
      refine plan_row rfl rfl rfl 223 (.tmp 13) rfl a rfl 223 _ _ (HK.out.1.drew.own_ 1 rfl) Tryz.underlying223 rfl (by kernel_rfl) ?_
      iterate 6 (refine plan_still rfl rfl (fun K hK => ?_); go_simp; refine hK _ ?_; clear hK K)
      iterate 2 (refine plan_pure rfl rfl rfl (fun _ => rfl) ?_)
      refine plan_loud rfl rfl (fun K hK => ?_)
      have hcf := run_fnOf m hm
      have e1 := HK.out.2.1
      have e2 := HK.out.2.2
      go_simp
      clear hcf e1 e2
      refine (iMode _ m hm _ _ _ (lkAb_length _ _ _ _) (lkLf_length _ _ _ _) (k % 8) (k / 8) (by omega) (by omega)).mono ?_
      rintro e w6 ⟨rfl, hm6⟩
      have HS6 := HK.out.1.drew.quiet hm6
      have q0 := fill_cell (HS6.own_ 0 rfl) hlt
      have qf := (HS6.own_ 0 rfl).frozen
      have ql := (HS6.own_ 0 rfl).lt
      rw [← guessF_n]
      have H6 := Lib.hid HS6
      clear HS6 hm6
      dsimp only []
      refine hK _ _ ?_
      clear hK K
      refine plan_still rfl rfl (fun K hK => ?_); go_simp; refine hK _ ?_; clear hK K
      refine plan_loud rfl rfl (fun K hK => ?_); go_simp; refine hK _ _ ?_; clear hK K
      refine plan_done ?_
      go_wp2_with fail
      go_roundw
      case rel => exact ⟨k + 1, by omega, by go_num, H6.out.put (.here (fill_set _ 64 k))⟩
      case measure => simp [intOf]; omega
    · obtain rfl : k = 64 := by omega
      have HK := Lib.hid HS
      clear HS
      go_wp2_with fail
      go_ret2
      have hb := HK.out.own_ 0 rfl
      dsimp only at hb
      rw [fillL_all] at hb
      exact ⟨q, rfl, hb, HK.out.low 0 rfl, HK.out.mod⟩
end Go.Proofs.YteppnjgfebcmjaaGreat
