/-
  intra.Guess.
-/
import Derived.Test.YtmkopcojnibhlaaGreatDoorM6
import Derived.Test.YtmkopcojnibhlaaGreatDoorM2
import Derived.Test.YtmkopcojnibhlaaGreatDoorM4
import Derived.Laws.EntriesVeiled
namespace Go.Proofs.YtmkopcojnibhlaaGreatDoor
open Go.RowKit

theorem iModes (w : World) : Calls Tryz.prog 199 #[] w fun e w' => e = .returned (.agg #[.func (.func 243) #[] #[], .func (.func 244) #[] #[], .func (.func 245) #[] #[], .func (.func 246) #[] #[]]) ∧ Mod (fun _ => False) w w' := by
  go_enter Tryz.func199, Tryz.ntmps199
  go_wp2_with fail
  refine bodyPost_ret (v := .agg #[.func (.func 243) #[] #[], .func (.func 244) #[] #[], .func (.func 245) #[] #[], .func (.func 246) #[] #[]]) (by simp [results, Tryz.results199, go_sem]) rfl ⟨rfl, ?_⟩
  exact (Mod.refl _ _).alloc _

def gsN (m : Nat) (ab lf : List UInt8) (co : UInt8) (i j : Nat) : Nat :=
  if m = 0 then flatN ab lf else if m = 1 then (ab.getD i 0).toNat else if m = 2 then (lf.getD j 0).toNat else slopeN ab lf co i j
theorem gsN_lt (m : Nat) (ab lf : List UInt8) (co : UInt8) (i j : Nat) : gsN m ab lf co i j < 256 := by
  unfold gsN
  split
  · have := flS_le ab lf 8
    unfold flatN
    omega
  · split
    · exact UInt8.toNat_lt _
    · split
      · exact UInt8.toNat_lt _
      · exact clipN_lt _
def guessF (W : Nat) (pix : List UInt8) (x y m k : Nat) : UInt8 := UInt8.ofNat (gsN m (lkAb W pix x y) (lkLf W pix x y) (lkCo W pix x y) (k % 8) (k / 8))
def guessL (W : Nat) (pix : List UInt8) (x y m : Nat) : List UInt8 := (List.range 64).map (guessF W pix x y m)
theorem guessF_n (W : Nat) (pix : List UInt8) (x y m k : Nat) : (guessF W pix x y m k).toNat = gsN m (lkAb W pix x y) (lkLf W pix x y) (lkCo W pix x y) (k % 8) (k / 8) := by
  unfold guessF
  rw [UInt8.toNat_ofNat']
  exact Nat.mod_eq_of_lt (gsN_lt _ _ _ _ _ _)
def fnOf (m : Nat) : Nat := if m = 0 then 243 else if m = 1 then 244 else if m = 2 then 245 else 246
theorem iMode (w : World) (m : Nat) (hm : m < 4) (ab lf : List UInt8) (co : UInt8) (h1 : ab.length = 8) (h2 : lf.length = 8) (i j : Nat) (hi : i < 8) (hj : j < 8) :
    Calls Tryz.prog (fnOf m) #[.agg (arV ab lf co), .int .i64 (i : Int), .int .i64 (j : Int)] w fun e w' => e = .returned (.int .u8 ((gsN m ab lf co i j : Nat) : Int)) ∧ Mod (fun _ => False) w w' := by
  have hc : m = 0 ∨ m = 1 ∨ m = 2 ∨ m = 3 := by omega
  rcases hc with rfl | rfl | rfl | rfl
  · exact iFlat w ab lf co h1 h2 _ _
  · exact iDown w ab lf co h1 i _ hi
  · exact iAcross w ab lf co h1 h2 _ j hj
  · exact iSlope w ab lf co h1 h2 i j hi hj
theorem run_fnOf (m : Nat) (hm : m < 4) (args : Array Value) (w : World) : (callFunc (fnOf m) args).run Tryz.prog w = .ok (.enter (fnOf m) args) w := by
  have hc : m = 0 ∨ m = 1 ∨ m = 2 ∨ m = 3 := by omega
  rcases hc with rfl | rfl | rfl | rfl
  · exact (show (callFunc 243 args).run Tryz.prog w = .ok (.enter 243 args) w by go_simp)
  · exact (show (callFunc 244 args).run Tryz.prog w = .ok (.enter 244 args) w by go_simp)
  · exact (show (callFunc 245 args).run Tryz.prog w = .ok (.enter 245 args) w by go_simp)
  · exact (show (callFunc 246 args).run Tryz.prog w = .ok (.enter 246 args) w by go_simp)
def GsRel (w : World) (q a l p : Nat) (lv av pv : Array Value) (f : Nat → UInt8) (s69 : Value) (wr : World) : Prop :=
  ∃ k : Nat, k ≤ 64 ∧ s69 = .int .i64 (k : Int) ∧ Sat (fun _ => False) w wr [⟨q, 5, (u8s (fillL f 64 k)).toArray⟩, ⟨a, 298, av⟩, ⟨l, 276, lv⟩, ⟨p, 38, pv⟩] []

set_option maxRecDepth 100000 in
set_option maxHeartbeats 4000000 in
theorem iGuess (w : World) (W H : Nat) (A : Option Addr) (n c : Nat) (pix : List UInt8) (h : sidesB W H = true) (hn : n = W * H) (hin : BytesIn w A n c pix) (hnc : n ≤ c) (x y m : Nat) (hx : x + 8 ≤ W) (hy : y + 8 ≤ H) (hm : m < 4) :
    Calls Tryz.prog 200 #[.agg #[.int .i64 (W : Int), .int .i64 (H : Int), .slice A n c], .int .i64 (x : Int), .int .i64 (y : Int), .int .i64 8, .int .i64 (m : Int)] w
      fun e w' => ∃ g, e = .returned (.tuple #[.slice (some ⟨g, 0, none⟩) 64 64, .int .i64 0]) ∧ Blk w' g 5 (u8s (guessL W pix x y m)).toArray ∧ w.heap.size ≤ g ∧ Mod (fun _ => False) w w' := by
  obtain ⟨_, hW1, hW2, hH1, hH2, _⟩ := area_le h
  have HI := Lib.hid (And.intro h (And.intro hin (And.intro hn hnc)))
  clear h hin hn hnc
  have t1 : decide ((x : Int) < 0) = false := decide_eq_false (by omega)
  have t2 : decide ((W : Int) - 8 < (x : Int)) = false := decide_eq_false (by omega)
  have t3 : decide ((y : Int) < 0) = false := decide_eq_false (by omega)
  have t4 : decide ((H : Int) - 8 < (y : Int)) = false := decide_eq_false (by omega)
  have t5 : decide ((m : Int) < 0) = false := decide_eq_false (by omega)
  have t6 : decide (4 ≤ (m : Int)) = false := decide_eq_false (by omega)
  have h0 := (Sat.nil (fun _ => False) w).alloc 38 #[.int .i64 (W : Int), .int .i64 (H : Int), .slice A n c] rfl
  have H0 := Lib.hid h0
  clear h0
  go_enter Tryz.func200, Tryz.ntmps200
  go_wp2_with fail
  refine (pRight' _ W H A n c HI.out.1 HI.out.2.2.1).mono ?_
  rintro e w1 ⟨rfl, hm1⟩
  have HS := Lib.hid (Sat.after hm1 H0.out)
  clear hm1 H0
  go_wp2_with fail
  refine (iModes _).mono ?_
  rintro e w2 ⟨rfl, hm2⟩
  have HS2 := (HS.out.quiet hm2).alloc 276 #[.func (.func 243) #[] #[], .func (.func 244) #[] #[], .func (.func 245) #[] #[], .func (.func 246) #[] #[]] rfl
  obtain ⟨pc, pf⟩ := (HS2.own_ 1 rfl).both
  have H2 := Lib.hid HS2
  have pl : w.heap.size < w2.heap.size := ((HS.out.quiet hm2).own_ 0 rfl).lt
  clear hm2 HS HS2
  go_wp2_with fail
  refine (iLook _ W H A n c pix HI.out.1 HI.out.2.2.1 (HI.out.2.1.quiet H2.out.mod) HI.out.2.2.2 x y hx hy).mono ?_
  rintro e w3 ⟨rfl, hm3⟩
  have HS3 := (H2.out.quiet hm3).alloc 298 #[.int .i64 0, .int .u8 0, .int .u8 0, .int .u8 0, .int .u8 0, .int .u8 0, .int .u8 0, .int .u8 0, .int .u8 0, .int .u8 0, .int .u8 0, .int .u8 0, .int .u8 0, .int .u8 0, .int .u8 0, .int .u8 0, .int .u8 0, .int .u8 0] rfl
  have H3 := Lib.hid HS3
  clear hm3 HS3 pc pf pl H2
  go_upto_region 7 with (refine wpList_store_part rfl 298 (.tmp 13) (.tmp 62) rfl w3.heap.size 0 (arL (lkAb W pix x y) (lkLf W pix x y) (lkCo W pix x y)) rfl rfl 298 [.int .i64 0, .int .u8 0, .int .u8 0, .int .u8 0, .int .u8 0, .int .u8 0, .int .u8 0, .int .u8 0, .int .u8 0, .int .u8 0, .int .u8 0, .int .u8 0, .int .u8 0, .int .u8 0, .int .u8 0, .int .u8 0, .int .u8 0, .int .u8 0] (Blk.new _ _ _) (by kernel_rfl) (by simp [arL, u8s, lkAb, lkLf]) (arL_one _ _ _) ?_; intro w4 hb4 hm4; have HB4 := Lib.hid (And.intro hb4 hm4); clear hb4 hm4)
  have hb4 := HB4.out.1
  rw [splice_all (by simp [arL, u8s, lkAb, lkLf])] at hb4
  have HS4 := Sat.turn HB4.out.2 H3.out hb4 .here
  have H4 := Lib.hid HS4
  clear hb4 HS4 HB4 H3
  go_upto_region 8 with (refine wpList_mk_u8 _ rfl (.tmp 65) (.tmp 65) rfl 64 rfl rfl (by omega) ?_; intro w5 hb5 hm5; have HB5 := Lib.hid (And.intro hb5 hm5); clear hb5 hm5)
  have HS5 := Sat.grew HB5.out.2 H4.out HB5.out.1 (Nat.le_refl _)
  rw [madeFill (guessF W pix x y m)] at HS5
  obtain ⟨q, hq⟩ : ∃ q, q = w4.heap.size := ⟨_, rfl⟩
  obtain ⟨a, ha⟩ : ∃ a, a = w3.heap.size := ⟨_, rfl⟩
  obtain ⟨l, hl⟩ : ∃ l, l = w2.heap.size := ⟨_, rfl⟩
  rw [← hq, ← ha, ← hl] at HS5
  rw [← hq, ← ha, ← hl]
  have H5 := Lib.hid HS5
  clear hq ha hl HS5 HB5 H4
  go_wp2_with fail
  go_loopw [69] (GsRel w q a l w.heap.size #[.func (.func 243) #[] #[], .func (.func 244) #[] #[], .func (.func 245) #[] #[], .func (.func 246) #[] #[]] (arV (lkAb W pix x y) (lkLf W pix x y) (lkCo W pix x y)) #[.int .i64 (W : Int), .int .i64 (H : Int), .slice A n c] (guessF W pix x y m)) (fun s _ => 64 - (intOf s).toNat)
  case atStart => exact ⟨0, by omega, rfl, H5.out⟩
  case round =>
    clear H5
    obtain ⟨k, hk, rfl, HS⟩ := hrel
    by_cases hlt : k < 64
    · have d1 : decide ((k : Int) < 64) = true := decide_eq_true (by omega)
      have lf0 : wr.cell? ⟨l, m, none⟩ = some (.func (.func (fnOf m)) #[] #[]) := by
        have h := (HS.own_ 2 rfl).cell m
        dsimp only at h
        rw [h]
        have hc : m = 0 ∨ m = 1 ∨ m = 2 ∨ m = 3 := by omega
        rcases hc with rfl | rfl | rfl | rfl <;> rfl
      have q0 := fill_cell (HS.own_ 0 rfl) hlt
      have p0 : (0 : Int) ≤ (m : Int) := by omega
      have p1 : (m : Int) < 4 := by omega
      have p2 : (0 : Int) ≤ (k : Int) := by omega
      have p3 : (k : Int) < 64 := by omega
      have e1 : IntKind.i64.wrap ((k : Int) / 8) = ((k / 8 : Nat) : Int) := by rw [IntWalk.i64_in _ ⟨by omega, by omega⟩]; omega
      have e2 : (k : Int).tmod 8 = ((k % 8 : Nat) : Int) := by rw [Int.tmod_eq_emod_of_nonneg (by omega)]; omega
      have HK := Lib.hid (And.intro HS (And.intro e1 e2))
      clear HS q0 e1 e2
      go_upto_region 11 with (fail)
      refine wp_region_plan [12, 14] [0, 1] [2, 3, 4, 5, 6, 7, 8, 9, 10, 11, 0, 1, 12, 13, 14] (by kernel_rfl) (by kernel_rfl) (fun _ _ _ d _ h => by cases d <;> exact h) ?_
      iterate 3 (refine plan_still rfl rfl (fun K hK => ?_); go_simp; refine hK _ ?_; clear hK K)
      refine plan_row rfl rfl rfl 298 (.tmp 13) rfl a rfl 298 _ _ (HK.out.1.drew.own_ 1 rfl) Tryz.underlying298 rfl (by kernel_rfl) ?_
      iterate 6 (refine plan_still rfl rfl (fun K hK => ?_); go_simp; refine hK _ ?_; clear hK K)
      iterate 2 (refine plan_pure rfl rfl rfl (fun _ => rfl) ?_)
      refine plan_loud rfl rfl (fun K hK => ?_)
      have hcf := run_fnOf m hm
      have e1 := HK.out.2.1
      have e2 := HK.out.2.2
      go_simp
      clear hcf e1 e2
      refine (iMode _ m hm _ _ _ (lkAb_length _ _ _ _) (lkLf_length _ _ _ _) (k % 8) (k / 8) (by omega) (by omega)).mono ?_
      rintro e w6 ⟨rfl, hm6⟩
      have HS6 := HK.out.1.drew.quiet hm6
      have q0 := fill_cell (HS6.own_ 0 rfl) hlt
      have qf := (HS6.own_ 0 rfl).frozen
      have ql := (HS6.own_ 0 rfl).lt
      rw [← guessF_n]
      have H6 := Lib.hid HS6
      clear HS6 hm6
      dsimp only []
      refine hK _ _ ?_
      clear hK K
      refine plan_still rfl rfl (fun K hK => ?_); go_simp; refine hK _ ?_; clear hK K
      refine plan_loud rfl rfl (fun K hK => ?_); go_simp; refine hK _ _ ?_; clear hK K
      refine plan_done ?_
      go_wp2_with fail
      go_roundw
      case rel => exact ⟨k + 1, by omega, by go_num, H6.out.put (.here (fill_set _ 64 k))⟩
      case measure => simp [intOf]; omega
    · obtain rfl : k = 64 := by omega
      have HK := Lib.hid HS
      clear HS
      go_wp2_with fail
      go_ret2
      have hb := HK.out.own_ 0 rfl
      dsimp only at hb
      rw [fillL_all] at hb
      exact ⟨q, rfl, hb, HK.out.low 0 rfl, HK.out.mod⟩
end Go.Proofs.YtmkopcojnibhlaaGreatDoor

/-
  motion.Chroma, decoder.places.
-/
namespace Go.Proofs.YtmkopcojnibhlaaGreatDoor
open Go.RowKit

theorem mChroma (w : World) (vx vy : Int) (hx : -1048576 ≤ vx ∧ vx ≤ 1048576) (hy : -1048576 ≤ vy ∧ vy ≤ 1048576) : Calls Tryz.prog 141 #[.agg #[.int .i64 vx, .int .i64 vy]] w fun e w' => e = .returned (.agg #[.int .i64 (vx / 2), .int .i64 (vy / 2)]) ∧ Mod (fun _ => False) w w' := by
  obtain ⟨hx1, hx2⟩ := hx
  obtain ⟨hy1, hy2⟩ := hy
  go_enter Tryz.func141, Tryz.ntmps141
  go_wp2_with fail
  refine bodyPost_ret (v := .agg #[.int .i64 (vx / 2), .int .i64 (vy / 2)]) (by simp [results, Tryz.results141, go_sem]) rfl ⟨rfl, ?_⟩
  exact ((Mod.refl _ _).alloc _).alloc _

def plL (x y : Nat) : List Value :=
  [.int .i64 0, .int .i64 (x : Int), .int .i64 (y : Int), .int .i64 0, .int .i64 ((x : Int) + 8), .int .i64 (y : Int), .int .i64 0, .int .i64 (x : Int), .int .i64 ((y : Int) + 8), .int .i64 0, .int .i64 ((x : Int) + 8), .int .i64 ((y : Int) + 8),
   .int .i64 1, .int .i64 ((x : Int) / 2), .int .i64 ((y : Int) / 2), .int .i64 2, .int .i64 ((x : Int) / 2), .int .i64 ((y : Int) / 2)]
theorem plL_one (x y : Nat) : ∀ u ∈ plL x y, u.oneCell' = true := fun u hu => by
  simp only [plL, List.mem_cons, List.not_mem_nil, or_false] at hu
  rcases hu with rfl | rfl | rfl | rfl | rfl | rfl | rfl | rfl | rfl | rfl | rfl | rfl | rfl | rfl | rfl | rfl | rfl | rfl <;> rfl
set_option maxRecDepth 100000 in
set_option maxHeartbeats 1000000 in
theorem dPlaces (w : World) (x y : Nat) (hx : x ≤ 4096) (hy : y ≤ 4096) : Calls Tryz.prog 187 #[.int .i64 (x : Int), .int .i64 (y : Int)] w fun e w' => e = .returned (.agg (plL x y).toArray) ∧ Mod (fun _ => False) w w' := by
  go_enter Tryz.func187, Tryz.ntmps187
  go_wp2_with (refine wpList_store_part rfl 265 (.tmp 4) (.tmp 31) rfl w.heap.size 0 (plL x y) rfl rfl 265 _ (Blk.new _ _ _) (by kernel_rfl) (by simp [plL]) (plL_one _ _) ?_; intro w2 hb2 hm2; have HB2 := Lib.hid (And.intro hb2 hm2); clear hb2 hm2)
  have hb := HB2.out.1
  rw [splice_all (by simp [plL])] at hb
  exact bodyPost_ret (v := .agg (plL x y).toArray) (results_cell_row rfl _ _ w.heap.size 265 _ (0, 0) _ rfl hb Tryz.underlying265 rfl (by kernel_rfl)) rfl ⟨rfl, ((Mod.refl (fun _ => False) w).alloc _).into HB2.out.2 (fun i e => .inr (by omega))⟩
end Go.Proofs.YtmkopcojnibhlaaGreatDoor

/-
  lift.Order of eight, lift.Unsort of 64.
-/
namespace Go.Proofs.YtmkopcojnibhlaaGreatDoor
open Go.RowKit

def ordRow (s y : Nat) : List Int := ((List.range y).filter (fun y' => decide (y' ≤ s ∧ s < y' + 8))).map fun y' => ((y' * 8 + (s - y') : Nat) : Int)
def ordTo (s y : Nat) : List Int := (List.range s).flatMap (fun s' => ordRow s' 8) ++ ordRow s y
theorem ordTo_succ (s : Nat) : ordTo s 8 = ordTo (s + 1) 0 := by simp [ordTo, List.range_succ, ordRow]
theorem ordTo_yes (s y : Nat) (h : y ≤ s ∧ s < y + 8) : ordTo s (y + 1) = ordTo s y ++ [((y * 8 + (s - y) : Nat) : Int)] := by
  simp [ordTo, ordRow, List.range_succ, List.filter_append, h.1, h.2]
theorem ordTo_no (s y : Nat) (h : ¬ (y ≤ s ∧ s < y + 8)) : ordTo s (y + 1) = ordTo s y := by
  have : decide (y ≤ s ∧ s < y + 8) = false := decide_eq_false h
  simp only [ordTo, ordRow, List.range_succ, List.filter_append, List.filter_cons, this]
  simp
theorem ordRow_le (s y : Nat) : (ordRow s y).length ≤ y := by
  unfold ordRow
  rw [List.length_map]
  exact Nat.le_trans (List.length_filter_le _ _) (by simp)
theorem ordTo_le (s y : Nat) : (ordTo s y).length ≤ s * 8 + y := by
  unfold ordTo
  rw [List.length_append]
  have h : ∀ s, ((List.range s).flatMap (fun s' => ordRow s' 8)).length ≤ s * 8 := by
    intro s
    induction s with
    | zero => simp
    | succ s ih =>
      rw [List.range_succ, List.flatMap_append, List.length_append]
      have := ordRow_le s 8
      simp at *
      omega
  have := h s
  have := ordRow_le s y
  omega
/-- The places of a block of eight times eight. -/
def ord8 : List Int := ordTo 15 0
theorem ord8_facts : ord8.length = 64 ∧ (∀ i < 64, 0 ≤ ord8.getD i 0 ∧ ord8.getD i 0 < 64) := by decide +kernel

def OrdRel (w : World) (v3 v20 : Value) (wr : World) : Prop := ∃ s : Nat, s ≤ 15 ∧ v20 = .int .i64 (s : Int) ∧ IntsOwn wr w.heap.size v3 (ordTo s 0) ∧ Mod (fun _ => False) w wr
def OrdIn (w : World) (s : Nat) (v3 v24 : Value) (wr : World) : Prop := ∃ y : Nat, y ≤ 8 ∧ v24 = .int .i64 (y : Int) ∧ IntsOwn wr w.heap.size v3 (ordTo s y) ∧ Mod (fun _ => False) w wr

set_option maxRecDepth 100000 in
set_option maxHeartbeats 4000000 in
theorem lOrder (w : World) : Calls Tryz.prog 252 #[.int .i64 8] w fun e w' => ∃ b c, e = .returned (.slice (some ⟨b, 0, none⟩) 64 c) ∧ w.heap.size ≤ b ∧ IntsIn w' (some ⟨b, 0, none⟩) 64 c ord8 ∧ Mod (fun _ => False) w w' := by
  go_enter Tryz.func252, Tryz.ntmps252
  go_wp2_with (refine wpList_mk_int0 _ rfl (.const (.int .i64 0)) (.tmp 15) rfl 64 rfl rfl (by omega) ?_; intro w1 hown1 hm1; have HO := Lib.hid (And.intro hown1 hm1); clear hown1 hm1)
  go_loopw [3, 20] (OrdRel w) (fun _ i _ => 15 - (intOf i).toNat)
  case atStart => exact ⟨0, by omega, rfl, HO.out.1, HO.out.2⟩
  case round =>
    clear HO
    obtain ⟨s, hs, rfl, hown, hM⟩ := hrel
    by_cases hlt : s < 15
    · obtain ⟨wo, rfl⟩ : ∃ wo : World, wo = wr := ⟨_, rfl⟩
      have HB := Lib.hid (And.intro hown hM)
      clear hown hM
      have dx : decide ((s : Int) < 15) = true := decide_eq_true (by omega)
      go_wp2_with fail
      go_loopw [3, 24] (OrdIn w s) (fun _ i _ => 8 - (intOf i).toNat)
      case atStart => exact ⟨0, by omega, rfl, HB.out.1, HB.out.2⟩
      case round =>
        clear HB
        obtain ⟨y, hy, rfl, hown, hM⟩ := hrel
        by_cases hly : y < 8
        · have dy : decide ((y : Int) < 8) = true := decide_eq_true (by omega)
          obtain ⟨A3, c3, hv3⟩ := own_shape hown
          subst hv3
          have hle := ordTo_le s y
          generalize hlen : (ordTo s y).length = n3 at *
          have HB := Lib.hid (And.intro hown (And.intro hM (And.intro hM.size hlen)))
          clear hown hM hlen
          by_cases h1 : y ≤ s
          · have d1 : decide ((0 : Int) ≤ (s : Int) - (y : Int)) = true := decide_eq_true (by omega)
            have d1' : decide ((y : Int) ≤ (s : Int)) = true := decide_eq_true (by omega)
            by_cases h2 : s < y + 8
            · have d2 : decide ((s : Int) - (y : Int) < 8) = true := decide_eq_true (by omega)
              have HS := Lib.hid (ordTo_yes s y ⟨h1, h2⟩)
              have ev : (y : Int) * 8 + ((s : Int) - (y : Int)) = ((y * 8 + (s - y) : Nat) : Int) := by omega
              have HE := Lib.hid ev
              clear ev
              go_wp2_with (at_builtin; have _t := HB; refine wpList_app_int _ rfl (.tmp 37) (.tmp 43) rfl w.heap.size _ _ ((y : Int) * 8 + ((s : Int) - (y : Int))) rfl rfl HB.out.1 HB.out.2.2.1 (by rw [HB.out.2.2.2]; omega) ?_; intro v8 w8 hown8 hMa hMb hF; have HO := Lib.hid (And.intro hown8 (hMb w (fun _ => False) (Nat.le_refl _) HB.out.2.1)); clear hown8 hMa hMb hF)
              go_roundw
              case rel =>
                refine ⟨y + 1, by omega, by go_num, ?_, HO.out.2⟩
                rw [HS.out, ← HE.out]
                exact HO.out.1
              case measure => simp [intOf]; omega
            · have d2 : decide ((s : Int) - (y : Int) < 8) = false := decide_eq_false (by omega)
              have HS := Lib.hid (ordTo_no s y (fun h => h2 h.2))
              go_wp2_with fail
              go_roundw
              case rel =>
                refine ⟨y + 1, by omega, by go_num, ?_, HB.out.2.1⟩
                rw [HS.out]
                exact HB.out.1
              case measure => simp [intOf]; omega
          · have d1 : decide ((0 : Int) ≤ (s : Int) - (y : Int)) = false := decide_eq_false (by omega)
            have d1' : decide ((y : Int) ≤ (s : Int)) = false := decide_eq_false (by omega)
            have HS := Lib.hid (ordTo_no s y (fun h => h1 h.1))
            go_wp2_with fail
            go_roundw
            case rel =>
              refine ⟨y + 1, by omega, by go_num, ?_, HB.out.2.1⟩
              rw [HS.out]
              exact HB.out.1
            case measure => simp [intOf]; omega
        · obtain rfl : y = 8 := by omega
          have HB := Lib.hid (And.intro hown hM)
          clear hown hM
          go_wp2_with fail
          go_roundw
          case rel => exact ⟨s + 1, by omega, by go_num, by rw [← ordTo_succ]; exact HB.out.1, HB.out.2⟩
          case measure => simp [intOf]; omega
    · obtain rfl : s = 15 := by omega
      have HB := Lib.hid (And.intro hown hM)
      clear hown hM
      go_wp2_with fail
      go_ret
      obtain ⟨h9, hM9⟩ := HB.out
      have h9' : IntsOwn _ _ _ ord8 := h9
      obtain ⟨A9, c9, hv9⟩ := own_shape h9'
      subst hv9
      have hl := ord8_facts.1
      have hin := h9'.in_
      rw [hl] at hin
      rcases h9'.2 with ⟨hv, h0⟩ | ⟨g, cap, cur, hv, hB, _⟩
      · rw [hl] at h0; cases h0
      · injection hv with e1 e2 e3
        subst e1
        exact ⟨g, c9, by rw [hl]; rfl, hB, hin, hM9⟩
end Go.Proofs.YtmkopcojnibhlaaGreatDoor

/-
  lift.Unsort of 64.
-/
namespace Go.Proofs.YtmkopcojnibhlaaGreatDoor
open Go.RowKit

def unsTo (b : List Int) : Nat → List Int
  | 0 => List.replicate 64 0
  | k + 1 => (unsTo b k).set (ord8.getD k 0).toNat (b.getD k 0)
theorem unsTo_length (b : List Int) (k : Nat) : (unsTo b k).length = 64 := by
  induction k with
  | zero => simp [unsTo]
  | succ k ih => simp [unsTo, ih]
/-- The block whose numbers in order these are. -/
def unsortL (b : List Int) : List Int := unsTo b 64
def UnsRel (w : World) (ob : Nat) (b : List Int) (v18 : Value) (wr : World) : Prop := ∃ k : Nat, k ≤ 64 ∧ v18 = .int .i64 (k : Int) ∧ Blk wr ob 3 (i64s (unsTo b k)).toArray ∧ Mod (· = ob) w wr

set_option maxRecDepth 100000 in
set_option maxHeartbeats 4000000 in
theorem lUnsort (w : World) (A : Option Addr) (c : Nat) (l : List Int) (hin : IntsIn w A 64 c l) : Calls Tryz.prog 268 #[.slice A 64 c] w fun e w' => ∃ ob, e = .returned (.slice (some ⟨ob, 0, none⟩) 64 64) ∧ Blk w' ob 3 (i64s (unsortL l)).toArray ∧ w.heap.size ≤ ob ∧ Mod (fun _ => False) w w' := by
  obtain ⟨b, off, hA, hb, hcell⟩ := hin.place (by omega)
  subst hA
  have HC := Lib.hid hcell
  clear hcell hin
  go_enter Tryz.func268, Tryz.ntmps268
  go_wp2_with fail
  refine (liftSide _ 64 (by omega)).mono ?_
  rintro e w1 ⟨rfl, rfl⟩
  rw [show ((sideOf 64 : Nat) : Int) = 8 from rfl]
  go_wp2_with (refine wpList_mk_int _ rfl (.tmp 13) (.tmp 13) rfl 64 rfl rfl (by omega) ?_; intro w1 hb1 hm1; have HO := Lib.hid (And.intro hb1 hm1); clear hb1 hm1)
  refine (lOrder _).mono ?_
  rintro e w2 ⟨b2, c2, rfl, hbb2, hin2, hm2⟩
  obtain ⟨_, off2, hA2, hb2, hcell2⟩ := hin2.place (by omega)
  injection hA2 with hA2
  injection hA2 with hA2 hA3 _
  subst hA2 hA3
  have hob := HO.out.1.keep hm2 (fun h => h)
  have M2 := HO.out.2.trans hm2
  have HC2 := Lib.hid hcell2
  obtain ⟨ob, hobe⟩ : ∃ ob, ob = w.heap.size := ⟨_, rfl⟩
  rw [← hobe] at hob ⊢
  have hlo := HO.out.1.lt
  have hb2n : ¬ b2 = ob := by omega
  clear hlo hbb2
  have hbn : ¬ b = ob := by omega
  have how : w.heap.size ≤ ob := by omega
  have HH := Lib.hid (And.intro hob M2)
  clear hcell2 hin2 hm2 HO hob M2 hobe
  go_wp2_with fail
  go_loopw [18] (UnsRel w2 ob l) (fun i _ => 64 - (intOf i).toNat)
  case atStart => exact ⟨0, by omega, rfl, HH.out.1, Mod.refl _ _⟩
  case round =>
    obtain ⟨k, hk, rfl, hbk, hM⟩ := hrel
    by_cases hlt : k < 64
    · have dk : decide ((k : Int) < 64) = true := decide_eq_true (by omega)
      have p0 : (0 : Int) ≤ (k : Int) := by omega
      have p1 : (k : Int) < 64 := by omega
      have hMw : Mod (· = ob) w wr := (HH.out.2.mono (fun _ h => h.elim)).trans hM
      have k1 : wr.cell? ⟨b, off + k, none⟩ = some (.int .i64 (l.getD k 0)) := (World.cell?_of_block (hMw.block b hb hbn)).trans (HC.out k hlt)
      have k2 : wr.cell? ⟨b2, k, none⟩ = some (.int .i64 (ord8.getD k 0)) := (World.cell?_of_block (hM.block b2 hb2 hb2n)).trans (by have := HC2.out k hlt; rwa [Nat.zero_add] at this)
      have hpl := ord8_facts.2 k hlt
      obtain ⟨pl, hpe⟩ : ∃ pl : Nat, (pl : Int) = ord8.getD k 0 := ⟨(ord8.getD k 0).toNat, by omega⟩
      rw [← hpe] at k2 hpl
      have HS : Hid (unsTo l (k + 1) = (unsTo l k).set pl (l.getD k 0)) := by show _ = _; rw [unsTo, ← hpe]; simp
      clear hpe
      generalize l.getD k 0 = v at *
      have p2 : (0 : Int) ≤ (pl : Int) := by omega
      have p3 : (pl : Int) < 64 := by omega
      have k3 : wr.cell? ⟨ob, pl, none⟩ = some (.int .i64 ((unsTo l k).getD pl 0)) := by rw [hbk.cell]; simp [i64s, List.getD_eq_getElem?_getD, unsTo_length, show pl < 64 by omega]
      have f3 := hbk.frozen pl
      have HB := Lib.hid (And.intro hbk (And.intro hM hMw))
      have hl := hbk.lt
      clear hbk hM hMw hpl
      generalize (unsTo l k).getD pl 0 = old at *
      go_wp2_with fail
      go_roundw
      case rel =>
        refine ⟨k + 1, by omega, by go_num, ?_, HB.out.2.1.setCell (.inl rfl) _⟩
        rw [HS.out]
        exact HB.out.1.put (by simp [i64s, List.map_set])
      case measure => simp [intOf]; omega
    · obtain rfl : k = 64 := by omega
      have HB := Lib.hid (And.intro hbk hM)
      clear hbk hM
      go_wp2_with fail
      go_ret
      exact ⟨ob, rfl, HB.out.1, how, HH.out.2.into HB.out.2 (fun i e => .inr (by omega))⟩
end Go.Proofs.YtmkopcojnibhlaaGreatDoor
