/-
  manifest.Align, walked.
-/
import Derived.Test.YtkobngipbhjfjaaDoorMfRight
import Derived.Test.YtkobngipbhjfjaaDoorMfSame
namespace Go.Proofs.YtkobngipbhjfjaaDoor
open Go.RowKit

/-- As many frames, piece by piece. -/
def framesOf (l : List Pc) : List Int := l.map Pc.fr
set_option maxHeartbeats 2000000 in
theorem pAlike (w : World) (p q : Pc) : Calls Tryd.prog 35 #[.agg (pcV p).toArray, .agg (pcV q).toArray] w fun e w' => e = .returned (.bool (p.fr == q.fr)) ∧ Mod (fun _ => False) w w' := by
  have mA : Mod (fun _ => False) w ((w.alloc (.cells (pcV p).toArray 32)).alloc (.cells (pcV q).toArray 32)) := ((Mod.refl _ w).alloc _).alloc _
  have H := Lib.hid mA
  clear mA
  unfold pcV at H ⊢
  go_enter Tryd.func35, Tryd.ntmps35
  go_wp2_with fail
  go_ret
  exact ⟨rfl, H.out⟩
def AkRel (w : World) (xs ys : List Pc) (v : Value) (wr : World) : Prop := ∃ k : Nat, k ≤ xs.length ∧ v = .int .i64 (k : Int) ∧ (framesOf xs).take k = (framesOf ys).take k ∧ Mod (fun _ => False) w wr
theorem framesOf_get {l : List Pc} {k : Nat} {p : Pc} (h : l[k]? = some p) : (framesOf l)[k]? = some p.fr := by unfold framesOf; rw [List.getElem?_map, h]; rfl
set_option maxRecDepth 100000 in
set_option maxHeartbeats 4000000 in
theorem pEqP (w : World) (A A' : Option Addr) (n c n' c' : Nat) (xs ys : List Pc) (hx : PcsIn w A n xs) (hy : PcsIn w A' n' ys) (hn : n ≤ 9223372036854775807) : Calls Tryd.prog 36 #[.slice A n c, .slice A' n' c', .func (.func 35) #[] #[]] w fun e w' => e = .returned (.bool (decide (framesOf xs = framesOf ys))) ∧ Mod (fun _ => False) w w' := by
  have hlx := hx.len
  have hly := hy.len
  have hfx : (framesOf xs).length = xs.length := List.length_map _
  have hfy : (framesOf ys).length = ys.length := List.length_map _
  have H := Lib.hid (And.intro hx hy)
  clear hx hy
  by_cases hnn : n = n'
  · subst hnn
    have d0 : decide ((n : Int) = (n : Int)) = true := decide_eq_true rfl
    go_enter Tryd.func36, Tryd.ntmps36
    go_wp2_with fail
    go_loopw [17] (AkRel w xs ys) (fun s _ => n - (intOf s).toNat)
    case atStart => exact ⟨0, by omega, rfl, by simp, Mod.refl _ _⟩
    case round =>
      rename World => wr
      obtain ⟨k, hk, rfl, heq, hM⟩ := hrel
      by_cases hlt : k < n
      · obtain ⟨x, hxk⟩ : ∃ x, xs[k]? = some x := ⟨_, List.getElem?_eq_getElem (by omega)⟩
        obtain ⟨y, hyk⟩ : ∃ y, ys[k]? = some y := ⟨_, List.getElem?_eq_getElem (by omega)⟩
        obtain ⟨b, o, hA, hb, hpc⟩ := (H.out.1.quiet hM).at_ k x hxk
        obtain ⟨b', o', hA', hb', hpc'⟩ := (H.out.2.quiet hM).at_ k y hyk
        subst hA
        subst hA'
        have d1 : decide ((k : Int) < (n : Int)) = true := decide_eq_true (by omega)
        have mA : Mod (fun _ => False) wr (wr.alloc (.cells (pcV x).toArray 32)) := (Mod.refl _ wr).alloc _
        obtain ⟨e0, e1, e2⟩ := hpc
        obtain ⟨f0, f1, f2⟩ := hpc'.quiet mA hb'
        have mB := mA.alloc (.cells (pcV y).toArray 32)
        unfold pcV at mB f0 f1 f2
        clear mA
        have HK := Lib.hid (And.intro heq (And.intro hxk (And.intro hyk (And.intro hM mB))))
        clear heq hxk hyk hM hpc' mB
        go_wp2_with fail
        refine (pAlike _ x y).mono ?_
        rintro e w1 ⟨rfl, hm1⟩
        have hM1 := (HK.out.2.2.2.1.trans HK.out.2.2.2.2).trans hm1
        cases hxy : (x.fr == y.fr) with
        | true =>
          have hxy' : x.fr = y.fr := eq_of_beq hxy
          have HE := Lib.hid (And.intro hxy' hM1)
          clear hxy hxy' hM1 hm1 e0 e1 e2 f0 f1 f2
          go_wp2_with fail
          go_roundw
          case rel => exact ⟨k + 1, by omega, by go_num, take_eq_next HK.out.1 (framesOf_get HK.out.2.1) (framesOf_get HK.out.2.2.1) HE.out.1, HE.out.2⟩
          case measure => simp [intOf]; omega
        | false =>
          have hxy' : x.fr ≠ y.fr := fun h => by rw [h] at hxy; simp at hxy
          have HE := Lib.hid (And.intro hxy' hM1)
          clear hxy hxy' hM1 hm1 e0 e1 e2 f0 f1 f2
          go_wp2_with fail
          go_ret
          exact ⟨by rw [decide_eq_false (ne_at (framesOf_get HK.out.2.1) (framesOf_get HK.out.2.2.1) HE.out.1)]; rfl, HE.out.2⟩
      · obtain rfl : k = n := by omega
        have d1 : decide ((k : Int) < (k : Int)) = false := decide_eq_false (by omega)
        have hall : framesOf xs = framesOf ys := by
          have h2 : (framesOf ys).take k = framesOf ys := by rw [← hly, ← hfy, List.take_length]
          have h1 : (framesOf xs).take k = framesOf xs := by rw [← hlx, ← hfx, List.take_length]
          rw [← h1, ← h2]
          exact heq
        have HK := Lib.hid (And.intro hall hM)
        clear hall heq hM
        go_wp2_with fail
        go_ret
        exact ⟨by rw [decide_eq_true HK.out.1]; rfl, HK.out.2⟩
  · have d0 : decide ((n : Int) = (n' : Int)) = false := decide_eq_false (by omega)
    have hne : framesOf xs ≠ framesOf ys := by
      intro h
      have := congrArg List.length h
      omega
    have HN := Lib.hid hne
    clear hne
    go_enter Tryd.func36, Tryd.ntmps36
    go_wp2_with fail
    go_ret
    exact ⟨by rw [decide_eq_false HN.out]; rfl, Mod.refl _ _⟩

/-- Whether the renditions go together. -/
def alignB (ls : List Ls) : Bool := match ls with
  | [] => true
  | x :: _ => ls.all fun l => decide (framesOf l.pieces = framesOf x.pieces)
def alignO (m : Mf) : Int := if rightB m then if alignB m.rends then 0 else 182 else 181
theorem align_bad {ls : List Ls} {k : Nat} {l x : Ls} (hx : ls[0]? = some x) (hl : ls[k]? = some l) (h : decide (framesOf l.pieces = framesOf x.pieces) = false) : alignB ls = false := by
  cases ls with
  | nil => simp at hx
  | cons a r =>
    simp at hx
    subst hx
    unfold alignB
    rw [List.all_eq_false]
    exact ⟨l, List.mem_of_getElem? hl, by simpa using h⟩
theorem align_ok {ls : List Ls} {x : Ls} (hx : ls[0]? = some x) (h : (ls.take ls.length).all (fun l => decide (framesOf l.pieces = framesOf x.pieces)) = true) : alignB ls = true := by
  rw [List.take_length] at h
  cases ls with
  | nil => rfl
  | cons a r =>
    simp at hx
    subst hx
    exact h
theorem all_snocL {p : Ls → Bool} {l : List Ls} {k : Nat} {c : Ls} (h : (l.take k).all p = true) (hk : l[k]? = some c) (hc : p c = true) : (l.take (k + 1)).all p = true := by
  rw [take_snoc hk, List.all_append, h]
  simp [hc]
def AlRel (w : World) (mb : Nat) (cs : Array Value) (m : Mf) (x : Ls) (v : Value) (wr : World) : Prop := ∃ k : Nat, k ≤ m.rends.length ∧ v = .int .i64 (k : Int) ∧ (m.rends.take k).all (fun l => decide (framesOf l.pieces = framesOf x.pieces)) = true ∧ Blk wr mb 24 cs ∧ Mod (fun _ => False) w wr
set_option maxRecDepth 100000 in
set_option maxHeartbeats 4000000 in
theorem pAlign (w : World) (m : Mf) (A : Option Addr) (n c : Nat) (h : MfIn w A n m) : Calls Tryd.prog 17 #[.agg (mfV m A n c).toArray] w fun e w' => e = .returned (.int .i64 (alignO m)) ∧ Mod (fun _ => False) w w' := by
  have mA : Mod (fun _ => False) w (w.alloc (.cells (mfV m A n c).toArray 24)) := (Mod.refl _ w).alloc _
  have hb0 : Blk (w.alloc (.cells (mfV m A n c).toArray 24)) w.heap.size 24 (mfV m A n c).toArray := Blk.new _ _ _
  have H := Lib.hid (And.intro h (And.intro mA hb0))
  clear h mA hb0
  unfold mfV at H ⊢
  go_enter Tryd.func17, Tryd.ntmps17
  go_wp2_with fail
  refine (pRight _ m A n c (H.out.1.quiet H.out.2.1)).mono ?_
  rintro e w1 ⟨rfl, hm1⟩
  have hM1 := H.out.2.1.trans hm1
  have hb1 := H.out.2.2.keep hm1 (fun h => h)
  cases hr : rightB m with
  | false =>
    have HR := Lib.hid (And.intro hr hM1)
    clear hr hM1 hm1 hb1
    go_wp2_with fail
    go_ret
    exact ⟨by unfold alignO; rw [HR.out.1]; rfl, HR.out.2⟩
  | true =>
    have f1 := hb1.cell
    have hbd : 1 ≤ n ∧ n ≤ 8 ∧ ∀ l ∈ m.rends, l.pieces.length ≤ 1024 := by
      rw [← H.out.1.rs.len]
      unfold rightB at hr
      simp only [Bool.and_eq_true, decide_eq_true_eq, List.all_eq_true] at hr
      refine ⟨hr.1.1.1.2.2.2.2.1, hr.1.1.1.2.2.2.2.2, fun l hl => ?_⟩
      have := hr.1.1.2 l hl
      unfold listedB at this
      simp only [Bool.and_eq_true, decide_eq_true_eq] at this
      have hf := frames_bounds _ this.1.2
      omega
    obtain ⟨hn1, hn8, hpl⟩ := hbd
    have hn0 : 0 < n := hn1
    have hln : m.rends.length = n := H.out.1.rs.len
    obtain ⟨x, hx⟩ : ∃ x, m.rends[0]? = some x := ⟨_, List.getElem?_eq_getElem (by omega)⟩
    have HR := Lib.hid (And.intro hr (And.intro hM1 (And.intro hb1 (And.intro hpl hx))))
    clear hr hM1 hm1 hb1 hpl hx
    go_wp2_with fail
    go_loopw [12] (AlRel w w.heap.size #[.int .i64 m.scale, .int .i64 m.tick, .slice A n c] m x) (fun s _ => n - (intOf s).toNat)
    case atStart => exact ⟨0, by omega, rfl, by simp, HR.out.2.2.1, HR.out.2.1⟩
    case round =>
      rename World => wr
      clear f1
      obtain ⟨k, hk, rfl, hall, hbm, hM⟩ := hrel
      by_cases hlt : k < n
      · obtain ⟨l, hl⟩ : ∃ l, m.rends[k]? = some l := ⟨_, List.getElem?_eq_getElem (by omega)⟩
        obtain ⟨b, o, A1, n1, c1, hA, hb, hls⟩ := H.out.1.rs.at_ k l hl
        obtain ⟨b2, o2, A2, n2, c2, hA2, hb2, hls2⟩ := H.out.1.rs.at_ 0 x HR.out.2.2.2.2
        rw [hA] at hA2
        injection hA2 with hA2
        injection hA2 with e1 e2
        subst e1
        subst e2
        subst hA
        have d6 : decide ((k : Int) < (n : Int)) = true := decide_eq_true (by omega)
        have hlp : n1 ≤ 9223372036854775807 := by have := HR.out.2.2.2.1 l (List.mem_of_getElem? hl); rw [hls.pcs.len] at this; omega
        have e0 := (hls.quiet hM hb).cells 0 _ rfl
        have e1 := (hls.quiet hM hb).cells 1 _ rfl
        have e2 := (hls.quiet hM hb).cells 2 _ rfl
        have e3 := (hls.quiet hM hb).cells 3 _ rfl
        have e4 := (hls.quiet hM hb).cells 4 _ rfl
        have e5 := (hls.quiet hM hb).cells 5 _ rfl
        have e6 := (hls.quiet hM hb).cells 6 _ rfl
        have e7 := (hls.quiet hM hb).cells 7 _ rfl
        rw [Nat.add_zero] at e0
        have mA1 : Mod (fun _ => False) wr (wr.alloc (.cells (lsV l A1 n1 c1).toArray 35)) := (Mod.refl _ wr).alloc _
        have hbl : Blk (wr.alloc (.cells (lsV l A1 n1 c1).toArray 35)) wr.heap.size 35 (lsV l A1 n1 c1).toArray := Blk.new _ _ _
        have hbm1 := (hbm.keep mA1 (fun h => h)).drew.cell 2
        have g7 := hbl.drew.cell 7
        have x7 := ((hls2.quiet (hM.trans mA1).drew hb).cells 7 _ rfl)
        rw [Nat.zero_mul, Nat.add_zero] at x7
        have hq := (hM.trans mA1).drew
        have hbmD := (hbm.keep mA1 (fun h => h)).drew
        unfold lsV at g7 x7 hq hbm1 hbmD
        have HK := Lib.hid (And.intro hall (And.intro hl (And.intro hls.pcs (And.intro hls2.pcs (And.intro hq hbmD)))))
        clear hall hl hls hls2 mA1 hbl hq hbm hM hbmD
        go_upto_region 7 with (fail)
        refine wp_region_plan [8] [] (0 :: 1 :: 2 :: 3 :: 4 :: 5 :: 6 :: 7 :: 8 :: 9 :: []) (by kernel_rfl) (by kernel_rfl) (fun _ _ _ d _ h => by cases d <;> exact h) ?_
        iterate 8 (refine plan_still rfl rfl (fun K hK => ?_); go_simp; refine hK _ ?_; clear hK K)
        refine plan_loud rfl rfl (fun K hK => ?_)
        go_simp
        refine (pEqP _ A1 A2 n1 c1 n2 c2 l.pieces x.pieces (HK.out.2.2.1.quiet HK.out.2.2.2.2.1) (HK.out.2.2.2.1.quiet HK.out.2.2.2.2.1) hlp).mono ?_
        rintro e w5 ⟨rfl, hm5⟩
        have hM5 := HK.out.2.2.2.2.1.trans hm5
        have hb5 := HK.out.2.2.2.2.2.keep hm5 (fun h => h)
        dsimp only []
        refine hK _ _ ?_
        clear hK K hm5
        cases hfr : decide (framesOf l.pieces = framesOf x.pieces) with
        | true =>
          have HE := Lib.hid (And.intro hfr (And.intro hM5 hb5))
          clear hfr hM5 hb5 e0 e1 e2 e3 e4 e5 e6 e7 g7 x7 hbm1
          iterate 1 (refine plan_still rfl rfl (fun K hK => ?_); go_simp; refine hK _ ?_; clear hK K)
          refine plan_done ?_
          go_wp2_with fail
          go_roundw
          case rel => exact ⟨k + 1, by omega, by go_num, all_snocL HK.out.1 HK.out.2.1 HE.out.1, HE.out.2.2, HE.out.2.1⟩
          case measure => simp [intOf]; omega
        | false =>
          have HE := Lib.hid (And.intro hfr (And.intro hM5 hb5))
          clear hfr hM5 hb5 e0 e1 e2 e3 e4 e5 e6 e7 g7 x7 hbm1
          iterate 1 (refine plan_still rfl rfl (fun K hK => ?_); go_simp; refine hK _ ?_; clear hK K)
          refine plan_done ?_
          go_wp2_with fail
          go_ret
          exact ⟨by unfold alignO; rw [HR.out.1, align_bad HR.out.2.2.2.2 HK.out.2.1 HE.out.1]; rfl, HE.out.2.1⟩
      · obtain rfl : k = n := by omega
        have d6 : decide ((k : Int) < (k : Int)) = false := decide_eq_false (by omega)
        have hok : alignB m.rends = true := align_ok HR.out.2.2.2.2 (by rw [hln]; exact hall)
        have HA := Lib.hid (And.intro hok hM)
        clear hok hall hM hbm
        go_wp2_with fail
        go_ret
        exact ⟨by unfold alignO; rw [HR.out.1, HA.out.1]; rfl, HA.out.2⟩
end Go.Proofs.YtkobngipbhjfjaaDoor
