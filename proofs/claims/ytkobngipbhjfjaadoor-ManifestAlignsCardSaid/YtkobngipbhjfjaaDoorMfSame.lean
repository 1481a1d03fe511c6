/-
  manifest.Same, walked, with slices.Equal of pieces, sameListed and slices.EqualFunc of renditions.
-/
import Derived.Test.YtkobngipbhjfjaaDoorMfRow
import Derived.Test.YtkobngipbhjfjaaDoorMfOk
import Derived.Test.YtkobngipbhjfjaaDoorPlanS
import Derived.Laws.StructEq
import Derived.Deep.DeepCutAuto
namespace Go.Proofs.YtkobngipbhjfjaaDoor
open Go.RowKit

theorem str_beq (a b : Str) : ((strOf a).toList == (strOf b).toList) = decide (a = b) := by
  rw [strOf_toList, strOf_toList]
  by_cases h : a = b <;> simp [h]
theorem guardPc : Tryd.prog.eqGuardType Tryd.prog.depth 32 = false := by kernel_rfl
theorem eqInPc (p q : Pc) (w : World) : (Op.equalIn 10000 32 (.agg (pcV p).toArray) (.agg (pcV q).toArray)).run Tryd.prog w = .ok (decide (p = q)) w := by
  have hS : Tryd.prog.underlying 32 = some (.struct (Tryd.prog.fieldsOf 32)) := by kernel_rfl
  have hp : Tryd.prog.stoodInHeld 32 = false := by kernel_rfl
  simp only [pcV]
  rw [show (10000 : Nat) = 9999 + 1 from rfl, run_equalIn_agg w 9999 32 _ _ hS hp]
  simp only [Program.fieldsOf, Tryd.underlying32]
  go_simp
  rw [strOf_toList, strOf_toList]
  by_cases h1 : p.fr = q.fr <;> by_cases h2 : p.sz = q.sz <;> by_cases h3 : p.path = q.path <;> cases p <;> cases q <;> simp_all
theorem neqPc (p q : Pc) (w : World) : (binOp .neq 32 (.agg (pcV p).toArray) (.agg (pcV q).toArray)).run Tryd.prog w = .ok (.bool (!decide (p = q))) w := by
  rw [run_neq_struct, eqInPc]
  rfl
theorem eqlPc (p q : Pc) (w : World) : (binOp .eql 32 (.agg (pcV p).toArray) (.agg (pcV q).toArray)).run Tryd.prog w = .ok (.bool (decide (p = q))) w := by
  rw [run_eql_struct, eqInPc]
  rfl
theorem take_eq_next {α : Type} {xs ys : List α} {k : Nat} {x y : α} (h : xs.take k = ys.take k) (hx : xs[k]? = some x) (hy : ys[k]? = some y) (he : x = y) : xs.take (k + 1) = ys.take (k + 1) := by rw [take_snoc hx, take_snoc hy, h, he]
theorem ne_at {α : Type} {xs ys : List α} {k : Nat} {x y : α} (hx : xs[k]? = some x) (hy : ys[k]? = some y) (he : x ≠ y) : xs ≠ ys := by
  intro h
  rw [h, hy] at hx
  injection hx with hx
  exact he hx.symm
def EqRel (w : World) (xs ys : List Pc) (v : Value) (wr : World) : Prop := ∃ k : Nat, k ≤ xs.length ∧ v = .int .i64 (k : Int) ∧ xs.take k = ys.take k ∧ Mod (fun _ => False) w wr
set_option maxRecDepth 100000 in
set_option maxHeartbeats 4000000 in
theorem pEqual (w : World) (A A' : Option Addr) (n c n' c' : Nat) (xs ys : List Pc) (hx : PcsIn w A n xs) (hy : PcsIn w A' n' ys) (hn : n ≤ 9223372036854775807) : Calls Tryd.prog 57 #[.slice A n c, .slice A' n' c'] w fun e w' => e = .returned (.bool (decide (xs = ys))) ∧ Mod (fun _ => False) w w' := by
  have hlx := hx.len
  have hly := hy.len
  have H := Lib.hid (And.intro hx hy)
  clear hx hy
  by_cases hnn : n = n'
  · subst hnn
    have d0 : decide ((n : Int) = (n : Int)) = true := decide_eq_true rfl
    go_enter Tryd.func57, Tryd.ntmps57
    go_wp2_with fail
    go_loopw [13] (EqRel w xs ys) (fun s _ => n - (intOf s).toNat)
    case atStart => exact ⟨0, by omega, rfl, by simp, Mod.refl _ _⟩
    case round =>
      rename World => wr
      obtain ⟨k, hk, rfl, heq, hM⟩ := hrel
      by_cases hlt : k < n
      · obtain ⟨x, hxk⟩ : ∃ x, xs[k]? = some x := ⟨_, List.getElem?_eq_getElem (by omega)⟩
        obtain ⟨y, hyk⟩ : ∃ y, ys[k]? = some y := ⟨_, List.getElem?_eq_getElem (by omega)⟩
        obtain ⟨b, o, hA, hb, hpc⟩ := (H.out.1.quiet hM).at_ k x hxk
        obtain ⟨b', o', hA', hb', hpc'⟩ := (H.out.2.quiet hM).at_ k y hyk
        subst hA
        subst hA'
        have d1 : decide ((k : Int) < (n : Int)) = true := decide_eq_true (by omega)
        have k0 : wr.drew.cell? ⟨b, o + k * 3, none⟩ = _ := hpc.1
        have k1 : wr.drew.cell? ⟨b, o + k * 3 + 1, none⟩ = _ := hpc.2.1
        have k2 : wr.drew.cell? ⟨b, o + k * 3 + 2, none⟩ = _ := hpc.2.2
        have m0 : wr.drew.cell? ⟨b', o' + k * 3, none⟩ = _ := hpc'.1
        have m1 : wr.drew.cell? ⟨b', o' + k * 3 + 1, none⟩ = _ := hpc'.2.1
        have m2 : wr.drew.cell? ⟨b', o' + k * 3 + 2, none⟩ = _ := hpc'.2.2
        have hgd := guardPc
        have HK := Lib.hid (And.intro heq (And.intro hxk (And.intro hyk hM.drew)))
        clear heq hxk hyk hM hpc hpc'
        by_cases hxy : x = y
        · have hnq := fun w => eqInPc x y w
          rw [decide_eq_true hxy] at hnq
          unfold pcV at hnq
          have HE := Lib.hid hxy
          clear hxy
          go_upto_region 6 with (fail)
          refine wp_region_plan [] [] (0 :: 1 :: 2 :: 3 :: 4 :: 5 :: 6 :: 7 :: 8 :: []) (by kernel_rfl) (by kernel_rfl) (fun _ _ _ d _ h => by cases d <;> exact h) ?_
          iterate 9 (refine plan_still rfl rfl (fun K hK => ?_); go_simp; refine hK _ ?_; clear hK K)
          refine plan_done ?_
          go_wp2_with fail
          go_roundw
          case rel => exact ⟨k + 1, by omega, by go_num, take_eq_next HK.out.1 HK.out.2.1 HK.out.2.2.1 HE.out, HK.out.2.2.2⟩
          case measure => simp [intOf]; omega
        · have hnq := fun w => eqInPc x y w
          rw [decide_eq_false hxy] at hnq
          unfold pcV at hnq
          have HE := Lib.hid hxy
          clear hxy
          go_upto_region 6 with (fail)
          refine wp_region_plan [] [] (0 :: 1 :: 2 :: 3 :: 4 :: 5 :: 6 :: 7 :: 8 :: []) (by kernel_rfl) (by kernel_rfl) (fun _ _ _ d _ h => by cases d <;> exact h) ?_
          iterate 9 (refine plan_still rfl rfl (fun K hK => ?_); go_simp; refine hK _ ?_; clear hK K)
          refine plan_done ?_
          go_wp2_with fail
          go_ret
          exact ⟨by rw [decide_eq_false (ne_at HK.out.2.1 HK.out.2.2.1 HE.out)]; rfl, HK.out.2.2.2⟩
      · obtain rfl : k = n := by omega
        have d1 : decide ((k : Int) < (k : Int)) = false := decide_eq_false (by omega)
        have hall : xs = ys := by
          have h2 : ys.take k = ys := by rw [← hly, List.take_length]
          have h1 : xs.take k = xs := by rw [← hlx, List.take_length]
          rw [← h1, ← h2]
          exact heq
        have HK := Lib.hid (And.intro hall hM)
        clear hall heq hM
        go_wp2_with fail
        go_ret
        exact ⟨by rw [decide_eq_true HK.out.1]; rfl, HK.out.2⟩
  · have d0 : decide ((n : Int) = (n' : Int)) = false := decide_eq_false (by omega)
    have hne : xs ≠ ys := by
      intro h
      rw [h] at hlx
      omega
    have HN := Lib.hid hne
    clear hne
    go_enter Tryd.func57, Tryd.ntmps57
    go_wp2_with fail
    go_ret
    exact ⟨by rw [decide_eq_false HN.out]; rfl, Mod.refl _ _⟩
theorem ls_ext {x y : Ls} (h1 : (strOf x.name).toList = (strOf y.name).toList) (h2 : x.w = y.w) (h3 : x.h = y.h) (h4 : x.bw = y.bw) (h5 : x.init.fr = y.init.fr) (h6 : x.init.sz = y.init.sz) (h7 : (strOf x.init.path).toList = (strOf y.init.path).toList) (h8 : x.pieces = y.pieces) : x = y := by
  rw [strOf_toList, strOf_toList] at h1 h7
  cases x with
  | mk a b c d e f =>
    cases y with
    | mk a' b' c' d' e' f' =>
      cases e
      cases e'
      simp_all
set_option maxRecDepth 100000 in
set_option maxHeartbeats 4000000 in
theorem pSameL (w : World) (l l' : Ls) (A A' : Option Addr) (n c n' c' : Nat) (hl : l.Ok) (hx : PcsIn w A n l.pieces) (hy : PcsIn w A' n' l'.pieces) : Calls Tryd.prog 43 #[.agg (lsV l A n c).toArray, .agg (lsV l' A' n' c').toArray] w fun e w' => e = .returned (.bool (decide (l = l'))) ∧ Mod (fun _ => False) w w' := by
  have hM : ∀ cs cs', Mod (fun _ => False) w ((w.alloc (.cells cs 35)).alloc (.cells cs' 35)) := fun _ _ => ((Mod.refl _ w).alloc _).alloc _
  have H := Lib.hid (And.intro hx (And.intro hy hM))
  have hnn := hl.2.2.2.2.2
  rw [hx.len] at hnn
  clear hx hy hM hl
  obtain ⟨x, hxl⟩ : ∃ x, x = l := ⟨_, rfl⟩
  obtain ⟨y, hyl⟩ : ∃ y, y = l' := ⟨_, rfl⟩
  have HL := Lib.hid (And.intro hxl hyl)
  rw [← hxl, ← hyl]
  clear hxl hyl
  unfold lsV at H ⊢
  have hgd := guardPc
  go_enter Tryd.func43, Tryd.ntmps43
  go_wp2_with fail
  · refine (pEqual _ A A' n c n' c' l.pieces l'.pieces (H.out.1.quiet (H.out.2.2 _ _)) (H.out.2.1.quiet (H.out.2.2 _ _)) hnn).mono ?_
    rintro e w1 ⟨rfl, hm1⟩
    have hfin : decide (l.pieces = l'.pieces) = decide (x = y) := by
      rw [← HL.out.1, ← HL.out.2]
      rcases HL.out with ⟨e1, e2⟩
      refine decide_eq_decide.2 ⟨fun h => ?_, fun h => by rw [h]⟩
      exact ls_ext (by assumption) (by assumption) (by assumption) (by assumption) (by assumption) (by assumption) (by assumption) h
    have HF := Lib.hid (And.intro hfin ((H.out.2.2 _ _).trans hm1))
    clear hfin hm1
    go_wp2_with fail
    go_ret
    exact ⟨by rw [← HF.out.1]; rfl, HF.out.2⟩
  all_goals
    go_ret
    refine ⟨?_, H.out.2.2 _ _⟩
    have hne : x ≠ y := by
      intro e
      subst e
      first | contradiction | simp_all
    rw [decide_eq_false hne]
    rfl
def ElRel (w : World) (xs ys : List Ls) (v : Value) (wr : World) : Prop := ∃ k : Nat, k ≤ xs.length ∧ v = .int .i64 (k : Int) ∧ xs.take k = ys.take k ∧ Mod (fun _ => False) w wr
set_option maxRecDepth 100000 in
set_option maxHeartbeats 4000000 in
theorem pEqL (w : World) (A A' : Option Addr) (n c n' c' : Nat) (xs ys : List Ls) (hx : RsIn w A n xs) (hy : RsIn w A' n' ys) (hn : n ≤ 9223372036854775807) : Calls Tryd.prog 42 #[.slice A n c, .slice A' n' c', .func (.func 43) #[] #[]] w fun e w' => e = .returned (.bool (decide (xs = ys))) ∧ Mod (fun _ => False) w w' := by
  have hlx := hx.len
  have hly := hy.len
  have H := Lib.hid (And.intro hx hy)
  clear hx hy
  by_cases hnn : n = n'
  · subst hnn
    have d0 : decide ((n : Int) = (n : Int)) = true := decide_eq_true rfl
    go_enter Tryd.func42, Tryd.ntmps42
    go_wp2_with fail
    go_loopw [17] (ElRel w xs ys) (fun s _ => n - (intOf s).toNat)
    case atStart => exact ⟨0, by omega, rfl, by simp, Mod.refl _ _⟩
    case round =>
      rename World => wr
      obtain ⟨k, hk, rfl, heq, hM⟩ := hrel
      by_cases hlt : k < n
      · obtain ⟨x, hxk⟩ : ∃ x, xs[k]? = some x := ⟨_, List.getElem?_eq_getElem (by omega)⟩
        obtain ⟨y, hyk⟩ : ∃ y, ys[k]? = some y := ⟨_, List.getElem?_eq_getElem (by omega)⟩
        obtain ⟨b, o, B1, n1, c1, hA, hb, hpc⟩ := (H.out.1.quiet hM).at_ k x hxk
        obtain ⟨b', o', B2, n2, c2, hA', hb', hpc'⟩ := (H.out.2.quiet hM).at_ k y hyk
        subst hA
        subst hA'
        have d1 : decide ((k : Int) < (n : Int)) = true := decide_eq_true (by omega)
        have mA : Mod (fun _ => False) wr (wr.alloc (.cells (lsV x B1 n1 c1).toArray 35)) := (Mod.refl _ wr).alloc _
        have e0 := hpc.cells 0 _ rfl
        have e1 := hpc.cells 1 _ rfl
        have e2 := hpc.cells 2 _ rfl
        have e3 := hpc.cells 3 _ rfl
        have e4 := hpc.cells 4 _ rfl
        have e5 := hpc.cells 5 _ rfl
        have e6 := hpc.cells 6 _ rfl
        have e7 := hpc.cells 7 _ rfl
        rw [Nat.add_zero] at e0
        have f0 := (hpc'.quiet mA hb').cells 0 _ rfl
        have f1 := (hpc'.quiet mA hb').cells 1 _ rfl
        have f2 := (hpc'.quiet mA hb').cells 2 _ rfl
        have f3 := (hpc'.quiet mA hb').cells 3 _ rfl
        have f4 := (hpc'.quiet mA hb').cells 4 _ rfl
        have f5 := (hpc'.quiet mA hb').cells 5 _ rfl
        have f6 := (hpc'.quiet mA hb').cells 6 _ rfl
        have f7 := (hpc'.quiet mA hb').cells 7 _ rfl
        rw [Nat.add_zero] at f0
        have mB := mA.alloc (.cells (lsV y B2 n2 c2).toArray 35)
        unfold lsV at mB f0 f1 f2 f3 f4 f5 f6 f7
        clear mA
        have HK := Lib.hid (And.intro heq (And.intro hxk (And.intro hyk (And.intro hM (And.intro mB (And.intro hpc hpc'))))))
        clear heq hxk hyk hM hpc hpc' mB
        go_wp2_with fail
        refine (pSameL _ x y B1 B2 n1 c1 n2 c2 HK.out.2.2.2.2.2.1.ok (HK.out.2.2.2.2.2.1.pcs.quiet HK.out.2.2.2.2.1) (HK.out.2.2.2.2.2.2.pcs.quiet HK.out.2.2.2.2.1)).mono ?_
        rintro e w1 ⟨rfl, hm1⟩
        have hM1 := (HK.out.2.2.2.1.trans HK.out.2.2.2.2.1).trans hm1
        by_cases hxy : x = y
        · rw [decide_eq_true hxy]
          have HE := Lib.hid (And.intro hxy hM1)
          clear hxy hM1 hm1 e0 e1 e2 e3 e4 e5 e6 e7 f0 f1 f2 f3 f4 f5 f6 f7
          go_wp2_with fail
          go_roundw
          case rel => exact ⟨k + 1, by omega, by go_num, take_eq_next HK.out.1 HK.out.2.1 HK.out.2.2.1 HE.out.1, HE.out.2⟩
          case measure => simp [intOf]; omega
        · rw [decide_eq_false hxy]
          have HE := Lib.hid (And.intro hxy hM1)
          clear hxy hM1 hm1 e0 e1 e2 e3 e4 e5 e6 e7 f0 f1 f2 f3 f4 f5 f6 f7
          go_wp2_with fail
          go_ret
          exact ⟨by rw [decide_eq_false (ne_at HK.out.2.1 HK.out.2.2.1 HE.out.1)]; rfl, HE.out.2⟩
      · obtain rfl : k = n := by omega
        have d1 : decide ((k : Int) < (k : Int)) = false := decide_eq_false (by omega)
        have hall : xs = ys := by
          have h2 : ys.take k = ys := by rw [← hly, List.take_length]
          have h1 : xs.take k = xs := by rw [← hlx, List.take_length]
          rw [← h1, ← h2]
          exact heq
        have HK := Lib.hid (And.intro hall hM)
        clear hall heq hM
        go_wp2_with fail
        go_ret
        exact ⟨by rw [decide_eq_true HK.out.1]; rfl, HK.out.2⟩
  · have d0 : decide ((n : Int) = (n' : Int)) = false := decide_eq_false (by omega)
    have hne : xs ≠ ys := by
      intro h
      rw [h] at hlx
      omega
    have HN := Lib.hid hne
    clear hne
    go_enter Tryd.func42, Tryd.ntmps42
    go_wp2_with fail
    go_ret
    exact ⟨by rw [decide_eq_false HN.out]; rfl, Mod.refl _ _⟩
theorem mf_eq (a b : Mf) : decide (a = b) = ((a.scale == b.scale) && ((a.tick == b.tick) && decide (a.rends = b.rends))) := by
  cases a with
  | mk x y z =>
    cases b with
    | mk x' y' z' => by_cases h1 : x = x' <;> by_cases h2 : y = y' <;> by_cases h3 : z = z' <;> simp [h1, h2, h3]
set_option maxRecDepth 100000 in
set_option maxHeartbeats 4000000 in
theorem pSame (w : World) (a b : Mf) (A A' : Option Addr) (n c n' c' : Nat) (hx : MfIn w A n a) (hy : MfIn w A' n' b) : Calls Tryd.prog 22 #[.agg (mfV a A n c).toArray, .agg (mfV b A' n' c').toArray] w fun e w' => e = .returned (.bool (decide (a = b))) ∧ Mod (fun _ => False) w w' := by
  have hn := hx.nums.2.2
  have mA : Mod (fun _ => False) w ((w.alloc (.cells (mfV a A n c).toArray 24)).alloc (.cells (mfV b A' n' c').toArray 24)) := ((Mod.refl _ w).alloc _).alloc _
  have hq := mf_eq a b
  have H := Lib.hid (And.intro hx (And.intro hy (And.intro mA hq)))
  clear hx hy mA hq
  unfold mfV at H ⊢
  cases d0 : (a.scale == b.scale) with
  | false =>
    have HD := Lib.hid d0
    go_enter Tryd.func22, Tryd.ntmps22
    go_wp2_with fail
    go_ret
    exact ⟨by rw [H.out.2.2.2, HD.out]; rfl, H.out.2.2.1⟩
  | true =>
    cases d1 : (a.tick == b.tick) with
    | false =>
      have HD := Lib.hid d1
      go_enter Tryd.func22, Tryd.ntmps22
      go_wp2_with fail
      go_ret
      exact ⟨by rw [H.out.2.2.2, HD.out]; cases (a.scale == b.scale) <;> rfl, H.out.2.2.1⟩
    | true =>
      have HD := Lib.hid (And.intro d0 d1)
      go_enter Tryd.func22, Tryd.ntmps22
      go_wp2_with fail
      refine (pEqL _ A A' n c n' c' a.rends b.rends (H.out.1.rs.quiet H.out.2.2.1) (H.out.2.1.rs.quiet H.out.2.2.1) hn).mono ?_
      rintro e w1 ⟨rfl, hm1⟩
      have hfin : decide (a = b) = decide (a.rends = b.rends) := by rw [H.out.2.2.2, HD.out.1, HD.out.2]; rfl
      have HF := Lib.hid (And.intro hfin (H.out.2.2.1.trans hm1))
      clear hfin hm1
      cases hb : decide (a.rends = b.rends) with
      | false =>
        have HB := Lib.hid hb
        clear hb
        go_wp2_with fail
        go_ret
        exact ⟨by rw [HF.out.1, HB.out]; rfl, HF.out.2⟩
      | true =>
        have HB := Lib.hid hb
        clear hb
        go_wp2_with fail
        go_ret
        exact ⟨by rw [HF.out.1, HB.out]; rfl, HF.out.2⟩
end Go.Proofs.YtkobngipbhjfjaaDoor
