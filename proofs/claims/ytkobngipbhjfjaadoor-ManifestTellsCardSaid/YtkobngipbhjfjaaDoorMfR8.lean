/-
  The reference's Total and Align, walked.
-/
import Derived.Test.YtkobngipbhjfjaaDoorMfR5
import Derived.Test.YtkobngipbhjfjaaDoorMfTotal
import Derived.Test.YtkobngipbhjfjaaDoorMfAlign
import Derived.Test.YtkobngipbhjfjaaDoorMfText
namespace Go.Proofs.YtkobngipbhjfjaaDoor
open Go.RowKit

def RtoRel (w : World) (lb : Nat) (cs : Array Value) (l : Ls) (v3 v4 : Value) (wr : World) : Prop :=
  ∃ j : Nat, j ≤ l.pieces.length ∧ v3 = .int .i64 (totL (l.pieces.take j)) ∧ v4 = .int .i64 (j : Int) ∧ Blk wr lb 35 cs ∧ Mod (fun _ => False) w wr
set_option maxRecDepth 100000 in
set_option maxHeartbeats 4000000 in
theorem rTotal (w : World) (l : Ls) (A : Option Addr) (n c : Nat) (h : PcsIn w A n l.pieces) (hn : n ≤ 9223372036854775807) : Calls Tryd.prog 14 #[.agg (lsV l A n c).toArray] w fun e w' => e = .returned (.int .i64 (totL l.pieces)) ∧ Mod (fun _ => False) w w' := by
  have hln := h.len
  have mA : Mod (fun _ => False) w (w.alloc (.cells (lsV l A n c).toArray 35)) := (Mod.refl _ w).alloc _
  have hb0 : Blk (w.alloc (.cells (lsV l A n c).toArray 35)) w.heap.size 35 (lsV l A n c).toArray := Blk.new _ _ _
  have H := Lib.hid (And.intro h (And.intro mA hb0))
  clear h mA hb0
  unfold lsV at H ⊢
  go_enter Tryd.func14, Tryd.ntmps14
  go_wp2_with fail
  go_loopw [3, 4] (RtoRel w w.heap.size (lsV l A n c).toArray l) (fun _ s _ => n - (intOf s).toNat)
  case atStart => exact ⟨0, by omega, by simp [totL], rfl, H.out.2.2, H.out.2.1⟩
  case round =>
    rename World => wr
    obtain ⟨j, hj, rfl, rfl, hB, hM⟩ := hrel
    have hti := totL_in (l.pieces.take j)
    have cB := hB.cell
    unfold lsV at cB
    by_cases hjl : j < n
    · obtain ⟨p, hp⟩ : ∃ p, l.pieces[j]? = some p := ⟨_, List.getElem?_eq_getElem (by omega)⟩
      obtain ⟨b, o, hA, hb, hpc⟩ := (H.out.1.quiet hM).at_ j p hp
      subst hA
      have d7 : decide ((j : Int) < (n : Int)) = true := decide_eq_true (by omega)
      have hpok := (H.out.1.ok p (List.mem_of_getElem? hp)).1
      obtain ⟨x1, x2⟩ := hpok
      obtain ⟨k0, k1, k2⟩ := hpc
      have hts := totL_snoc hp
      generalize totL (l.pieces.take j) = t at hti hts ⊢
      obtain ⟨y1, y2⟩ := hti
      have HT := Lib.hid (And.intro hts (And.intro hB hM))
      clear hts hB hM hp
      by_cases hp0 : 0 < p.fr
      · rw [if_pos hp0] at HT
        have m0 : decide (p.fr < 0) = false := decide_eq_false (by omega)
        have m1 : decide (0 < p.fr) = true := decide_eq_true hp0
        go_wp2_with fail
        go_roundw
        case rel => exact ⟨j + 1, by omega, by rw [HT.out.1], by go_num, HT.out.2.1, HT.out.2.2⟩
        case measure => simp [intOf]; omega
      · rw [if_neg hp0] at HT
        have m0 : decide (0 < p.fr) = false := decide_eq_false hp0
        go_wp2_with fail
        go_roundw
        case rel => exact ⟨j + 1, by omega, by rw [HT.out.1, IntWalk.wrap64_in (t + 0) ⟨by omega, by omega⟩]; congr 1; split <;> omega, by go_num, HT.out.2.1, HT.out.2.2⟩
        case measure => simp [intOf]; omega
    · obtain rfl : j = n := by omega
      have d7 : decide ((j : Int) < (j : Int)) = false := decide_eq_false (by omega)
      have ht : l.pieces.take j = l.pieces := by rw [← hln, List.take_length]
      rw [ht] at hti ⊢
      have HM := Lib.hid hM
      clear hM ht
      go_wp2_with fail
      go_ret
      exact ⟨rfl, HM.out⟩
def RaRel (w : World) (mb : Nat) (cs : Array Value) (m : Mf) (x : Ls) (v : Value) (wr : World) : Prop := ∃ k : Nat, k ≤ m.rends.length ∧ v = .int .i64 (k : Int) ∧ (m.rends.take k).all (fun l => decide (framesOf l.pieces = framesOf x.pieces)) = true ∧ Blk wr mb 24 cs ∧ Mod (fun _ => False) w wr
def RaIn (w : World) (xs ys : List Pc) (v : Value) (wr : World) : Prop := ∃ j : Nat, j ≤ xs.length ∧ v = .int .i64 (j : Int) ∧ (framesOf xs).take j = (framesOf ys).take j ∧ Mod (fun _ => False) w wr
theorem frames_ne {xs ys : List Pc} {j : Nat} {p q : Pc} (hp : xs[j]? = some p) (hq : ys[j]? = some q) (h : p.fr ≠ q.fr) : framesOf xs ≠ framesOf ys := by
  intro e
  have h1 := framesOf_get hp
  rw [e, framesOf_get hq] at h1
  exact h (Option.some.inj h1).symm
theorem frames_lne {xs ys : List Pc} (h : xs.length ≠ ys.length) : framesOf xs ≠ framesOf ys := by
  intro e
  have := congrArg List.length e
  unfold framesOf at this
  simp at this
  exact h this
set_option maxRecDepth 100000 in
set_option maxHeartbeats 4000000 in
theorem rAlign (w : World) (m : Mf) (A : Option Addr) (n c : Nat) (h : MfIn w A n m) (hp : (pathsR m.rends).length ≤ 1000000) : Calls Tryd.prog 18 #[.agg (mfV m A n c).toArray] w fun e w' => e = .returned (.int .i64 (alignO m)) ∧ Mod (fun _ => False) w w' := by
  have mA : Mod (fun _ => False) w (w.alloc (.cells (mfV m A n c).toArray 24)) := (Mod.refl _ w).alloc _
  have hb0 : Blk (w.alloc (.cells (mfV m A n c).toArray 24)) w.heap.size 24 (mfV m A n c).toArray := Blk.new _ _ _
  have H := Lib.hid (And.intro h (And.intro mA (And.intro hb0 hp)))
  have c0 := hb0.cell
  clear h mA hb0 hp
  unfold mfV at H c0 ⊢
  go_enter Tryd.func18, Tryd.ntmps18
  go_wp2_with fail
  refine (rRight _ m A n c (H.out.1.quiet H.out.2.1) H.out.2.2.2).mono ?_
  rintro e w1 ⟨rfl, hm1⟩
  have hM1 := H.out.2.1.trans hm1
  have hb1 := H.out.2.2.1.keep hm1 (fun h => h)
  clear c0
  cases hr : rightB m with
  | false =>
    have HR := Lib.hid (And.intro hr hM1)
    clear hr hM1 hm1 hb1
    go_wp2_with fail
    go_ret
    exact ⟨by unfold alignO; rw [HR.out.1]; rfl, HR.out.2⟩
  | true =>
    have hbd : 1 ≤ n ∧ n ≤ 8 ∧ ∀ l ∈ m.rends, l.pieces.length ≤ 1024 := by
      rw [← H.out.1.rs.len]
      obtain ⟨_, ⟨n1, n2⟩, hall⟩ := right_bounds hr
      refine ⟨n1, n2, fun l hl => ?_⟩
      obtain ⟨_, _, _, _, _, _, _, _, h9, _⟩ := listed_parts (hall l hl)
      exact h9
    obtain ⟨hn1, hn8, hpl⟩ := hbd
    have hn0 : 0 < n := hn1
    have hln : m.rends.length = n := H.out.1.rs.len
    obtain ⟨x, hx⟩ : ∃ x, m.rends[0]? = some x := ⟨_, List.getElem?_eq_getElem (by omega)⟩
    have HR := Lib.hid (And.intro hr (And.intro hM1 (And.intro hb1 (And.intro hpl hx))))
    clear hr hM1 hm1 hb1 hpl hx
    go_wp2_with fail
    go_loopw [4] (RaRel w w.heap.size #[.int .i64 m.scale, .int .i64 m.tick, .slice A n c] m x) (fun s _ => n - (intOf s).toNat)
    case atStart => exact ⟨0, by omega, rfl, by simp, HR.out.2.2.1, HR.out.2.1⟩
    case round =>
      rename World => wr
      obtain ⟨k, hk, rfl, hall, hbm, hM⟩ := hrel
      have cB := hbm.cell
      by_cases hlt : k < n
      · obtain ⟨l, hl⟩ : ∃ l, m.rends[k]? = some l := ⟨_, List.getElem?_eq_getElem (by omega)⟩
        obtain ⟨b, o, A1, n1, c1, hA, hb, hls⟩ := (H.out.1.rs.quiet hM).at_ k l hl
        obtain ⟨b2, o2, A2, n2, c2, hA2, hb2, hls2⟩ := (H.out.1.rs.quiet hM).at_ 0 x HR.out.2.2.2.2
        rw [hA] at hA2
        injection hA2 with hA2
        injection hA2 with e1 e2
        subst e1
        subst e2
        subst hA
        have d6 : decide ((k : Int) < (n : Int)) = true := decide_eq_true (by omega)
        have hlp : n1 ≤ 1024 := by have := HR.out.2.2.2.1 l (List.mem_of_getElem? hl); rw [hls.pcs.len] at this; omega
        have e7 := hls.cells 7 _ rfl
        have x7 := hls2.cells 7 _ rfl
        rw [Nat.zero_mul, Nat.add_zero] at x7
        have hl1 := hls.pcs.len
        have hl2 := hls2.pcs.len
        have HK := Lib.hid (And.intro hall (And.intro hl (And.intro hls.pcs (And.intro hls2.pcs (And.intro hM hbm)))))
        clear hall hl hls hls2 hbm hM
        by_cases hnn : n1 = n2
        · subst hnn
          have d7 : ((n1 : Int) != (n1 : Int)) = false := by simp
          go_wp2_with fail
          go_loopw [7] (RaIn wr l.pieces x.pieces) (fun s _ => n1 - (intOf s).toNat)
          case atStart => exact ⟨0, by omega, rfl, by simp, Mod.refl _ _⟩
          case round =>
            rename World => wq
            clear e7 x7 cB
            obtain ⟨j, hj, rfl, heq, hM2⟩ := hrel
            by_cases hjl : j < n1
            · obtain ⟨p, hp⟩ : ∃ p, l.pieces[j]? = some p := ⟨_, List.getElem?_eq_getElem (by omega)⟩
              obtain ⟨q, hq⟩ : ∃ q, x.pieces[j]? = some q := ⟨_, List.getElem?_eq_getElem (by omega)⟩
              obtain ⟨b3, o3, hA3, hb3, hpc⟩ := (HK.out.2.2.1.quiet hM2.drew).at_ j p hp
              obtain ⟨b4, o4, hA4, hb4, hqc⟩ := (HK.out.2.2.2.1.quiet hM2.drew).at_ j q hq
              subst hA3
              subst hA4
              have d8 : decide ((j : Int) < (n1 : Int)) = true := decide_eq_true (by omega)
              have y0 := hpc.1
              have z0 := hqc.1
              have HJ := Lib.hid (And.intro heq (And.intro hM2 (And.intro hp hq)))
              clear heq hM2 hp hq hpc hqc
              cases d9 : (p.fr != q.fr) with
              | true =>
                have HE := Lib.hid (bne_iff_ne.1 d9)
                go_upto_region 14 with (fail)
                refine wp_region_plan [] [] (0 :: 1 :: 2 :: 3 :: 4 :: 5 :: 6 :: 7 :: 8 :: 9 :: 10 :: []) (by kernel_rfl) (by kernel_rfl) (fun _ _ _ d _ h => by cases d <;> exact h) ?_
                iterate 11 (refine plan_still rfl rfl (fun K hK => ?_); go_simp; refine hK _ ?_; clear hK K)
                refine plan_done ?_
                go_wp2_with fail
                go_ret
                refine ⟨?_, (HK.out.2.2.2.2.1.trans HJ.out.2.1).drew⟩
                unfold alignO
                rw [HR.out.1, align_bad HR.out.2.2.2.2 HK.out.2.1 (decide_eq_false (frames_ne HJ.out.2.2.1 HJ.out.2.2.2 HE.out))]
                rfl
              | false =>
                have HE := Lib.hid (show p.fr = q.fr by simpa using d9)
                go_upto_region 14 with (fail)
                refine wp_region_plan [] [] (0 :: 1 :: 2 :: 3 :: 4 :: 5 :: 6 :: 7 :: 8 :: 9 :: 10 :: []) (by kernel_rfl) (by kernel_rfl) (fun _ _ _ d _ h => by cases d <;> exact h) ?_
                iterate 11 (refine plan_still rfl rfl (fun K hK => ?_); go_simp; refine hK _ ?_; clear hK K)
                refine plan_done ?_
                go_wp2_with fail
                go_roundw
                case rel => exact ⟨j + 1, by omega, by go_num, by rw [take_snoc (framesOf_get HJ.out.2.2.1), take_snoc (framesOf_get HJ.out.2.2.2), HJ.out.1, HE.out], HJ.out.2.1.drew⟩
                case measure => simp [intOf]; omega
            · obtain rfl : j = n1 := by omega
              have d8 : decide ((j : Int) < (j : Int)) = false := decide_eq_false (by omega)
              have hfe : decide (framesOf l.pieces = framesOf x.pieces) = true := by
                refine decide_eq_true ?_
                rwa [List.take_of_length_le (by unfold framesOf; simp; omega), List.take_of_length_le (by unfold framesOf; simp; omega)] at heq
              have HJ := Lib.hid (And.intro hfe hM2)
              clear heq hfe hM2
              go_wp2_with fail
              go_roundw
              case rel => exact ⟨k + 1, by omega, by go_num, all_snocL HK.out.1 HK.out.2.1 HJ.out.1, HK.out.2.2.2.2.2.keep HJ.out.2 (fun h => h), HK.out.2.2.2.2.1.trans HJ.out.2⟩
              case measure => simp [intOf]; omega
        · have d7 : ((n1 : Int) != (n2 : Int)) = true := by simp; omega
          have HN := Lib.hid (frames_lne (xs := l.pieces) (ys := x.pieces) (by omega))
          go_wp2_with fail
          go_ret
          refine ⟨?_, HK.out.2.2.2.2.1⟩
          unfold alignO
          rw [HR.out.1, align_bad HR.out.2.2.2.2 HK.out.2.1 (decide_eq_false HN.out)]
          rfl
      · obtain rfl : k = n := by omega
        have d6 : decide ((k : Int) < (k : Int)) = false := decide_eq_false (by omega)
        rw [← hln] at hall
        have HK := Lib.hid (And.intro (align_ok HR.out.2.2.2.2 hall) hM)
        clear hall hM hbm
        go_wp2_with fail
        go_ret
        refine ⟨?_, HK.out.2⟩
        unfold alignO
        rw [HR.out.1, HK.out.1]
        rfl
end Go.Proofs.YtkobngipbhjfjaaDoor
