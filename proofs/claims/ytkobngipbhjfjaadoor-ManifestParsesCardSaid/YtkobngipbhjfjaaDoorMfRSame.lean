/-
  The reference's Same, walked.
-/
import Derived.Test.YtkobngipbhjfjaaDoorMfSame
namespace Go.Proofs.YtkobngipbhjfjaaDoor
open Go.RowKit

def RsRel (w : World) (g0 g1 : Nat) (cs cs' : Array Value) (xs ys : List Ls) (v : Value) (wr : World) : Prop := ∃ k : Nat, k ≤ xs.length ∧ v = .int .i64 (k : Int) ∧ xs.take k = ys.take k ∧ Blk wr g0 24 cs ∧ Blk wr g1 24 cs' ∧ Mod (fun _ => False) w wr
def RsmIn (w : World) (g0 g1 q0 q1 : Nat) (cs cs' : Array Value) (vx vy : Value) (xs ys : List Pc) (v : Value) (wr : World) : Prop := ∃ j : Nat, j ≤ xs.length ∧ v = .int .i64 (j : Int) ∧ xs.take j = ys.take j ∧ Blk wr g0 24 cs ∧ Blk wr g1 24 cs' ∧ wr.cell? ⟨q0, 7, none⟩ = some vx ∧ wr.cell? ⟨q1, 7, none⟩ = some vy ∧ Mod (fun _ => False) w wr
theorem mf_ne_s {a b : Mf} (h : a.scale ≠ b.scale) : decide (a = b) = false := decide_eq_false fun e => h (by rw [e])
theorem mf_ne_t {a b : Mf} (h : a.tick ≠ b.tick) : decide (a = b) = false := decide_eq_false fun e => h (by rw [e])
theorem mf_ne_r {a b : Mf} (h : a.rends ≠ b.rends) : decide (a = b) = false := decide_eq_false fun e => h (by rw [e])
theorem mf_eq_all {a b : Mf} (h1 : a.scale = b.scale) (h2 : a.tick = b.tick) (h3 : a.rends = b.rends) : decide (a = b) = true := by
  cases a; cases b; simp_all
set_option maxRecDepth 100000 in
set_option maxHeartbeats 8000000 in
theorem rSame (w : World) (a b : Mf) (A A' : Option Addr) (n c n' c' : Nat) (hx : MfIn w A n a) (hy : MfIn w A' n' b) : Calls Tryd.prog 21 #[.agg (mfV a A n c).toArray, .agg (mfV b A' n' c').toArray] w fun e w' => e = .returned (.bool (decide (a = b))) ∧ Mod (fun _ => False) w w' := by
  have hn := hx.nums.2.2
  have hla := hx.rs.len
  have hlb := hy.rs.len
  have mA : Mod (fun _ => False) w ((w.alloc (.cells (mfV a A n c).toArray 24)).alloc (.cells (mfV b A' n' c').toArray 24)) := ((Mod.refl _ w).alloc _).alloc _
  have hb0 : Blk ((w.alloc (.cells (mfV a A n c).toArray 24)).alloc (.cells (mfV b A' n' c').toArray 24)) w.heap.size 24 (mfV a A n c).toArray := (Blk.new w 24 _).alloc _
  have hb1 : Blk ((w.alloc (.cells (mfV a A n c).toArray 24)).alloc (.cells (mfV b A' n' c').toArray 24)) (w.heap.size + 1) 24 (mfV b A' n' c').toArray := by
    have := Blk.new (w.alloc (.cells (mfV a A n c).toArray 24)) 24 (mfV b A' n' c').toArray
    rwa [show (w.alloc (.cells (mfV a A n c).toArray 24)).heap.size = w.heap.size + 1 from by simp] at this
  have H := Lib.hid (And.intro hx (And.intro hy (And.intro mA (And.intro hb0 hb1))))
  clear hx hy mA hb0 hb1
  unfold mfV at H ⊢
  cases d0 : (a.scale != b.scale) with
  | true =>
    have HE := Lib.hid (bne_iff_ne.1 d0)
    go_enter Tryd.func21, Tryd.ntmps21
    go_wp2_with fail
    go_ret
    exact ⟨by rw [mf_ne_s HE.out]; rfl, H.out.2.2.1⟩
  | false =>
    cases d1 : (a.tick != b.tick) with
    | true =>
      have HE := Lib.hid (bne_iff_ne.1 d1)
      go_enter Tryd.func21, Tryd.ntmps21
      go_wp2_with fail
      go_ret
      exact ⟨by rw [mf_ne_t HE.out]; rfl, H.out.2.2.1⟩
    | false =>
      have HE := Lib.hid (And.intro (show a.scale = b.scale by simpa using d0) (show a.tick = b.tick by simpa using d1))
      by_cases hnn : n = n'
      · subst hnn
        have d2 : decide ((n : Int) = (n : Int)) = true := decide_eq_true rfl
        go_enter Tryd.func21, Tryd.ntmps21
        go_wp2_with fail
        go_loopw [5] (RsRel w w.heap.size (w.heap.size + 1) #[.int .i64 a.scale, .int .i64 a.tick, .slice A n c] #[.int .i64 b.scale, .int .i64 b.tick, .slice A' n c'] a.rends b.rends) (fun s _ => n - (intOf s).toNat)
        case atStart => exact ⟨0, by omega, rfl, by simp, H.out.2.2.2.1, H.out.2.2.2.2, H.out.2.2.1⟩
        case round =>
          rename World => wr
          obtain ⟨k, hk, rfl, heq, hB0, hB1, hM⟩ := hrel
          have cm := hB0.cell
          have cm' := hB1.cell
          by_cases hlt : k < n
          · obtain ⟨x, hxk⟩ : ∃ x, a.rends[k]? = some x := ⟨_, List.getElem?_eq_getElem (by omega)⟩
            obtain ⟨y, hyk⟩ : ∃ y, b.rends[k]? = some y := ⟨_, List.getElem?_eq_getElem (by omega)⟩
            obtain ⟨bx, o, B1, n1, c1, hA, hb, hpc⟩ := (H.out.1.rs.quiet hM).at_ k x hxk
            obtain ⟨bx', o', B2, n2, c2, hA', hb', hpc'⟩ := (H.out.2.1.rs.quiet hM).at_ k y hyk
            subst hA
            subst hA'
            have d6 : decide ((k : Int) < (n : Int)) = true := decide_eq_true (by omega)
            have mA : Mod (fun _ => False) wr (wr.alloc (.cells (lsV x B1 n1 c1).toArray 35)) := (Mod.refl _ wr).alloc _
            have e0 := hpc.cells 0 _ rfl
            have e1 := hpc.cells 1 _ rfl
            have e2 := hpc.cells 2 _ rfl
            have e3 := hpc.cells 3 _ rfl
            have e4 := hpc.cells 4 _ rfl
            have e5 := hpc.cells 5 _ rfl
            have e6 := hpc.cells 6 _ rfl
            have e7 := hpc.cells 7 _ rfl
            rw [Nat.add_zero] at e0
            have f0 := (hpc'.quiet mA hb').cells 0 _ rfl
            have f1 := (hpc'.quiet mA hb').cells 1 _ rfl
            have f2 := (hpc'.quiet mA hb').cells 2 _ rfl
            have f3 := (hpc'.quiet mA hb').cells 3 _ rfl
            have f4 := (hpc'.quiet mA hb').cells 4 _ rfl
            have f5 := (hpc'.quiet mA hb').cells 5 _ rfl
            have f6 := (hpc'.quiet mA hb').cells 6 _ rfl
            have f7 := (hpc'.quiet mA hb').cells 7 _ rfl
            rw [Nat.add_zero] at f0
            have cm2 := (hB1.keep mA (fun h => h)).cell
            have mB : ∀ cs cs', Mod (fun _ => False) wr ((wr.alloc (.cells cs 35)).alloc (.cells cs' 35)) := fun _ _ => ((Mod.refl _ wr).alloc _).alloc _
            have q0 : ∀ cs cs', Blk ((wr.alloc (.cells cs 35)).alloc (.cells cs' 35)) wr.heap.size 35 cs := fun cs _ => (Blk.new wr 35 cs).alloc _
            have q1 : ∀ cs cs', Blk ((wr.alloc (.cells cs 35)).alloc (.cells cs' 35)) (wr.heap.size + 1) 35 cs' := by
              intro cs cs'
              have := Blk.new (wr.alloc (.cells cs 35)) 35 cs'
              rwa [show (wr.alloc (.cells cs 35)).heap.size = wr.heap.size + 1 from by simp] at this
            unfold lsV at f0 f1 f2 f3 f4 f5 f6 f7 cm2
            clear mA
            have hlp : n1 ≤ 9223372036854775807 := by have := hpc.ok.2.2.2.2.2; rw [hpc.pcs.len] at this; exact this
            have hgd := guardPc
            have hlx := hpc.pcs.len
            have hly := hpc'.pcs.len
            have HK := Lib.hid (And.intro heq (And.intro hxk (And.intro hyk (And.intro hpc.pcs (And.intro hpc'.pcs (And.intro hM (And.intro mB (And.intro (And.intro hB0 hB1) (And.intro q0 q1)))))))))
            clear heq hxk hyk hM hpc hpc' mB q0 q1 hB0 hB1
            by_cases hnp : n1 = n2
            · subst hnp
              have d7 : decide ((n1 : Int) = (n1 : Int)) = true := decide_eq_true rfl
              go_wp2_with fail
              all_goals first
                | (go_ret
                   have hxy : x ≠ y := by
                     intro e
                     subst e
                     first | contradiction | simp_all
                   exact ⟨by rw [mf_ne_r (ne_at HK.out.2.1 HK.out.2.2.1 hxy)]; rfl, HK.out.2.2.2.2.2.1.trans (HK.out.2.2.2.2.2.2.1 _ _)⟩)
                | skip
              have hfin : x.pieces = y.pieces → x = y := fun h => ls_ext (by assumption) (by assumption) (by assumption) (by assumption) (by assumption) (by assumption) (by assumption) h
              have HX := Lib.hid hfin
              clear hfin
              go_loopw [8] (RsmIn wr w.heap.size (w.heap.size + 1) wr.heap.size (wr.heap.size + 1) #[.int .i64 a.scale, .int .i64 a.tick, .slice (some ⟨bx, o, none⟩) n c] #[.int .i64 b.scale, .int .i64 b.tick, .slice (some ⟨bx', o', none⟩) n c'] (.slice B1 n1 c1) (.slice B2 n1 c2) x.pieces y.pieces) (fun s _ => n1 - (intOf s).toNat)
              case atStart => exact ⟨0, by omega, rfl, by simp, HK.out.2.2.2.2.2.2.2.1.1.keep (HK.out.2.2.2.2.2.2.1 _ _) (fun h => h), HK.out.2.2.2.2.2.2.2.1.2.keep (HK.out.2.2.2.2.2.2.1 _ _) (fun h => h), (HK.out.2.2.2.2.2.2.2.2.1 _ _).cell 7, (HK.out.2.2.2.2.2.2.2.2.2 _ _).cell 7, HK.out.2.2.2.2.2.2.1 _ _⟩
              case round =>
                rename World => wq
                clear e0 e1 e2 e3 e4 e5 e6 e7 f0 f1 f2 f3 f4 f5 f6 f7 cm cm' cm2
                obtain ⟨j, hj, rfl, heqj, hC0, hC1, g7, g7', hM4⟩ := hrel
                by_cases hjl : j < n1
                · obtain ⟨p, hp⟩ : ∃ p, x.pieces[j]? = some p := ⟨_, List.getElem?_eq_getElem (by omega)⟩
                  obtain ⟨q, hq⟩ : ∃ q, y.pieces[j]? = some q := ⟨_, List.getElem?_eq_getElem (by omega)⟩
                  obtain ⟨r1, s1, hA1, hr1, hp1⟩ := (HK.out.2.2.2.1.quiet hM4).at_ j p hp
                  obtain ⟨r2, s2, hA2, hr2, hp2⟩ := (HK.out.2.2.2.2.1.quiet hM4).at_ j q hq
                  subst hA1
                  subst hA2
                  have d8 : decide ((j : Int) < (n1 : Int)) = true := decide_eq_true (by omega)
                  have k0 : wq.drew.cell? ⟨r1, s1 + j * 3, none⟩ = _ := hp1.1
                  have k1 : wq.drew.cell? ⟨r1, s1 + j * 3 + 1, none⟩ = _ := hp1.2.1
                  have k2 : wq.drew.cell? ⟨r1, s1 + j * 3 + 2, none⟩ = _ := hp1.2.2
                  have m0 : wq.drew.cell? ⟨r2, s2 + j * 3, none⟩ = _ := hp2.1
                  have m1 : wq.drew.cell? ⟨r2, s2 + j * 3 + 1, none⟩ = _ := hp2.2.1
                  have m2 : wq.drew.cell? ⟨r2, s2 + j * 3 + 2, none⟩ = _ := hp2.2.2
                  have gd : wq.drew.cell? ⟨wr.heap.size, 7, none⟩ = _ := g7
                  have gd' : wq.drew.cell? ⟨wr.heap.size + 1, 7, none⟩ = _ := g7'
                  have HJ := Lib.hid (And.intro heqj (And.intro hp (And.intro hq (And.intro hM4 (And.intro (And.intro hC0 hC1) (And.intro g7 g7'))))))
                  clear heqj hp hq hM4 hC0 hC1 hp1 hp2
                  by_cases hpq : p = q
                  · have hnq := fun w => eqInPc p q w
                    rw [decide_eq_true hpq] at hnq
                    unfold pcV at hnq
                    have HP := Lib.hid hpq
                    clear hpq
                    go_upto_region 13 with (fail)
                    refine wp_region_plan [] [] (0 :: 1 :: 2 :: 3 :: 4 :: 5 :: 6 :: 7 :: 8 :: 9 :: 10 :: []) (by kernel_rfl) (by kernel_rfl) (fun _ _ _ d _ h => by cases d <;> exact h) ?_
                    iterate 11 (refine plan_still rfl rfl (fun K hK => ?_); go_simp; refine hK _ ?_; clear hK K)
                    refine plan_done ?_
                    go_wp2_with fail
                    go_roundw
                    case rel => exact ⟨j + 1, by omega, by go_num, take_eq_next HJ.out.1 HJ.out.2.1 HJ.out.2.2.1 HP.out, HJ.out.2.2.2.2.1.1.drew, HJ.out.2.2.2.2.1.2.drew, HJ.out.2.2.2.2.2.1, HJ.out.2.2.2.2.2.2, HJ.out.2.2.2.1.drew⟩
                    case measure => simp [intOf]; omega
                  · have hnq := fun w => eqInPc p q w
                    rw [decide_eq_false hpq] at hnq
                    unfold pcV at hnq
                    have hxy : x ≠ y := fun e => ne_at HJ.out.2.1 HJ.out.2.2.1 hpq (by rw [e])
                    have HN := Lib.hid (mf_ne_r (ne_at HK.out.2.1 HK.out.2.2.1 hxy))
                    clear hpq hxy
                    go_upto_region 13 with (fail)
                    refine wp_region_plan [] [] (0 :: 1 :: 2 :: 3 :: 4 :: 5 :: 6 :: 7 :: 8 :: 9 :: 10 :: []) (by kernel_rfl) (by kernel_rfl) (fun _ _ _ d _ h => by cases d <;> exact h) ?_
                    iterate 11 (refine plan_still rfl rfl (fun K hK => ?_); go_simp; refine hK _ ?_; clear hK K)
                    refine plan_done ?_
                    go_wp2_with fail
                    go_ret
                    exact ⟨by rw [HN.out]; rfl, HK.out.2.2.2.2.2.1.trans HJ.out.2.2.2.1.drew⟩
                · obtain rfl : j = n1 := by omega
                  have d8 : decide ((j : Int) < (j : Int)) = false := decide_eq_false (by omega)
                  have hall : x.pieces = y.pieces := by
                    have h2 : y.pieces.take j = y.pieces := by rw [← hly, List.take_length]
                    have h1 : x.pieces.take j = x.pieces := by rw [← hlx, List.take_length]
                    rw [← h1, ← h2]
                    exact heqj
                  have HJ := Lib.hid (And.intro (HX.out hall) (And.intro hM4 (And.intro hC0 hC1)))
                  clear hall heqj hM4 hC0 hC1
                  go_wp2_with fail
                  go_roundw
                  case rel => exact ⟨k + 1, by omega, by go_num, take_eq_next HK.out.1 HK.out.2.1 HK.out.2.2.1 HJ.out.1, HJ.out.2.2.1, HJ.out.2.2.2, HK.out.2.2.2.2.2.1.trans HJ.out.2.1⟩
                  case measure => simp [intOf]; omega
            · have d7 : decide ((n1 : Int) = (n2 : Int)) = false := decide_eq_false (by omega)
              have hxy : x ≠ y := fun e => hnp (by rw [← hlx, ← hly, e])
              have HN := Lib.hid (mf_ne_r (ne_at HK.out.2.1 HK.out.2.2.1 hxy))
              clear hxy
              go_wp2_with fail
              all_goals
                go_ret
                exact ⟨by rw [HN.out]; rfl, HK.out.2.2.2.2.2.1.trans (HK.out.2.2.2.2.2.2.1 _ _)⟩
          · obtain rfl : k = n := by omega
            have d6 : decide ((k : Int) < (k : Int)) = false := decide_eq_false (by omega)
            have hall : a.rends = b.rends := by
              have h2 : b.rends.take k = b.rends := by rw [← hlb, List.take_length]
              have h1 : a.rends.take k = a.rends := by rw [← hla, List.take_length]
              rw [← h1, ← h2]
              exact heq
            have HK := Lib.hid (And.intro (mf_eq_all HE.out.1 HE.out.2 hall) hM)
            clear hall heq hM hB0 hB1
            go_wp2_with fail
            go_ret
            exact ⟨by rw [HK.out.1]; rfl, HK.out.2⟩
      · have d2 : decide ((n : Int) = (n' : Int)) = false := decide_eq_false (by omega)
        have hne : a.rends ≠ b.rends := fun h => hnn (by rw [← hla, ← hlb, h])
        have HN := Lib.hid hne
        clear hne
        go_enter Tryd.func21, Tryd.ntmps21
        go_wp2_with fail
        go_ret
        exact ⟨by rw [mf_ne_r HN.out]; rfl, H.out.2.2.1⟩
end Go.Proofs.YtkobngipbhjfjaaDoor
