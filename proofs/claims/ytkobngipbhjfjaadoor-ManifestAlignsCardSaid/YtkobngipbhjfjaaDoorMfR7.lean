/-
  The reference's Write, walked.
-/
import Derived.Test.YtkobngipbhjfjaaDoorMfR6
import Derived.Test.YtkobngipbhjfjaaDoorMfText
import Derived.Test.YtkobngipbhjfjaaDoorMfWrite
import Derived.Test.YtkobngipbhjfjaaDoorPlanS
namespace Go.Proofs.YtkobngipbhjfjaaDoor
open Go.RowKit

section
variable {P : Program} {ops : Array Oper} {loud pure_ : List Nat} {S : World → Prop} {Q : Exit → Act → World → Prop}
theorem planS_cat {i : Nat} {is : List Nat} {o : Oper} {a : Act} {w : World} (hl : (loud.contains i || pure_.contains i) = false) (ho : ops[i]? = some o) (hw : Region.wanted o (yielded ops a.tmps) = true)
    (t k : TypeId) (X Y : Operand) (hop : o.op = .binOp .add t X Y k) (p q : Str) (hx : a.eval X = .string (strOf p)) (hy : a.eval Y = .string (strOf q)) (hle : p.length + q.length ≤ 9223372036854775807)
    (h : PlanG P ops loud pure_ S Q is (a.put o.dst (.string (strOf (p ++ q)))) w) : PlanG P ops loud pure_ S Q (i :: is) a w := by
  refine planS_still hl ho (fun K hK => ?_)
  rw [if_pos hw]
  have hr := run_string_add_sum (P := P) w (strOf p) (strOf q) (by rw [strOf_size, strOf_size]; exact hle)
  rw [strOf_cat] at hr
  unfold Oper.still execOp
  simp only [hop, hx, hy, eqGuard, binOp, Sem.run_bind, Sem.run_pure, Result.andThen_ok, hr, Bool.not_false, if_true]
  exact ⟨rfl, hK _ h⟩
end
theorem rDig (w : World) (x : Int) (h0 : 0 ≤ x) (h1 : x ≤ 9223372036854775807) : Calls Tryd.prog 24 #[.int .i64 x] w fun e w' => e = .returned (.string (strOf (dec x))) ∧ w = w' := by
  have := rDigits w x.toNat (by omega)
  rwa [Int.toNat_of_nonneg h0] at this
def RwRel (w : World) (mb : Nat) (cs : Array Value) (m : Mf) (v5 v6 : Value) (wr : World) : Prop := ∃ k : Nat, k ≤ m.rends.length ∧ v6 = .int .i64 (k : Int) ∧ v5 = .string (strOf (headL m ++ (m.rends.take k).flatMap textR)) ∧ Blk wr mb 24 cs ∧ Mod (fun _ => False) w wr
def RwIn (w : World) (mb lb : Nat) (cs cs' : Array Value) (m : Mf) (k : Nat) (l : Ls) (v5 v8 : Value) (wr : World) : Prop := ∃ j : Nat, j ≤ l.pieces.length ∧ v8 = .int .i64 (j : Int) ∧ v5 = .string (strOf (headL m ++ (m.rends.take k).flatMap textR ++ lineR l ++ lineI l ++ (l.pieces.take j).flatMap lineP)) ∧ Blk wr mb 24 cs ∧ Blk wr lb 35 cs' ∧ Mod (fun _ => False) w wr
set_option maxRecDepth 100000 in
set_option maxHeartbeats 8000000 in
theorem rWrite (w : World) (m : Mf) (A : Option Addr) (n c : Nat) (h : MfIn w A n m) (hp : (pathsR m.rends).length ≤ 1000000) : Calls Tryd.prog 12 #[.agg (mfV m A n c).toArray] w fun e w' => e = .returned (.tuple (writeOut m)) ∧ Mod (fun _ => False) w w' := by
  have hln := h.rs.len
  have hn := h.nums.2.2
  have mA : Mod (fun _ => False) w (w.alloc (.cells (mfV m A n c).toArray 24)) := (Mod.refl _ w).alloc _
  have hb0 : Blk (w.alloc (.cells (mfV m A n c).toArray 24)) w.heap.size 24 (mfV m A n c).toArray := Blk.new _ _ _
  have H := Lib.hid (And.intro h (And.intro mA (And.intro hb0 hp)))
  have c0 := hb0.cell
  clear h mA hb0 hp
  unfold mfV at H c0 ⊢
  go_enter Tryd.func12, Tryd.ntmps12
  go_wp2_with fail
  refine (rRight _ m A n c (H.out.1.quiet H.out.2.1) H.out.2.2.2).mono ?_
  rintro e w1 ⟨rfl, hm1⟩
  have H1 := Lib.hid (And.intro (H.out.2.1.trans hm1) (H.out.2.2.1.keep hm1 (fun h => h)))
  clear hm1 c0
  cases hr : rightB m with
  | false =>
    have HO := Lib.hid (show writeOut m = #[.string (strOf []), .int .i64 181] by unfold writeOut; rw [hr]; rfl)
    clear hr
    go_wp2_with fail
    go_ret2
    exact ⟨by rw [HO.out]; rfl, H1.out.1⟩
  | true =>
    have HO := Lib.hid (show writeOut m = #[.string (strOf (writeL m)), .int .i64 0] by unfold writeOut; rw [hr]; rfl)
    have HR := Lib.hid hr
    obtain ⟨⟨s1, s2, t1, t2⟩, ⟨n1, n2⟩, hall⟩ := right_bounds hr
    have HAL := Lib.hid hall
    have ls1 := dec_len 6 (n := m.scale) (by omega)
    have ls2 := dec_len 6 (n := m.tick) (by omega)
    clear hr hall
    have hdw := H1.out.2.drew.cell
    have x0 := hdw 0
    have x1 := hdw 1
    go_upto_region 4 with (fail)
    refine wp_region_planS [] [] (0 :: 1 :: 2 :: 3 :: 4 :: 5 :: 6 :: 7 :: 8 :: 9 :: 10 :: []) (fun _ => True) (by kernel_rfl) (by kernel_rfl) (fun _ _ _ d _ h => by cases d <;> exact h) trivial ?_
    refine planS_still rfl rfl (fun K hK => ?_); go_simp; refine hK _ ?_; clear hK K
    refine planS_still rfl rfl (fun K hK => ?_); go_simp; refine hK _ ?_; clear hK K
    refine planS_still rfl rfl (fun K hK => ?_); go_simp; refine ⟨_, (rDig _ m.scale (by omega) (by omega)).mono (fun _ _ ⟨a, b⟩ => ⟨a, b.symm⟩), hK _ ?_⟩; clear hK K
    refine planS_cat rfl rfl rfl _ _ _ _ rfl _ _ rfl rfl (by simp <;> omega) ?_
    refine planS_cat rfl rfl rfl _ _ _ _ rfl _ _ rfl rfl (by simp <;> omega) ?_
    refine planS_still rfl rfl (fun K hK => ?_); go_simp; refine hK _ ?_; clear hK K
    refine planS_still rfl rfl (fun K hK => ?_); go_simp; refine hK _ ?_; clear hK K
    refine planS_still rfl rfl (fun K hK => ?_); go_simp; refine ⟨_, (rDig _ m.tick (by omega) (by omega)).mono (fun _ _ ⟨a, b⟩ => ⟨a, b.symm⟩), hK _ ?_⟩; clear hK K
    refine planS_cat rfl rfl rfl _ _ _ _ rfl _ _ rfl rfl (by simp <;> omega) ?_
    refine planS_cat rfl rfl rfl _ _ _ _ rfl _ _ rfl rfl (by simp <;> omega) ?_
    refine planS_still rfl rfl (fun K hK => ?_); go_simp; refine hK _ ?_; clear hK K
    refine planS_done ?_
    have hlh := headL_len HR.out
    go_wp2_with fail
    go_loopw [5, 6] (RwRel w w.heap.size #[.int .i64 m.scale, .int .i64 m.tick, .slice A n c] m) (fun _ s _ => n - (intOf s).toNat)
    case atStart => exact ⟨0, by omega, rfl, by congr 2; simp [headL, lineL, joinSp, kKinora, kOne, kScale, kTick], H1.out.2.drew, H1.out.1.drew⟩
    case round =>
      rename World => wr
      clear x0 x1 hdw ls1 ls2
      obtain ⟨k, hk, rfl, rfl, hB, hM⟩ := hrel
      have cB := hB.cell
      have hlk := rends_len HR.out k
      have HK := Lib.hid (And.intro hB hM)
      clear hB hM
      by_cases hkn : k < n
      · obtain ⟨l, hl⟩ : ∃ l, m.rends[k]? = some l := ⟨_, List.getElem?_eq_getElem (by omega)⟩
        obtain ⟨b, o, B1, n1, c1, hA, hb, hlc⟩ := (H.out.1.rs.quiet HK.out.2).at_ k l hl
        subst hA
        have d0 : decide ((k : Int) < (n : Int)) = true := decide_eq_true (by omega)
        have e0 := hlc.cells 0 _ rfl
        have e1 := hlc.cells 1 _ rfl
        have e2 := hlc.cells 2 _ rfl
        have e3 := hlc.cells 3 _ rfl
        have e4 := hlc.cells 4 _ rfl
        have e5 := hlc.cells 5 _ rfl
        have e6 := hlc.cells 6 _ rfl
        have e7 := hlc.cells 7 _ rfl
        rw [Nat.add_zero] at e0
        have hbl : Blk (wr.alloc (.cells (lsV l B1 n1 c1).toArray 35)) wr.heap.size 35 (lsV l B1 n1 c1).toArray := Blk.new _ _ _
        have mB : Mod (fun _ => False) wr (wr.alloc (.cells (lsV l B1 n1 c1).toArray 35)) := (Mod.refl _ wr).alloc _
        have hbl2 := hbl.drew
        obtain ⟨lp1, lp2, lp3, lp4, lp5, lp6, lp7, lp8⟩ := listed_parts (HAL.out l (List.mem_of_getElem? hl))
        have q1 : l.name.length ≤ 8 := by unfold nameB at lp1; simp only [Bool.and_eq_true, decide_eq_true_eq] at lp1; omega
        have q2 : 16 ≤ l.w ∧ l.w ≤ 4096 := by unfold sideB at lp2; simp only [decide_eq_true_eq] at lp2; omega
        have q3 : 16 ≤ l.h ∧ l.h ≤ 4096 := by unfold sideB at lp3; simp only [decide_eq_true_eq] at lp3; omega
        have q4 : 1 ≤ l.init.sz ∧ l.init.sz ≤ 1048576 ∧ l.init.path.length ≤ 60 := by
          unfold pieceB pathB at lp6
          simp only [Bool.and_eq_true, decide_eq_true_eq] at lp6
          omega
        have q5 := dec_len 3 (n := l.w) (by omega)
        have q6 := dec_len 3 (n := l.h) (by omega)
        have q7 := dec_len 14 (n := l.bw) (by omega)
        have q8 := dec_len 6 (n := l.init.sz) (by omega)
        have HLP := Lib.hid (And.intro lp7 lp8)
        have HI := Lib.hid lp6
        have HRL := Lib.hid (lineR_len lp1 lp2 lp3 lp5)
        clear lp1 lp2 lp3 lp6 lp7 lp8
        obtain ⟨T, hT⟩ : ∃ T, T = headL m ++ (m.rends.take k).flatMap textR := ⟨_, rfl⟩
        rw [← hT]
        have hTl : T.length ≤ 700000 := by rw [hT, List.length_append]; omega
        have HT := Lib.hid hT
        clear hT hlk
        have HL := Lib.hid (And.intro hl (And.intro hlc (And.intro hb (And.intro (HK.out.2.trans mB) (And.intro hbl (HK.out.1.keep mB (fun h => h)))))))
        have cL := hbl2.cell
        have cL2 := hbl2.drew.cell
        clear hl hlc hbl hbl2 mB
        unfold lsV at cL cL2
        go_upto_region 9 with (fail)
        refine wp_region_planS [] [] (0 :: 1 :: 2 :: 3 :: 4 :: 5 :: 6 :: 7 :: 8 :: 9 :: 10 :: 11 :: 12 :: 13 :: 14 :: 15 :: 16 :: 17 :: 18 :: 19 :: 20 :: 21 :: []) (fun _ => True) (by kernel_rfl) (by kernel_rfl) (fun _ _ _ d _ h => by cases d <;> exact h) trivial ?_
        refine planS_still rfl rfl (fun K hK => ?_); go_simp; refine hK _ ?_; clear hK K
        refine planS_cat rfl rfl rfl _ _ _ _ rfl _ _ rfl rfl (by simp <;> omega) ?_
        refine planS_still rfl rfl (fun K hK => ?_); go_simp; refine hK _ ?_; clear hK K
        refine planS_still rfl rfl (fun K hK => ?_); go_simp; refine hK _ ?_; clear hK K
        refine planS_cat rfl rfl rfl _ _ _ _ rfl _ _ rfl rfl (by simp <;> omega) ?_
        refine planS_cat rfl rfl rfl _ _ _ _ rfl _ _ rfl rfl (by simp <;> omega) ?_
        refine planS_still rfl rfl (fun K hK => ?_); go_simp; refine hK _ ?_; clear hK K
        refine planS_still rfl rfl (fun K hK => ?_); go_simp; refine hK _ ?_; clear hK K
        refine planS_still rfl rfl (fun K hK => ?_); go_simp; refine ⟨_, (rDig _ l.w (by omega) (by omega)).mono (fun _ _ ⟨a, b⟩ => ⟨a, b.symm⟩), hK _ ?_⟩; clear hK K
        refine planS_cat rfl rfl rfl _ _ _ _ rfl _ _ rfl rfl (by simp <;> omega) ?_
        refine planS_cat rfl rfl rfl _ _ _ _ rfl _ _ rfl rfl (by simp <;> omega) ?_
        refine planS_still rfl rfl (fun K hK => ?_); go_simp; refine hK _ ?_; clear hK K
        refine planS_still rfl rfl (fun K hK => ?_); go_simp; refine hK _ ?_; clear hK K
        refine planS_still rfl rfl (fun K hK => ?_); go_simp; refine ⟨_, (rDig _ l.h (by omega) (by omega)).mono (fun _ _ ⟨a, b⟩ => ⟨a, b.symm⟩), hK _ ?_⟩; clear hK K
        refine planS_cat rfl rfl rfl _ _ _ _ rfl _ _ rfl rfl (by simp <;> omega) ?_
        refine planS_cat rfl rfl rfl _ _ _ _ rfl _ _ rfl rfl (by simp <;> omega) ?_
        refine planS_still rfl rfl (fun K hK => ?_); go_simp; refine hK _ ?_; clear hK K
        refine planS_still rfl rfl (fun K hK => ?_); go_simp; refine hK _ ?_; clear hK K
        refine planS_still rfl rfl (fun K hK => ?_); go_simp; refine ⟨_, (rDig _ l.bw (by omega) (by omega)).mono (fun _ _ ⟨a, b⟩ => ⟨a, b.symm⟩), hK _ ?_⟩; clear hK K
        refine planS_cat rfl rfl rfl _ _ _ _ rfl _ _ rfl rfl (by simp <;> omega) ?_
        refine planS_cat rfl rfl rfl _ _ _ _ rfl _ _ rfl rfl (by simp <;> omega) ?_
        refine planS_still rfl rfl (fun K hK => ?_); go_simp; refine hK _ ?_; clear hK K
        refine planS_done ?_
        go_upto_region 10 with (fail)
        refine wp_region_planS [] [] (0 :: 1 :: 2 :: 3 :: 4 :: 5 :: 6 :: 7 :: 8 :: 9 :: 10 :: 11 :: 12 :: 13 :: []) (fun _ => True) (by kernel_rfl) (by kernel_rfl) (fun _ _ _ d _ h => by cases d <;> exact h) trivial ?_
        refine planS_still rfl rfl (fun K hK => ?_); go_simp; refine hK _ ?_; clear hK K
        refine planS_cat rfl rfl rfl _ _ _ _ rfl _ _ rfl rfl (by simp <;> omega) ?_
        refine planS_still rfl rfl (fun K hK => ?_); go_simp; refine hK _ ?_; clear hK K
        refine planS_still rfl rfl (fun K hK => ?_); go_simp; refine hK _ ?_; clear hK K
        refine planS_still rfl rfl (fun K hK => ?_); go_simp; refine hK _ ?_; clear hK K
        refine planS_still rfl rfl (fun K hK => ?_); go_simp; refine ⟨_, (rDig _ l.init.sz (by omega) (by omega)).mono (fun _ _ ⟨a, b⟩ => ⟨a, b.symm⟩), hK _ ?_⟩; clear hK K
        refine planS_cat rfl rfl rfl _ _ _ _ rfl _ _ rfl rfl (by simp <;> omega) ?_
        refine planS_cat rfl rfl rfl _ _ _ _ rfl _ _ rfl rfl (by simp <;> omega) ?_
        refine planS_still rfl rfl (fun K hK => ?_); go_simp; refine hK _ ?_; clear hK K
        refine planS_still rfl rfl (fun K hK => ?_); go_simp; refine hK _ ?_; clear hK K
        refine planS_still rfl rfl (fun K hK => ?_); go_simp; refine hK _ ?_; clear hK K
        refine planS_cat rfl rfl rfl _ _ _ _ rfl _ _ rfl rfl (by simp <;> omega) ?_
        refine planS_cat rfl rfl rfl _ _ _ _ rfl _ _ rfl rfl (by simp <;> omega) ?_
        refine planS_still rfl rfl (fun K hK => ?_); go_simp; refine hK _ ?_; clear hK K
        refine planS_done ?_
        go_wp2_with fail
        go_loopw [5, 8] (RwIn wr w.heap.size wr.heap.size #[.int .i64 m.scale, .int .i64 m.tick, .slice (some ⟨b, o, none⟩) n c] (lsV l B1 n1 c1).toArray m k l) (fun _ s _ => n1 - (intOf s).toNat)
        case atStart =>
          refine ⟨0, by omega, rfl, ?_, HL.out.2.2.2.2.2.drew.drew, HL.out.2.2.2.2.1.drew.drew, (((Mod.refl _ wr).alloc _).drew).drew⟩
          rw [← HT.out]
          congr 2
          simp [lineR, lineI, lineL, joinSp, kRend, kInit]
        case round =>
          rename World => wq
          clear e0 e1 e2 e3 e4 e5 e6 e7 cL cL2 cB q1 q2 q3 q4 q5 q6 q7 q8 lp4 lp5
          obtain ⟨j, hj, rfl, rfl, hB, hL, hM⟩ := hrel
          have hn1 : n1 ≤ 1024 := by have := HL.out.2.1.pcs.len; have := HLP.out.2; omega
          by_cases hjl : j < n1
          · obtain ⟨p, hp⟩ : ∃ p, l.pieces[j]? = some p := ⟨_, List.getElem?_eq_getElem (by have := HL.out.2.1.pcs.len; omega)⟩
            obtain ⟨b2, o2, hA2, hb2, hpc⟩ := (HL.out.2.1.pcs.quiet hM.drew).at_ j p hp
            subst hA2
            have d1 : decide ((j : Int) < (n1 : Int)) = true := decide_eq_true (by omega)
            have hpp := HLP.out.1 p (List.mem_of_getElem? hp)
            have q1 : 1 ≤ p.fr ∧ p.fr ≤ 64 ∧ 1 ≤ p.sz ∧ p.sz ≤ 1048576 ∧ p.path.length ≤ 60 := by
              unfold pieceB pathB at hpp
              simp only [Bool.and_eq_true, decide_eq_true_eq] at hpp
              omega
            have q5 := dec_len 6 (n := p.fr) (by omega)
            have q6 := dec_len 6 (n := p.sz) (by omega)
            have y0 := hpc.1
            have y1 := hpc.2.1
            have y2 := hpc.2.2
            have cL := hL.drew.cell
            have cL0 := hL.cell
            unfold lsV at cL cL0
            have hpl := pieces_len (HAL.out l (List.mem_of_getElem? HL.out.1)) j
            have hli := lineI_len (by exact HI.out)
            have hlr := HRL.out
            obtain ⟨U, hU⟩ : ∃ U, U = headL m ++ (m.rends.take k).flatMap textR ++ lineR l ++ lineI l ++ (l.pieces.take j).flatMap lineP := ⟨_, rfl⟩
            rw [← hU]
            have hUl : U.length ≤ 800000 := by
              rw [hU, ← HT.out, List.length_append, List.length_append, List.length_append]
              omega
            have HU := Lib.hid (And.intro hU (And.intro hp (And.intro hB (And.intro hL hM))))
            clear hU hp hpp hpc hB hL hM hpl hli hlr
            go_upto_region 14 with (fail)
            refine wp_region_planS [] [] (0 :: 1 :: 2 :: 3 :: 4 :: 5 :: 6 :: 7 :: 8 :: 9 :: 10 :: 11 :: 12 :: 13 :: 14 :: 15 :: 16 :: 17 :: 18 :: 19 :: 20 :: 21 :: 22 :: 23 :: 24 :: 25 :: 26 :: 27 :: 28 :: []) (fun _ => True) (by kernel_rfl) (by kernel_rfl) (fun _ _ _ d _ h => by cases d <;> exact h) trivial ?_
            refine planS_still rfl rfl (fun K hK => ?_); go_simp; refine hK _ ?_; clear hK K
            refine planS_cat rfl rfl rfl _ _ _ _ rfl _ _ rfl rfl (by simp <;> omega) ?_
            iterate 6 (refine planS_still rfl rfl (fun K hK => ?_); go_simp; refine hK _ ?_; clear hK K)
            refine planS_still rfl rfl (fun K hK => ?_); go_simp; refine ⟨_, (rDig _ p.fr (by omega) (by omega)).mono (fun _ _ ⟨a, b⟩ => ⟨a, b.symm⟩), hK _ ?_⟩; clear hK K
            refine planS_cat rfl rfl rfl _ _ _ _ rfl _ _ rfl rfl (by simp <;> omega) ?_
            refine planS_cat rfl rfl rfl _ _ _ _ rfl _ _ rfl rfl (by simp <;> omega) ?_
            iterate 6 (refine planS_still rfl rfl (fun K hK => ?_); go_simp; refine hK _ ?_; clear hK K)
            refine planS_still rfl rfl (fun K hK => ?_); go_simp; refine ⟨_, (rDig _ p.sz (by omega) (by omega)).mono (fun _ _ ⟨a, b⟩ => ⟨a, b.symm⟩), hK _ ?_⟩; clear hK K
            refine planS_cat rfl rfl rfl _ _ _ _ rfl _ _ rfl rfl (by simp <;> omega) ?_
            refine planS_cat rfl rfl rfl _ _ _ _ rfl _ _ rfl rfl (by simp <;> omega) ?_
            iterate 6 (refine planS_still rfl rfl (fun K hK => ?_); go_simp; refine hK _ ?_; clear hK K)
            refine planS_cat rfl rfl rfl _ _ _ _ rfl _ _ rfl rfl (by simp <;> omega) ?_
            refine planS_cat rfl rfl rfl _ _ _ _ rfl _ _ rfl rfl (by simp <;> omega) ?_
            refine planS_still rfl rfl (fun K hK => ?_); go_simp; refine hK _ ?_; clear hK K
            refine planS_done ?_
            go_wp2_with fail
            go_roundw
            case rel =>
              refine ⟨j + 1, by have := HL.out.2.1.pcs.len; omega, by go_num, ?_, HU.out.2.2.1.drew, HU.out.2.2.2.1.drew, HU.out.2.2.2.2.drew⟩
              rw [take_snoc HU.out.2.1, List.flatMap_append, ← List.append_assoc, ← HU.out.1]
              congr 2
              simp [lineP, linesP, lineL, joinSp, kPiece]
            case measure => simp [intOf]; omega
          · have hpl1 := HL.out.2.1.pcs.len
            obtain rfl : j = n1 := by omega
            have d1 : decide ((j : Int) < (j : Int)) = false := decide_eq_false (by omega)
            have cL0 := hL.cell
            unfold lsV at cL0
            have ht : l.pieces.take j = l.pieces := by rw [← hpl1, List.take_length]
            have hU : headL m ++ (m.rends.take k).flatMap textR ++ lineR l ++ lineI l ++ (l.pieces.take j).flatMap lineP = headL m ++ (m.rends.take (k + 1)).flatMap textR := by
              rw [ht, take_snoc HL.out.1, List.flatMap_append, List.flatMap_singleton]
              unfold textR
              simp only [List.append_assoc]
            rw [hU]
            have HU := Lib.hid (And.intro hB (HK.out.2.trans hM))
            clear hB hL hM hU ht
            go_wp2_with fail
            go_roundw
            case rel => exact ⟨k + 1, by omega, by go_num, rfl, HU.out.1, HU.out.2⟩
            case measure => simp [intOf]; omega
      · obtain rfl : k = n := by omega
        have d0 : decide ((k : Int) < (k : Int)) = false := decide_eq_false (by omega)
        have ht : m.rends.take k = m.rends := by rw [← hln, List.take_length]
        rw [ht] at hlk ⊢
        have hTl : (headL m ++ m.rends.flatMap textR).length ≤ 700000 := by rw [List.length_append]; omega
        have hE := writeL_eq m
        generalize headL m ++ m.rends.flatMap textR = T at hTl hE ⊢
        have zs := strOf_size T
        have zc : strOf T ++ (⟨#[101, 110, 100, 10]⟩ : ByteArray) = strOf (T ++ [101, 110, 100, 10]) := strOf_cat T [101, 110, 100, 10]
        have HE := Lib.hid hE
        clear ht hE
        go_wp2_with fail
        go_ret2
        exact ⟨by rw [HO.out, HE.out]; rfl, HK.out.2⟩
end Go.Proofs.YtkobngipbhjfjaaDoor
