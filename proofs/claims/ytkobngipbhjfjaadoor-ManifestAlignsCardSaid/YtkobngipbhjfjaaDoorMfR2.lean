/-
  The reference's listed, walked.
-/
import Derived.Test.YtkobngipbhjfjaaDoorMfR1
namespace Go.Proofs.YtkobngipbhjfjaaDoor
open Go.RowKit

theorem i64_0 : I64 0 := ⟨by decide, by decide⟩
theorem listedB_eq (l : Ls) : listedB l = (l.pieces.all (pieceB 1 64) && (nameB l.name && sideB l.w && sideB l.h && pieceB 0 0 l.init && decide (1 ≤ l.bw) && decide (l.bw ≤ 1099511627776) && decide ((1 : Int) ≤ (l.pieces.length : Int)) && decide (framesL l.pieces ≤ 1024))) := by
  unfold listedB
  rw [Bool.eq_iff_iff]
  simp only [Bool.and_eq_true, decide_eq_true_eq]
  constructor
  · rintro ⟨⟨⟨⟨⟨⟨a, b⟩, c⟩, d, e⟩, f⟩, g⟩, h, i⟩
    exact ⟨g, ⟨⟨⟨⟨⟨⟨⟨a, b⟩, c⟩, f⟩, d⟩, e⟩, by omega⟩, i⟩⟩
  · rintro ⟨g, ⟨⟨⟨⟨⟨⟨⟨a, b⟩, c⟩, f⟩, d⟩, e⟩, h⟩, i⟩⟩
    exact ⟨⟨⟨⟨⟨⟨a, b⟩, c⟩, d, e⟩, f⟩, g⟩, by omega, i⟩
theorem listed_all {l : Ls} (h : l.pieces.all (pieceB 1 64) = false) : listedB l = false := by rw [listedB_eq, h, Bool.false_and]
theorem all_notP {p : Pc → Bool} {l : List Pc} {k : Nat} {c : Pc} (hk : l[k]? = some c) (hc : p c = false) : l.all p = false := by
  rw [List.all_eq_false]
  exact ⟨c, List.mem_of_getElem? hk, by simp [hc]⟩
def RlRel (w : World) (lb : Nat) (cs : Array Value) (l : Ls) (v7 v8 : Value) (wr : World) : Prop :=
  ∃ j : Nat, j ≤ l.pieces.length ∧ v7 = .int .i64 (framesL (l.pieces.take j)) ∧ v8 = .int .i64 (j : Int) ∧ (l.pieces.take j).all (pieceB 1 64) = true ∧ Blk wr lb 35 cs ∧ Mod (fun _ => False) w wr
set_option maxRecDepth 100000 in
set_option maxHeartbeats 8000000 in
theorem rListed (w : World) (l : Ls) (A : Option Addr) (n c : Nat) (hok : l.Ok) (h : PcsIn w A n l.pieces) (hn : n ≤ 1048576) : Calls Tryd.prog 32 #[.agg (lsV l A n c).toArray] w fun e w' => e = .returned (.bool (listedB l)) ∧ Mod (fun _ => False) w w' := by
  obtain ⟨k1, ⟨k2, k3⟩, ⟨k4, k5⟩, ⟨k6, k7⟩, k8, _⟩ := hok
  have hln := h.len
  have mA : Mod (fun _ => False) w (w.alloc (.cells (lsV l A n c).toArray 35)) := (Mod.refl _ w).alloc _
  have hb0 : Blk (w.alloc (.cells (lsV l A n c).toArray 35)) w.heap.size 35 (lsV l A n c).toArray := Blk.new _ _ _
  have H := Lib.hid (And.intro h (And.intro mA (And.intro hb0 (And.intro k8 hln))))
  have HE := Lib.hid (listedB_eq l)
  clear h mA hb0 hln
  have C0 := Lib.hid fun w => rName w l.name (by omega)
  have C1 := Lib.hid fun w => rSide w l.w k2 k3
  have C2 := Lib.hid fun w => rSide w l.h k4 k5
  have C3 := Lib.hid fun w => rPiece w l.init 0 0 k8 i64_0 i64_0
  clear k8
  unfold lsV at H ⊢
  have c0 := H.out.2.2.1.cell
  go_enter Tryd.func32, Tryd.ntmps32
  go_wp2_with fail
  refine (C0.out _).mono ?_
  rintro e w' ⟨rfl, rfl⟩
  go_wp2_with fail
  refine (C1.out _).mono ?_
  rintro e w' ⟨rfl, rfl⟩
  go_wp2_with fail
  refine (C2.out _).mono ?_
  rintro e w' ⟨rfl, rfl⟩
  go_wp2_with fail
  refine (C3.out _).mono ?_
  rintro e w1 ⟨rfl, hm1⟩
  have H1 := Lib.hid (And.intro (H.out.2.1.trans hm1) (H.out.2.2.1.keep hm1 (fun h => h)))
  clear hm1 c0
  go_wp2_with fail
  go_loopw [7, 8] (RlRel w w.heap.size (lsV l A n c).toArray l) (fun _ s _ => n - (intOf s).toNat)
  case atStart => exact ⟨0, by omega, by simp [framesL], rfl, by simp, H1.out.2, H1.out.1⟩
  case round =>
    rename World => wr
    obtain ⟨j, hj, rfl, rfl, hall, hB, hM⟩ := hrel
    have hfb := frames_bounds _ hall
    rw [List.length_take] at hfb
    have hlen := H.out.2.2.2.2
    have cB := hB.cell
    unfold lsV at cB
    have HJ := Lib.hid (And.intro hall (And.intro hB hM))
    clear hall hB hM
    by_cases hjl : j < n
    · obtain ⟨p, hp⟩ : ∃ p, l.pieces[j]? = some p := ⟨_, List.getElem?_eq_getElem (by omega)⟩
      obtain ⟨b, o, hA, hb, hpc⟩ := (H.out.1.quiet HJ.out.2.2).at_ j p hp
      subst hA
      have d0 : decide ((j : Int) < (n : Int)) = true := decide_eq_true (by omega)
      have hpok := H.out.1.ok p (List.mem_of_getElem? hp)
      have x0 := hpc.1
      have x1 := hpc.2.1
      have x2 := hpc.2.2
      have hsn := framesL_snoc hp
      generalize framesL (l.pieces.take j) = fr at hfb hsn ⊢
      have HP := Lib.hid (And.intro hp (And.intro hpok (And.intro hpc (And.intro hb hsn))))
      clear hp hpok hpc hsn
      go_wp2_with fail
      refine (rPiece _ p 1 64 HP.out.2.1 (by unfold I64; omega) (by unfold I64; omega)).mono ?_
      rintro e w2 ⟨rfl, hm2⟩
      have H2 := Lib.hid (And.intro (HJ.out.2.2.trans hm2) (HJ.out.2.1.keep hm2 (fun h => h)))
      have q2 := HP.out.2.2.1.quiet hm2 HP.out.2.2.2.1
      have y0 := q2.1
      clear hm2 q2 x0 x1 x2 cB
      have cB := H2.out.2.cell
      unfold lsV at cB
      cases hpb : pieceB 1 64 p with
      | false =>
        have HF := Lib.hid (listed_all (all_notP HP.out.1 hpb))
        clear hpb
        go_wp2_with fail
        go_ret
        exact ⟨by rw [HF.out]; rfl, H2.out.1⟩
      | true =>
        have hall2 := all_snocP HJ.out.1 HP.out.1 hpb
        have hpr : 1 ≤ p.fr ∧ p.fr ≤ 64 := by
          unfold pieceB at hpb
          simp only [Bool.and_eq_true, decide_eq_true_eq] at hpb
          omega
        obtain ⟨r1, r2⟩ := hpr
        have r3 : 0 ≤ fr ∧ fr ≤ 100000000 := by omega
        obtain ⟨r3, r4⟩ := r3
        have HF := Lib.hid hall2
        clear hpb hall2 hfb
        go_wp2_with fail
        go_roundw
        case rel => exact ⟨j + 1, by omega, by rw [HP.out.2.2.2.2], by go_num, HF.out, H2.out.2, H2.out.1⟩
        case measure => simp [intOf]; omega
    · obtain rfl : j = n := by omega
      have d0 : decide ((j : Int) < (j : Int)) = false := decide_eq_false (by omega)
      have hal := HJ.out.1
      rw [← hlen, List.take_length] at hal
      rw [← hlen, List.take_length]
      have r3 : 0 ≤ framesL l.pieces ∧ framesL l.pieces ≤ 100000000 := by
        have := frames_bounds _ hal
        omega
      have hE := HE.out
      rw [hal, Bool.true_and] at hE
      generalize nameB l.name = b0 at hE ⊢
      generalize sideB l.w = b1 at hE ⊢
      generalize sideB l.h = b2 at hE ⊢
      generalize pieceB 0 0 l.init = b3 at hE ⊢
      generalize framesL l.pieces = fr at hE r3 ⊢
      rw [hlen] at hE
      obtain ⟨r3, r4⟩ := r3
      have HX := Lib.hid hE
      clear hE hal hfb
      cases b0
      · (go_wp2_with fail; go_ret; exact ⟨by rw [HX.out]; simp [*], HJ.out.2.2⟩)
      cases b1
      · (go_wp2_with fail; go_ret; exact ⟨by rw [HX.out]; simp [*], HJ.out.2.2⟩)
      cases b2
      · (go_wp2_with fail; go_ret; exact ⟨by rw [HX.out]; simp [*], HJ.out.2.2⟩)
      cases b3
      · (go_wp2_with fail; go_ret; exact ⟨by rw [HX.out]; simp [*], HJ.out.2.2⟩)
      cases d1 : decide (1 ≤ l.bw)
      · (go_wp2_with fail; go_ret; exact ⟨by rw [HX.out]; simp [*], HJ.out.2.2⟩)
      cases d2 : decide (l.bw ≤ 1099511627776)
      · (go_wp2_with fail; go_ret; exact ⟨by rw [HX.out]; simp [*], HJ.out.2.2⟩)
      cases d3 : decide ((1 : Int) ≤ (j : Int))
      · (go_wp2_with fail; go_ret; exact ⟨by rw [HX.out]; simp [*], HJ.out.2.2⟩)
      cases d4 : decide (fr ≤ 1024)
      · (go_wp2_with fail; go_ret; exact ⟨by rw [HX.out]; simp [*], HJ.out.2.2⟩)
      · (go_wp2_with fail; go_ret; exact ⟨by rw [HX.out]; simp [*], HJ.out.2.2⟩)
end Go.Proofs.YtkobngipbhjfjaaDoor
