/-
  The reference's Right, walked.
-/
import Derived.Test.YtkobngipbhjfjaaDoorMfR4
namespace Go.Proofs.YtkobngipbhjfjaaDoor
open Go.RowKit

theorem rightB_all {m : Mf} (h : m.rends.all listedB = true) : rightB m = (decide (namesL m.rends).Nodup && decide (pathsR m.rends).Nodup && decide (1 ≤ m.scale) && decide (m.scale ≤ 1048576) && decide (1 ≤ m.tick) && decide (m.tick ≤ 1048576) && decide ((1 : Int) ≤ (m.rends.length : Int)) && decide ((m.rends.length : Int) ≤ 8)) := by
  rw [rightB_eq]
  unfold boundsB okR
  rw [h, Bool.eq_iff_iff]
  simp only [Bool.and_eq_true, decide_eq_true_eq]
  constructor
  · rintro ⟨⟨a, b, c, d, e, f⟩, ⟨_, g⟩, i⟩
    exact ⟨⟨⟨⟨⟨⟨⟨g, i⟩, a⟩, b⟩, c⟩, d⟩, by omega⟩, by omega⟩
  · rintro ⟨⟨⟨⟨⟨⟨⟨g, i⟩, a⟩, b⟩, c⟩, d⟩, e⟩, f⟩
    exact ⟨⟨a, b, c, d, by omega, by omega⟩, ⟨trivial, g⟩, i⟩
theorem right_no {m : Mf} {k : Nat} {l : Ls} (h : m.rends[k]? = some l) (hl : listedB l = false) : rightB m = false := by rw [rightB_eq, fail_listed h hl, Bool.and_false]
theorem rends_le : ∀ ls : List Ls, ls.length ≤ (pathsR ls).length
  | [] => by simp
  | x :: r => by
    have ih := rends_le r
    unfold pathsR at ih ⊢
    rw [List.flatMap_cons, List.length_append, List.length_cons]
    have : 1 ≤ (filesL x).length := by simp [filesL]
    omega
def RrRel (wb : World) (ls : List Ls) (v3 v4 : Value) (wr : World) : Prop := ∃ i : Nat, i ≤ ls.length ∧ v4 = .int .i64 (i : Int) ∧ (ls.take i).all listedB = true ∧ StrsOwn wr wb.heap.size v3 (namesL (ls.take i)) ∧ Mod (fun _ => False) wb wr
set_option maxRecDepth 100000 in
set_option maxHeartbeats 8000000 in
theorem rRight (w : World) (m : Mf) (A : Option Addr) (n c : Nat) (h : MfIn w A n m) (hp : (pathsR m.rends).length ≤ 1000000) : Calls Tryd.prog 16 #[.agg (mfV m A n c).toArray] w fun e w' => e = .returned (.bool (rightB m)) ∧ Mod (fun _ => False) w w' := by
  obtain ⟨⟨s1, s2⟩, ⟨t1, t2⟩, hn⟩ := h.nums
  obtain ⟨wb, hwb⟩ : ∃ wb, wb = w.alloc (.cells (mfV m A n c).toArray 24) := ⟨_, rfl⟩
  have mA : Mod (fun _ => False) w wb := hwb ▸ (Mod.refl _ w).alloc _
  have hb0 : Blk wb w.heap.size 24 (mfV m A n c).toArray := hwb ▸ Blk.new _ _ _
  have hln := h.rs.len
  have H := Lib.hid (And.intro (h.rs.quiet mA) (And.intro mA (And.intro hb0 (And.intro hp (h.quiet mA)))))
  clear h mA hb0 hp
  unfold mfV at H hwb ⊢
  go_enter Tryd.func16, Tryd.ntmps16
  go_wp2_with fail
  rw [← hwb]
  go_loopw [3, 4] (RrRel wb m.rends) (fun _ s _ => n - (intOf s).toNat)
  case atStart => exact ⟨0, by omega, rfl, by simp, StrsOwn.nil _ _, Mod.refl _ _⟩
  case round =>
    rename World => wr
    obtain ⟨i, hi, rfl, hall, hown, hM⟩ := hrel
    have cB := (H.out.2.2.1.keep hM (fun h => h)).cell
    obtain ⟨A3, c3, hv3⟩ := own_shape hown
    obtain ⟨L, hL⟩ : ∃ L, L = (namesL (m.rends.take i)).length := ⟨_, rfl⟩
    have hLi : L = i := by rw [hL]; simp [namesL]; omega
    subst hLi
    rw [← hL] at hv3
    subst hv3
    by_cases hin : L < n
    · obtain ⟨l, hl⟩ : ∃ l, m.rends[L]? = some l := ⟨_, List.getElem?_eq_getElem (by omega)⟩
      obtain ⟨b, o, B1, n1, c1, hA, hb, hlc⟩ := (H.out.1.quiet hM).at_ L l hl
      subst hA
      have d0 : decide ((L : Int) < (n : Int)) = true := decide_eq_true (by omega)
      have e0 := hlc.cells 0 _ rfl
      have e1 := hlc.cells 1 _ rfl
      have e2 := hlc.cells 2 _ rfl
      have e3 := hlc.cells 3 _ rfl
      have e4 := hlc.cells 4 _ rfl
      have e5 := hlc.cells 5 _ rfl
      have e6 := hlc.cells 6 _ rfl
      have e7 := hlc.cells 7 _ rfl
      rw [Nat.add_zero] at e0
      have hn1 : n1 ≤ 1048576 := by
        have h1 := paths_le hl l.pieces.length
        have h2 := hlc.pcs.len
        have h3 := H.out.2.2.2.1
        unfold filesJ at h1
        simp only [List.length_append, List.length_cons, List.length_map, List.take_length] at h1
        omega
      have hL6 : L < 1048576 := by
        have h3 := H.out.2.2.2.1
        have h5 := rends_le m.rends
        omega
      have HI := Lib.hid (And.intro hall (And.intro hown (And.intro hM (And.intro hl (And.intro hlc (And.intro hb (And.intro hL hn1)))))))
      clear hall hown hM hl hlc hL hn1
      go_wp2_with fail
      refine (rListed _ l B1 n1 c1 HI.out.2.2.2.2.1.ok HI.out.2.2.2.2.1.pcs HI.out.2.2.2.2.2.2.2).mono ?_
      rintro e w1 ⟨rfl, hm1⟩
      cases hlb : listedB l with
      | false =>
        have HF := Lib.hid (And.intro (right_no HI.out.2.2.2.1 hlb) (HI.out.2.2.1.trans hm1))
        clear hlb hm1 e0 e1 e2 e3 e4 e5 e6 e7
        go_wp2_with fail
        go_ret
        exact ⟨by rw [HF.out.1]; rfl, H.out.2.1.trans HF.out.2⟩
      | true =>
        have f0 := (HI.out.2.2.2.2.1.quiet hm1 HI.out.2.2.2.2.2.1).cells 0 _ rfl
        rw [Nat.add_zero] at f0
        have hM1 := HI.out.2.2.1.trans hm1
        have cB1 := (H.out.2.2.1.keep hM1 (fun h => h)).cell
        have HF := Lib.hid (And.intro hlb (And.intro (HI.out.2.1.quiet hm1) (And.intro hM1 hM1.size)))
        clear hlb hm1 hM1 e0 e1 e2 e3 e4 e5 e6 e7 cB
        go_wp2_with (at_builtin; have _t := HF; refine wpList_app_str _ rfl (.tmp 23) (.tmp 30) rfl wb.heap.size _ _ l.name rfl rfl HF.out.2.1 HF.out.2.2.2 (by rw [← HI.out.2.2.2.2.2.2.1]; exact hL6) ?_; intro v7 w7 hown7 hMo hM7 _; have HQ := Lib.hid (And.intro hown7 (hM7 wb (fun _ => False) (Nat.le_refl _) HF.out.2.2.1)); clear hown7 hM7)
        go_roundw
        case rel => exact ⟨L + 1, by omega, by go_num, by rw [take_snoc HI.out.2.2.2.1, List.all_append, HI.out.1]; simp [HF.out.1], by rw [names_snoc HI.out.2.2.2.1]; exact HQ.out.1, HQ.out.2⟩
        case measure => simp [intOf]; omega
    · obtain rfl : L = n := by omega
      have d0 : decide ((L : Int) < (L : Int)) = false := decide_eq_false (by omega)
      rw [← hln, List.take_length] at hall
      rw [show m.rends.take L = m.rends from by rw [← hln, List.take_length]] at hown
      have HE := Lib.hid (rightB_all hall)
      have hn6 : L ≤ 1048576 := by
        have h3 := H.out.2.2.2.1
        have h5 := rends_le m.rends
        omega
      have HI := Lib.hid (And.intro hown (And.intro hM (H.out.2.1.trans hM)))
      clear hall hown hM hL
      go_wp2_with fail
      refine (rAgain _ wb.heap.size L c3 A3 _ HI.out.1 hn6).mono ?_
      rintro e w1 ⟨rfl, hm1⟩
      have H1 := Lib.hid (And.intro (HI.out.2.1.trans hm1) (HI.out.2.2.trans hm1))
      clear hm1 cB
      have cB := (H.out.2.2.1.keep H1.out.1 (fun h => h)).cell
      go_wp2_with fail
      refine (rPaths _ m A L c (H.out.2.2.2.2.quiet H1.out.1) H.out.2.2.2.1).mono ?_
      rintro e w2 ⟨A5, n5, c5, rfl, hown5, hm2⟩
      have H2 := Lib.hid (And.intro hown5 (And.intro (H1.out.1.trans hm2) (H1.out.2.trans hm2)))
      clear hown5 hm2 cB
      have cB := (H.out.2.2.1.keep H2.out.2.1 (fun h => h)).cell
      have hl5 := H2.out.1.len
      have hl5' := H.out.2.2.2.1
      go_wp2_with fail
      refine (rAgain _ _ n5 c5 A5 _ H2.out.1 (by omega)).mono ?_
      rintro e w3 ⟨rfl, hm3⟩
      have H3 := Lib.hid (And.intro (H2.out.2.1.trans hm3) (H2.out.2.2.trans hm3))
      clear hm3 cB
      have cB := (H.out.2.2.1.keep H3.out.1 (fun h => h)).cell
      have hE := HE.out
      rw [hln] at hE
      generalize decide (namesL m.rends).Nodup = b0 at hE ⊢
      generalize decide (pathsR m.rends).Nodup = b1 at hE ⊢
      have HX := Lib.hid hE
      clear hE HE hl5 hl5'
      cases b0
      · (go_wp2_with fail; go_ret; exact ⟨by rw [HX.out]; simp [*], H3.out.2⟩)
      cases b1
      · (go_wp2_with fail; go_ret; exact ⟨by rw [HX.out]; simp [*], H3.out.2⟩)
      cases d1 : decide (1 ≤ m.scale)
      · (go_wp2_with fail; go_ret; exact ⟨by rw [HX.out]; simp [*], H3.out.2⟩)
      cases d2 : decide (m.scale ≤ 1048576)
      · (go_wp2_with fail; go_ret; exact ⟨by rw [HX.out]; simp [*], H3.out.2⟩)
      cases d3 : decide (1 ≤ m.tick)
      · (go_wp2_with fail; go_ret; exact ⟨by rw [HX.out]; simp [*], H3.out.2⟩)
      cases d4 : decide (m.tick ≤ 1048576)
      · (go_wp2_with fail; go_ret; exact ⟨by rw [HX.out]; simp [*], H3.out.2⟩)
      cases d5 : decide ((1 : Int) ≤ (L : Int))
      · (go_wp2_with fail; go_ret; exact ⟨by rw [HX.out]; simp [*], H3.out.2⟩)
      cases d6 : decide ((L : Int) ≤ 8)
      · (go_wp2_with fail; go_ret; exact ⟨by rw [HX.out]; simp [*], H3.out.2⟩)
      · (go_wp2_with fail; go_ret; exact ⟨by rw [HX.out]; simp [*], H3.out.2⟩)
end Go.Proofs.YtkobngipbhjfjaaDoor
