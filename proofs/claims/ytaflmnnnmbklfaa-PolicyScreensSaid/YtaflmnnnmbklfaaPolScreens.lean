/-
  kinoralaw22.PolicyScreens: the walk.
-/
import Derived.Test.YtaflmnnnmbklfaaPolAlive
import Derived.Test.YtaflmnnnmbklfaaPolScrRef
import Derived.Deep.RegionHeld3
namespace Go.Proofs.Ytaflmnnnmbklfaa
open Go.RowKit

set_option maxHeartbeats 400000 in
theorem policyScreens_no (x y z : Int) (A : Option Addr) (n c : Nat) (w : World) (h : newOk x y z = false) :
    Calls Try.prog 5 #[.agg #[.int .i64 x, .int .i64 y, .int .i64 z], .slice A n c] w fun e w' => e = .returned (.bool true) ∧ Below w.heap.size w w' := by
  go_enter Try.func5, Try.ntmps5
  go_wp2_with fail
  refine (scrNew_no _ x y z h).mono ?_
  rintro e w1 ⟨rfl, rfl⟩
  go_wp2_with fail
  refine (refNew_no _ x y z h).mono ?_
  rintro e w1 ⟨rfl, rfl⟩
  go_wp2_with fail
  refine (alive22 _).mono ?_
  rintro e w1 ⟨rfl, hm1⟩
  have HM : Hid (Mod (fun _ => False) w w1) := ((Mod.refl _ _).alloc _).trans hm1
  clear hm1
  go_wp2_with fail
  go_ret
  exact ⟨rfl, HM.out.below (fun _ h => h.elim)⟩

set_option maxRecDepth 100000 in
set_option maxHeartbeats 2000000 in
theorem policyScreens_yes (x y z : Int) (A : Option Addr) (n c : Nat) (l : List Int) (w : World) (h : newOk x y z = true) (hl : Ints w A n l) (hw : ∀ i, -9223372036854775808 ≤ nth l i ∧ nth l i ≤ 9223372036854775807) (hn : n ≤ 9223372036854775807) :
    Calls Try.prog 5 #[.agg #[.int .i64 x, .int .i64 y, .int .i64 z], .slice A n c] w fun e w' => e = .returned (.bool true) ∧ Below w.heap.size w w' := by
  obtain ⟨hlen, hat⟩ := hl
  have HA := Lib.hid hat
  have HW := Lib.hid hw
  clear hlen hat hw
  go_enter Try.func5, Try.ntmps5
  go_wp2_with fail
  refine (scrNew _ x y z h).mono ?_
  rintro e w1 ⟨rfl, hw1⟩
  have hb0 : Blk w1 w.heap.size 37 #[.int .i64 x, .int .i64 y, .int .i64 z] := hw1 ▸ (Blk.new w _ _).alloc _
  have hs1 : Blk w1 (w.heap.size + 1) 61 (Scr.cells ⟨x, y, z, 0, 0, 0, false⟩) := hw1 ▸ (by simpa using Blk.new (w.alloc (.cells #[.int .i64 x, .int .i64 y, .int .i64 z] 37)) 61 (Scr.cells ⟨x, y, z, 0, 0, 0, false⟩))
  have M1 : Mod (fun _ => False) w w1 := hw1 ▸ ((Mod.refl _ _).alloc _).alloc _
  have z1 : w1.heap.size = w.heap.size + 2 := by rw [← hw1]; simp
  clear hw1
  obtain ⟨hc1, hf1⟩ := hb0.both
  have Z1 := Lib.hid z1
  clear z1
  go_wp2_with fail
  refine (refNew _ x y z h).mono ?_
  rintro e w2 ⟨rfl, hw2⟩
  have hb2 : Blk w2 w1.heap.size 49 (Scr.cells ⟨x, y, z, 0, 0, 0, false⟩) := hw2 ▸ Blk.new _ _ _
  have M2' : Mod (fun _ => False) w1 w2 := hw2 ▸ (Mod.refl _ _).alloc _
  have hs2 := hs1.keep M2' (fun h => h)
  have M2 := M1.trans M2'
  have hne : w.heap.size + 1 ≠ w1.heap.size := by have := Z1.out; omega
  have hge : w.heap.size ≤ w1.heap.size := by have := Z1.out; omega
  have hok := newOk_ok h
  clear hw2 M2' hs1 M1 hc1 hf1 hb0 Z1
  have hge1 : w.heap.size ≤ w.heap.size + 1 := by omega
  generalize w.heap.size + 1 = g1 at *
  generalize w1.heap.size = g2 at *
  go_wp2_with fail
  go_loopw [9] (fun i wr => ∃ (k : Nat) (s : Scr), k ≤ n ∧ k ≤ 200 ∧ i = .int .i64 k ∧ s.Ok ∧ Blk wr g1 61 s.cells ∧ Blk wr g2 49 s.cells ∧ Mod (fun _ => False) w wr) (fun i _ => 200 - (intOf i).toNat)
  case atStart => exact ⟨0, _, Nat.zero_le _, by omega, rfl, hok, hs2, hb2, M2⟩
  case round =>
    obtain ⟨k, s, hk, hk2, rfl, hsok, hg1, hg2, hM⟩ := hrel
    clear hs2 hb2 hok M2
    by_cases hlt : k < n ∧ k < 200
    · obtain ⟨hl1, hl2⟩ := hlt
      obtain ⟨b, off, rfl, hc⟩ := HA.out (by omega)
      have hbl : b < w.heap.size := World.block_lt_of_cell? w _ (hc k hl1)
      have hck : wr.cell? ⟨b, off + k, none⟩ = some (.int .i64 (nth l k)) := (World.cell?_of_block (hM.block b hbl (fun h => h))).trans (hc k hl1)
      have hwk := HW.out k
      clear hc
      by_cases hneg : nth l k < 0
      · have hok' := s.step_ok hsok
        go_wp2_with fail
        refine (scrStep _ g1 s hsok hg1).mono ?_
        rintro e w3 ⟨rfl, hb3, hm3⟩
        have hgt := hg2.keep hm3 (by omega)
        go_wp2_with fail
        refine (refStep _ g2 s hsok hgt).mono ?_
        rintro e w4 ⟨rfl, hb4, hm4⟩
        generalize s.step = r at *
        obtain ⟨r1, r2⟩ := r
        dsimp only at *
        have M4 : Mod (fun _ => False) w w4 := (hM.into hm3 (fun i e => .inr (by omega))).into hm4 (fun i e => .inr (by omega))
        have h5 := hb3.keep hm4 (by omega)
        have HB4 := Lib.hid hb4
        obtain ⟨hc4, hf4⟩ := hb4.both
        unfold Scr.cells at hc4
        clear hb3 hm3 hm4 hM hb4 hgt
        go_wp2_with fail
        go_quiet (first | (go_at_call 20; exact Calls.quiet_of_same ((scrBuffered _ _ _ (h5.drewN _)).mono fun _ _ hh => ⟨hh.1, hh.2.symm⟩)) | (go_at_call 21; exact Calls.quiet_of_same ((scrShown _ _ _ (h5.drewN _)).mono fun _ _ hh => ⟨hh.1, hh.2.symm⟩)) | (go_at_call 22; exact Calls.quiet_of (scrDone _ _ _ (h5.drewN _))))
        go_wp2_with fail
        go_roundw
        case rel => exact ⟨k + 1, r2, by omega, by omega, by go_num, hok', h5, HB4.out, M4.drewN _⟩
        case measure => simp [intOf]; omega
      · have hok' := s.put_ok (nth l k) hsok
        have hnn : 0 ≤ nth l k := by omega
        have i1 : (0 : Int) ≤ (k : Int) := by omega
        have i2 : (k : Int) < (n : Int) := by omega
        go_wp2_with fail
        go_region_held3 (fun w' => w'.cell? ⟨b, off + k, none⟩ = some (.int .i64 (nth l k))) (first | assumption | go_keep) (first
          | (go_at_call 18; refine (scrPut _ g1 s hsok (Blk.drew hg1) (nth l k) hwk).mono ?_; rintro e w3 ⟨rfl, hb3, hm3⟩; have hgt := (Blk.drew hg2).keep hm3 (by omega); have hck3 : w3.cell? ⟨b, off + k, none⟩ = some (.int .i64 (nth l k)) := (World.cell?_of_block (hm3.block b (by have := hM.size; simp; omega) (by omega))).trans hck)
          | (go_at_call 19; refine (refPut _ g2 s hsok hgt (nth l k) hwk).mono ?_; rintro e w4 ⟨rfl, hb4, hm4⟩; have hck4 : w4.cell? ⟨b, off + k, none⟩ = some (.int .i64 (nth l k)) := (World.cell?_of_block (hm4.block b (by have := hM.size; have := hm3.size; simp at this; omega) (by omega))).trans hck3))
        generalize s.put (nth l k) = r at *
        obtain ⟨r1, r2⟩ := r
        dsimp only at *
        have M4 : Mod (fun _ => False) w w4 := (hM.drew.into hm3 (fun i e => .inr (by omega))).into hm4 (fun i e => .inr (by omega))
        have h5 := hb3.keep hm4 (by omega)
        have HB4 := Lib.hid hb4
        obtain ⟨hc4, hf4⟩ := hb4.both
        unfold Scr.cells at hc4
        clear hck3 hck4 hgt hb3 hm3 hm4 hM hb4
        go_wp2_with fail
        go_quiet (first | (go_at_call 20; exact Calls.quiet_of_same ((scrBuffered _ _ _ (h5.drewN _)).mono fun _ _ hh => ⟨hh.1, hh.2.symm⟩)) | (go_at_call 21; exact Calls.quiet_of_same ((scrShown _ _ _ (h5.drewN _)).mono fun _ _ hh => ⟨hh.1, hh.2.symm⟩)) | (go_at_call 22; exact Calls.quiet_of (scrDone _ _ _ (h5.drewN _))))
        go_wp2_with fail
        go_roundw
        case rel => exact ⟨k + 1, r2, by omega, by omega, by go_num, hok', h5, HB4.out, M4.drewN _⟩
        case measure => simp [intOf]; omega
    · have hM' := Lib.hid hM
      have hx : decide (k < n) = false ∨ decide (k < n) = true ∧ decide ((k : Int) < 200) = false := by
        by_cases h1 : k < n
        · exact .inr ⟨by simpa using h1, by simp; omega⟩
        · exact .inl (by simpa using h1)
      clear hlt hM
      rcases hx with hx | ⟨hx, hx2⟩
      all_goals
        go_wp2_with fail
        refine (alive22 _).mono ?_
        rintro e w3 ⟨rfl, hm3⟩
        have h3 := hg1.keep hm3 (fun h => h)
        have M3 := hM'.out.trans hm3
        clear hm3 hM' hg1 hg2
        go_wp2_with fail
        have c1 := scrPut w3 g1 s hsok h3 (-1) ⟨by omega, by omega⟩
        rw [show s.put (-1) = (1, s) from if_pos (.inl (by omega))] at c1
        refine c1.mono ?_
        clear c1
        rintro e w4 ⟨rfl, hb4, hm4⟩
        have M4 := M3.into hm4 (fun i e => .inr (by omega))
        clear hb4 hm4 M3 h3
        go_wp2_with fail
        go_ret
        exact ⟨rfl, M4.below (fun _ h => h.elim)⟩

theorem policyScreens_walk (x y z : Int) (A : Option Addr) (n c : Nat) (l : List Int) (w : World) (hl : Ints w A n l) (hw : ∀ i, -9223372036854775808 ≤ nth l i ∧ nth l i ≤ 9223372036854775807) (hn : n ≤ 9223372036854775807) :
    Calls Try.prog 5 #[.agg #[.int .i64 x, .int .i64 y, .int .i64 z], .slice A n c] w fun e w' => e = .returned (.bool true) ∧ Below w.heap.size w w' := by
  cases h : newOk x y z with
  | false => exact policyScreens_no x y z A n c w h
  | true => exact policyScreens_yes x y z A n c l w h hl hw hn
end Go.Proofs.Ytaflmnnnmbklfaa
