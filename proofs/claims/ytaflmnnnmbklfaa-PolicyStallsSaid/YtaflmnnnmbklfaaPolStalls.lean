/-
  kinoralaw22.PolicyStalls: the walk.
-/
import Derived.Test.YtaflmnnnmbklfaaPolAlive
import Derived.Deep.RegionHeld3
namespace Go.Proofs.Ytaflmnnnmbklfaa
open Go.RowKit

set_option maxRecDepth 100000 in
set_option maxHeartbeats 400000 in
theorem policyStalls_no (x y z : Int) (A : Option Addr) (n c : Nat) (w : World) (h : newOk x y z = false) :
    Calls Try.prog 6 #[.agg #[.int .i64 x, .int .i64 y, .int .i64 z], .slice A n c] w fun e w' => e = .returned (.bool true) ∧ Below w.heap.size w w' := by
  go_enter Try.func6, Try.ntmps6
  go_wp2_with fail
  refine (scrNew_no _ x y z h).mono ?_
  rintro e w1 ⟨rfl, rfl⟩
  go_wp2_with fail
  refine (alive22 _).mono ?_
  rintro e w1 ⟨rfl, hm1⟩
  have HM : Hid (Mod (fun _ => False) w w1) := ((Mod.refl _ _).alloc _).trans hm1
  clear hm1
  go_wp2_with fail
  go_ret
  exact ⟨rfl, HM.out.below (fun _ h => h.elim)⟩

/-- What holds at each round's head. -/
def StallRel (x y z : Int) (n g0 g1 : Nat) (w : World) (st put qu i : Value) (wr : World) : Prop :=
  ∃ (k : Nat) (bu sh ph : Int) (sd : Bool), k ≤ n ∧ k ≤ 200 ∧ i = .int .i64 k ∧ st = .bool sd ∧ put = .int .i64 (sh + bu) ∧ qu = .int .i64 ph ∧ Scr.Ok ⟨x, y, z, bu, sh, ph, sd⟩ ∧
    Blk wr g1 61 (Scr.cells ⟨x, y, z, bu, sh, ph, sd⟩) ∧ Blk wr g0 37 #[.int .i64 x, .int .i64 y, .int .i64 z] ∧ Mod (fun _ => False) w wr

set_option maxRecDepth 100000 in
set_option maxHeartbeats 4000000 in
theorem policyStalls_yes (x y z : Int) (A : Option Addr) (n c : Nat) (l : List Int) (w : World) (h : newOk x y z = true) (hl : Ints w A n l) (hw : ∀ i, -9223372036854775808 ≤ nth l i ∧ nth l i ≤ 9223372036854775807) (hn : n ≤ 9223372036854775807) :
    Calls Try.prog 6 #[.agg #[.int .i64 x, .int .i64 y, .int .i64 z], .slice A n c] w fun e w' => e = .returned (.bool true) ∧ Below w.heap.size w w' := by
  obtain ⟨hlen, hat⟩ := hl
  have HA := Lib.hid hat
  have HW := Lib.hid hw
  clear hlen hat hw
  go_enter Try.func6, Try.ntmps6
  go_wp2_with fail
  refine (scrNew _ x y z h).mono ?_
  rintro e w1 ⟨rfl, hw1⟩
  have hb0 : Blk w1 w.heap.size 37 #[.int .i64 x, .int .i64 y, .int .i64 z] := hw1 ▸ (Blk.new w _ _).alloc _
  have hs1 : Blk w1 (w.heap.size + 1) 61 (Scr.cells ⟨x, y, z, 0, 0, 0, false⟩) := hw1 ▸ (by simpa using Blk.new (w.alloc (.cells #[.int .i64 x, .int .i64 y, .int .i64 z] 37)) 61 (Scr.cells ⟨x, y, z, 0, 0, 0, false⟩))
  have M1 : Mod (fun _ => False) w w1 := hw1 ▸ ((Mod.refl _ _).alloc _).alloc _
  have hok := newOk_ok h
  clear hw1
  have hge1 : w.heap.size < w.heap.size + 1 := by omega
  go_wp2_with fail
  generalize w.heap.size + 1 = g1 at *
  obtain ⟨g0, hg0⟩ : ∃ g0, g0 = w.heap.size := ⟨_, rfl⟩
  rw [← hg0] at hge1 hb0 ⊢
  have hg0' : w.heap.size ≤ g0 := by omega
  clear hg0
  go_loopw [7, 8, 9, 10] (StallRel x y z n g0 g1 w) (fun _ _ _ i _ => 200 - (intOf i).toNat)
  case atStart => exact ⟨0, 0, 0, 0, false, Nat.zero_le _, by omega, rfl, rfl, rfl, rfl, hok, hs1, hb0, M1⟩
  case round =>
    obtain ⟨k, bu, sh, ph, sd, hk, hk2, rfl, rfl, rfl, rfl, hsok, hg1, hb, hM⟩ := hrel
    clear hs1 hok M1 hb0
    have b1 := hsok.total
    have b2 := hsok.start
    have b3 := hsok.tick
    have b4 := hsok.buffered
    have b5 := hsok.shown
    have b6 := hsok.both
    have b7 := hsok.phase
    dsimp only at b1 b2 b3 b4 b5 b6 b7
    by_cases hlt : k < n ∧ k < 200
    · obtain ⟨hl1, hl2⟩ := hlt
      obtain ⟨b, off, rfl, hc⟩ := HA.out (by omega)
      have hbl : b < w.heap.size := World.block_lt_of_cell? w _ (hc k hl1)
      have hck : wr.cell? ⟨b, off + k, none⟩ = some (.int .i64 (nth l k)) := (World.cell?_of_block (hM.block b hbl (fun h => h))).trans (hc k hl1)
      have hwk := HW.out k
      clear hc
      go_wp2_with fail
      refine (scrShown _ _ _ hg1).mono ?_
      rintro e w3 ⟨rfl, rfl⟩
      go_wp2_with fail
      refine (scrBuffered _ _ _ hg1).mono ?_
      rintro e w3 ⟨rfl, rfl⟩
      dsimp only
      obtain ⟨v, hv⟩ : ∃ v, v = nth l k := ⟨_, rfl⟩
      rw [← hv] at hck hwk
      clear hv
      by_cases hneg : v < 0
      · go_wp2_with fail
        have c1 := scrStep _ g1 _ hsok hg1
        have hok' := Scr.step_ok _ hsok
        have n1 : (sh == sh + 1) = false := by simp; omega
        cases sd with
        | false =>
          rw [show Scr.step ⟨x, y, z, bu, sh, ph, false⟩ = (0, ⟨x, y, z, bu, sh, ph, false⟩) from if_pos (.inl rfl)] at c1 hok'
          refine c1.mono ?_
          clear c1
          rintro e w4 ⟨rfl, hb4, hm4⟩
          have M4 := hM.into hm4 (fun i e => .inr (by omega))
          have h0 := hb.keep hm4 (by omega)
          obtain ⟨hc0, hf0⟩ := h0.both
          have H0 := Lib.hid h0
          dsimp only at hb4 hok'
          clear hM hg1 hb hm4 hck h0 hsok
          go_wp2_with fail
          refine (scrShown _ _ _ hb4).mono ?_
          rintro e w5 ⟨rfl, rfl⟩
          go_wp2_with fail
          refine (scrShown _ _ _ hb4).mono ?_
          rintro e w5 ⟨rfl, rfl⟩
          go_wp2_with fail
          refine (scrBuffered _ _ _ hb4).mono ?_
          rintro e w5 ⟨rfl, rfl⟩
          go_wp2_with fail
          go_roundw
          case rel => exact ⟨k + 1, bu, sh, ph, false, by omega, by omega, by go_num, rfl, rfl, rfl, hok', hb4, H0.out, M4⟩
          case measure => simp [intOf]; omega
        | true =>
          by_cases hs : sh = x
          · have f1 : decide (sh < x) = false := by simp; omega
            rw [show Scr.step ⟨x, y, z, bu, sh, ph, true⟩ = (0, ⟨x, y, z, bu, sh, ph, true⟩) from if_pos (.inr hs)] at c1 hok'
            clear hs
            refine c1.mono ?_
            clear c1
            rintro e w4 ⟨rfl, hb4, hm4⟩
            have M4 := hM.into hm4 (fun i e => .inr (by omega))
            have h0 := hb.keep hm4 (by omega)
            obtain ⟨hc0, hf0⟩ := h0.both
            have H0 := Lib.hid h0
            dsimp only at hb4 hok'
            clear hM hg1 hb hm4 hck h0 hsok
            go_wp2_with fail
            refine (scrShown _ _ _ hb4).mono ?_
            rintro e w5 ⟨rfl, rfl⟩
            go_wp2_with fail
            refine (scrShown _ _ _ hb4).mono ?_
            rintro e w5 ⟨rfl, rfl⟩
            go_wp2_with fail
            refine (scrBuffered _ _ _ hb4).mono ?_
            rintro e w5 ⟨rfl, rfl⟩
            go_wp2_with fail
            go_roundw
            case rel => exact ⟨k + 1, bu, sh, ph, true, by omega, by omega, by go_num, rfl, rfl, rfl, hok', hb4, H0.out, M4⟩
            case measure => simp [intOf]; omega
          · have f1 : decide (sh < x) = true := by simp; omega
            by_cases hz : bu = 0
            · have f2 : (bu == 0) = true := by simpa using hz
              have f3 : decide (0 < bu) = false := by simp; omega
              rw [show Scr.step ⟨x, y, z, bu, sh, ph, true⟩ = (2, ⟨x, y, z, bu, sh, ph, true⟩) from by simp [Scr.step, hs, hz]] at c1 hok'
              have hz0 : 0 ≤ bu ∧ bu ≤ 0 := by omega
              clear hs hz
              refine c1.mono ?_
              clear c1
              rintro e w4 ⟨rfl, hb4, hm4⟩
              have M4 := hM.into hm4 (fun i e => .inr (by omega))
              have h0 := hb.keep hm4 (by omega)
              obtain ⟨hc0, hf0⟩ := h0.both
              have H0 := Lib.hid h0
              dsimp only at hb4 hok'
              clear hM hg1 hb hm4 hck h0 hsok
              go_wp2_with fail
              refine (scrShown _ _ _ hb4).mono ?_
              rintro e w5 ⟨rfl, rfl⟩
              go_wp2_with fail
              refine (scrShown _ _ _ hb4).mono ?_
              rintro e w5 ⟨rfl, rfl⟩
              go_wp2_with fail
              refine (scrBuffered _ _ _ hb4).mono ?_
              rintro e w5 ⟨rfl, rfl⟩
              go_wp2_with fail
              go_roundw
              case rel => exact ⟨k + 1, bu, sh, ph, true, by omega, by omega, by go_num, rfl, rfl, rfl, hok', hb4, H0.out, M4⟩
              case measure => simp [intOf]; omega
            · have f2 : (bu == 0) = false := by simpa using hz
              have f3 : decide (0 < bu) = true := by simp; omega
              by_cases hp : ph + 1 < z
              · have f4 : (ph + 1 == z) = false := by simp; omega
                rw [show Scr.step ⟨x, y, z, bu, sh, ph, true⟩ = (0, ⟨x, y, z, bu, sh, ph + 1, true⟩) from by simp [Scr.step, hs, hz, hp]] at c1 hok'
                clear hs hz
                refine c1.mono ?_
                clear c1
                rintro e w4 ⟨rfl, hb4, hm4⟩
                have M4 := hM.into hm4 (fun i e => .inr (by omega))
                have h0 := hb.keep hm4 (by omega)
                obtain ⟨hc0, hf0⟩ := h0.both
                have H0 := Lib.hid h0
                dsimp only at hb4 hok'
                clear hM hg1 hb hm4 hck h0 hsok
                go_wp2_with fail
                refine (scrShown _ _ _ hb4).mono ?_
                rintro e w5 ⟨rfl, rfl⟩
                go_wp2_with fail
                refine (scrShown _ _ _ hb4).mono ?_
                rintro e w5 ⟨rfl, rfl⟩
                go_wp2_with fail
                refine (scrBuffered _ _ _ hb4).mono ?_
                rintro e w5 ⟨rfl, rfl⟩
                go_wp2_with fail
                go_roundw
                case rel => exact ⟨k + 1, bu, sh, ph + 1, true, by omega, by omega, by go_num, rfl, rfl, rfl, hok', hb4, H0.out, M4⟩
                case measure => simp [intOf]; omega
              · have f4 : (ph + 1 == z) = true := by simp; omega
                have f5 : (sh + 1 == sh + 1) = true := by simp
                have f6 : (sh + 1 + (bu - 1) != sh + bu) = false := by simp; omega
                rw [show Scr.step ⟨x, y, z, bu, sh, ph, true⟩ = (1, ⟨x, y, z, bu - 1, sh + 1, 0, true⟩) from by simp [Scr.step, hs, hz, hp]] at c1 hok'
                clear hs hz
                refine c1.mono ?_
                clear c1
                rintro e w4 ⟨rfl, hb4, hm4⟩
                have M4 := hM.into hm4 (fun i e => .inr (by omega))
                have h0 := hb.keep hm4 (by omega)
                obtain ⟨hc0, hf0⟩ := h0.both
                have H0 := Lib.hid h0
                dsimp only at hb4 hok'
                clear hM hg1 hb hm4 hck h0 hsok
                go_wp2_with fail
                refine (scrShown _ _ _ hb4).mono ?_
                rintro e w5 ⟨rfl, rfl⟩
                go_wp2_with fail
                refine (scrShown _ _ _ hb4).mono ?_
                rintro e w5 ⟨rfl, rfl⟩
                go_wp2_with fail
                refine (scrBuffered _ _ _ hb4).mono ?_
                rintro e w5 ⟨rfl, rfl⟩
                go_wp2_with fail
                go_roundw
                case rel => exact ⟨k + 1, bu - 1, sh + 1, 0, true, by omega, by omega, by go_num, rfl, val_i (by omega), rfl, hok', hb4, H0.out, M4⟩
                case measure => simp [intOf]; omega
      · have hnn : 0 ≤ v := by omega
        go_wp2_with fail
        have c1 := scrPut _ g1 _ hsok hg1 v hwk
        by_cases hr : x - sh - bu < v
        · rw [show Scr.put ⟨x, y, z, bu, sh, ph, sd⟩ v = (1, ⟨x, y, z, bu, sh, ph, sd⟩) from if_pos (.inr hr)] at c1
          refine c1.mono ?_
          clear c1
          rintro e w4 ⟨rfl, hb4, hm4⟩
          have M4 := hM.into hm4 (fun i e => .inr (by omega))
          have h0 := hb.keep hm4 (by omega)
          clear hM hg1 hb hm4 hck
          go_wp2_with fail
          refine (scrShown _ _ _ hb4).mono ?_
          rintro e w5 ⟨rfl, rfl⟩
          go_wp2_with fail
          go_roundw
          case rel => exact ⟨k + 1, bu, sh, ph, sd, by omega, by omega, by go_num, rfl, rfl, rfl, hsok, hb4, h0, M4⟩
          case measure => simp [intOf]; omega
        · have hok' := Scr.put_ok _ v hsok
          rw [show Scr.put ⟨x, y, z, bu, sh, ph, sd⟩ v = (0, ⟨x, y, z, bu + v, sh, ph, sd || decide (y ≤ bu + v) || decide (bu + v = x - sh)⟩) from if_neg (by dsimp only; omega)] at c1 hok'
          refine c1.mono ?_
          clear c1
          rintro e w4 ⟨rfl, hb4, hm4⟩
          have M4 := hM.into hm4 (fun i e => .inr (by omega))
          have h0 := hb.keep hm4 (by omega)
          have hck4 : w4.cell? ⟨b, off + k, none⟩ = some (.int .i64 v) := (World.cell?_of_block (hm4.block b (by have := hM.size; omega) (by omega))).trans hck
          obtain ⟨hc0, hf0⟩ := h0.both
          have H0 := Lib.hid h0
          dsimp only at hb4 hok'
          clear hM hg1 hb hm4 hck h0 hsok
          cases sd with
          | true =>
            simp only [Bool.true_or] at hb4 hok'
            go_wp2_with fail
            go_quiet (fail)
            go_wp2_with fail
            refine (scrShown _ _ _ (hb4.drewN _)).mono ?_
            rintro e w5 ⟨rfl, rfl⟩
            go_wp2_with fail
            go_roundw
            case rel => exact ⟨k + 1, bu + v, sh, ph, true, by omega, by omega, by go_num, rfl, val_i (by omega), rfl, hok', hb4.drewN _, H0.out.drewN _, M4.drewN _⟩
            case measure => simp [intOf]; omega
          | false =>
            simp only [Bool.false_or] at hb4 hok'
            by_cases hy : y ≤ bu + v
            · have hy' : decide (y ≤ bu + v) = true := by simpa using hy
              rw [hy', Bool.true_or] at hb4 hok'
              go_wp2_with fail
              go_quiet ((go_at_call 20; exact Calls.quiet_of_same ((scrBuffered _ _ _ (hb4.drewN _)).mono fun _ _ hh => ⟨hh.1, hh.2.symm⟩)))
              go_wp2_with fail
              refine (scrShown _ _ _ (hb4.drewN _)).mono ?_
              rintro e w5 ⟨rfl, rfl⟩
              go_wp2_with fail
              go_roundw
              case rel => exact ⟨k + 1, bu + v, sh, ph, true, by omega, by omega, by go_num, rfl, val_i (by omega), rfl, hok', hb4.drewN _, H0.out.drewN _, M4.drewN _⟩
              case measure => simp [intOf]; omega
            · have hy' : decide (y ≤ bu + v) = false := by simpa using hy
              rw [hy', Bool.false_or] at hb4 hok'
              have e1 : decide (bu + v = x - sh) = (sh + bu + v == x) := by rw [Bool.eq_iff_iff]; simp; omega
              rw [e1] at hb4 hok'
              clear e1
              go_wp2_with fail
              go_quiet ((go_at_call 20; exact Calls.quiet_of_same ((scrBuffered _ _ _ (hb4.drewN _)).mono fun _ _ hh => ⟨hh.1, hh.2.symm⟩)))
              go_wp2_with fail
              refine (scrShown _ _ _ (hb4.drewN _)).mono ?_
              rintro e w5 ⟨rfl, rfl⟩
              go_wp2_with fail
              go_roundw
              case rel => exact ⟨k + 1, bu + v, sh, ph, _, by omega, by omega, by go_num, rfl, val_i (by omega), rfl, hok', hb4.drewN _, H0.out.drewN _, M4.drewN _⟩
              case measure => simp [intOf]; omega
    · have hx : decide (k < n) = false ∨ decide (k < n) = true ∧ decide ((k : Int) < 200) = false := by
        by_cases h1 : k < n
        · exact .inr ⟨by simpa using h1, by simp; omega⟩
        · exact .inl (by simpa using h1)
      clear hlt
      rcases hx with hx | ⟨hx, hx2⟩
      all_goals
        go_wp2_with fail
        obtain ⟨hc0, hf0⟩ := hb.both
        have hcx : wr.cell? ⟨g0, 0, none⟩ = some (.int .i64 x) := hc0 0
        clear hc0 hf0
        go_region_held3 (fun w' => w'.cell? ⟨g0, 0, none⟩ = some (.int .i64 x)) (first | assumption | go_keep) (first
          | (go_at_call 13; refine (alive22 _).mono ?_; rintro e w3 ⟨rfl, hm3⟩; have h3 := (Blk.drew hg1).keep hm3 (fun h => h); have M3 := hM.drew.trans hm3; have hcx3 : w3.cell? ⟨g0, 0, none⟩ = some (.int .i64 x) := ((Blk.drew hb).keep hm3 (fun h => h)).cell 0)
          | (go_at_call 22; refine (scrDone _ _ _ h3).mono ?_; rintro e w4 ⟨rfl, n4, rfl⟩)
          | (go_at_call 21; refine (scrShown _ _ _ (h3.drewN _)).mono ?_; rintro e w5 ⟨rfl, rfl⟩))
        all_goals
          go_wp2_with fail
          go_ret
          exact ⟨rfl, (M3.drewN _).below (fun _ h => h.elim)⟩

theorem policyStalls_walk (x y z : Int) (A : Option Addr) (n c : Nat) (l : List Int) (w : World) (hl : Ints w A n l) (hw : ∀ i, -9223372036854775808 ≤ nth l i ∧ nth l i ≤ 9223372036854775807) (hn : n ≤ 9223372036854775807) :
    Calls Try.prog 6 #[.agg #[.int .i64 x, .int .i64 y, .int .i64 z], .slice A n c] w fun e w' => e = .returned (.bool true) ∧ Below w.heap.size w w' := by
  cases h : newOk x y z with
  | false => exact policyStalls_no x y z A n c w h
  | true => exact policyStalls_yes x y z A n c l w h hl hw hn
end Go.Proofs.Ytaflmnnnmbklfaa
