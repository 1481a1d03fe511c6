/-
  kinoralaw22.PolicyRates: the walk.
-/
import Derived.Test.YtaflmnnnmbklfaaPolAlive
import Derived.Test.YtaflmnnnmbklfaaPolRefRate
import Derived.Deep.RegionHeld3
namespace Go.Proofs.Ytaflmnnnmbklfaa
open Go.RowKit

/-- A slice of pairs of ints that reads as l. -/
def Pairs (w : World) (A : Option Addr) (n : Nat) (l : List Dl) : Prop :=
  l.length = n ∧ (0 < n → ∃ b off, A = some ⟨b, off, none⟩ ∧ ∀ i, i < n → w.cell? ⟨b, off + i * 2, none⟩ = some (.int .i64 (dlAt l i).1) ∧ w.cell? ⟨b, off + i * 2 + 1, none⟩ = some (.int .i64 (dlAt l i).2))

theorem MeterIs.drew {w : World} {g : Nat} {L : List Dl} (h : MeterIs w g L) : MeterIs w.drew g L := h.keep (S := fun _ => False) ((Mod.refl _ _).drew) (fun h => h)
theorem RMeterIs.drew {B : Nat} {w : World} {g : Nat} {L : List Dl} (h : RMeterIs B w g L) : RMeterIs B w.drew g L := h.keep (S := fun _ => False) ((Mod.refl _ _).drew) (fun h => h) (fun _ _ _ h => h.elim)
theorem RMeterIs.quiet {B : Nat} {w w' : World} {g : Nat} {L : List Dl} (h : RMeterIs B w g L) (hm : Mod (fun _ => False) w w') : RMeterIs B w' g L := h.keep hm (fun h => h) (fun _ _ _ h => h.elim)
theorem RMeterIs.beside {B : Nat} {w w' : World} {g g' : Nat} {L L' : List Dl} (h : RMeterIs B w g L) (h' : MeterIs w g' L') (hm : Mod (· = g') w w') (hne : g ≠ g') : RMeterIs B w' g L :=
  h.keep hm hne (fun k _ _ e => by
    obtain ⟨_, x, _, hb⟩ := h'
    subst e
    exact ⟨_, _, hb, by decide⟩)

/-- What holds at each round's head. -/
def RateRel (n B g1 g2 : Nat) (w : World) (i : Value) (wr : World) : Prop :=
  ∃ (k : Nat) (L : List Dl), k ≤ n ∧ k ≤ 200 ∧ i = .int .i64 k ∧ L.length ≤ k ∧ MeterIs wr g1 L ∧ RMeterIs B wr g2 L ∧ Mod (fun _ => False) w wr

set_option maxRecDepth 100000 in
set_option maxHeartbeats 4000000 in
theorem policyRates_walk (s : Int) (A : Option Addr) (n c : Nat) (l : List Dl) (w : World) (hl : Pairs w A n l) (hn : n ≤ 9223372036854775807) :
    Calls Try.prog 3 #[.slice A n c, .int .i64 s] w fun e w' => e = .returned (.bool true) ∧ Below w.heap.size w w' := by
  obtain ⟨hlen, hat⟩ := hl
  have HA := Lib.hid hat
  clear hlen hat
  go_enter Try.func3, Try.ntmps3
  go_wp2_with fail
  refine (newMeter w).mono ?_
  rintro e w1 ⟨rfl, hm1, hmod1, hsz1⟩
  have HZ := Lib.hid hsz1
  clear hsz1
  go_wp2_with fail
  have hm2 : MeterIs (w1.alloc (.cells #[.slice none 0 0] 28)) w.heap.size [] := hm1.keep (S := fun _ => False) ((Mod.refl _ _).alloc _) (fun h => h)
  have hr2 : RMeterIs w.heap.size (w1.alloc (.cells #[.slice none 0 0] 28)) w1.heap.size [] := ⟨(fun d hd => by cases hd), by simp, _, Blk.new _ _ _, World.ownsRow_nil _ _ _ _⟩
  have M2 : Mod (fun _ => False) w (w1.alloc (.cells #[.slice none 0 0] 28)) := hmod1.alloc _
  have hne : w1.heap.size ≠ w.heap.size := by have := HZ.out; omega
  have hge : w.heap.size ≤ w1.heap.size := by have := HZ.out; omega
  clear hm1 hmod1 HZ
  generalize w1.alloc (.cells #[.slice none 0 0] 28) = w2 at *
  generalize w1.heap.size = g2 at *
  obtain ⟨g1, hg1⟩ : ∃ g1, g1 = w.heap.size := ⟨_, rfl⟩
  rw [← hg1] at hne hm2 ⊢
  have hg1' : w.heap.size ≤ g1 := by omega
  clear hg1
  go_loopw [7] (RateRel n w.heap.size g1 g2 w) (fun i _ => 200 - (intOf i).toNat)
  case atStart => exact ⟨0, [], Nat.zero_le _, by omega, rfl, Nat.zero_le _, hm2, hr2, M2⟩
  case round =>
    obtain ⟨k, L, hk, hk2, rfl, hL, hm, hr, hM⟩ := hrel
    clear hm2 hr2 M2
    by_cases hlt : k < n ∧ k < 200
    · obtain ⟨hl1, hl2⟩ := hlt
      obtain ⟨b, off, rfl, hc⟩ := HA.out (by omega)
      have hbl : b < w.heap.size := World.block_lt_of_cell? w _ (hc k hl1).1
      have hc1 : wr.cell? ⟨b, off + k * 2, none⟩ = some (.int .i64 (dlAt l k).1) := (World.cell?_of_block (hM.block b hbl (fun h => h))).trans (hc k hl1).1
      have hc2 : wr.cell? ⟨b, off + k * 2 + 1, none⟩ = some (.int .i64 (dlAt l k).2) := (World.cell?_of_block (hM.block b hbl (fun h => h))).trans (hc k hl1).2
      clear hc
      have hz0 := hM.size
      have i1 : (0 : Int) ≤ (k : Int) := by omega
      have i2 : (k : Int) < (n : Int) := by omega
      generalize (dlAt l k).1 = by_ at *
      generalize (dlAt l k).2 = ti at *
      go_wp2_with fail
      cases hv : dlOk by_ ti with
      | false =>
        have HV := Lib.hid hv
        clear hv
        go_region_held3 (fun w' => w'.cell? ⟨b, off + k * 2, none⟩ = some (.int .i64 by_) ∧ w'.cell? ⟨b, off + k * 2 + 1, none⟩ = some (.int .i64 ti)) (first | exact ⟨hc1, hc2⟩ | exact ⟨h31, h32⟩ | exact ⟨h41, h42⟩) (first
          | (go_at_call 9; refine (mtrAdd_no _ _ _ _ HV.out).mono ?_; rintro e w3 ⟨rfl, rfl⟩)
          | (go_at_call 10; refine (refAdd_no _ _ _ _ HV.out).mono ?_; rintro e w3 ⟨rfl, rfl⟩)
          | (go_at_call 11; refine (mtrRate g1 s L _ hm.drew).mono ?_; rintro e w3 ⟨rfl, hm3⟩; have h31 := (World.cell?_of_block (hm3.block b (by simp; omega) (fun h => h))).trans hc1; have h32 := (World.cell?_of_block (hm3.block b (by simp; omega) (fun h => h))).trans hc2)
          | (go_at_call 12; refine (refRate w.heap.size g2 s L _ (hr.drew.quiet hm3)).mono ?_; rintro e w4 ⟨rfl, hm4⟩; have hm34 := hm3.trans hm4; have h41 := (World.cell?_of_block (hm34.block b (by simp; omega) (fun h => h))).trans hc1; have h42 := (World.cell?_of_block (hm34.block b (by simp; omega) (fun h => h))).trans hc2))
        go_wp2_with fail
        go_roundw
        case rel => exact ⟨k + 1, L, by omega, by omega, by go_num, by omega, hm.drew.keep hm34 (fun h => h), hr.drew.quiet hm34, hM.drew.trans hm34⟩
        case measure => simp [intOf]; omega
      | true =>
        have HV := Lib.hid hv
        clear hv
        go_region_held3 (fun w' => w'.cell? ⟨b, off + k * 2, none⟩ = some (.int .i64 by_) ∧ w'.cell? ⟨b, off + k * 2 + 1, none⟩ = some (.int .i64 ti)) (first | exact ⟨hc1, hc2⟩ | exact ⟨h31, h32⟩ | exact ⟨h41, h42⟩ | exact ⟨h51, h52⟩ | exact ⟨h61, h62⟩) (first
          | (go_at_call 9; refine (mtrAdd g1 _ _ L _ HV.out hm.drew).mono ?_; rintro e w3 ⟨rfl, hm3, hd3⟩; have hz3 := hd3.size; have h31 := (World.cell?_of_block (hd3.block b (by simp; omega) (by omega))).trans hc1; have h32 := (World.cell?_of_block (hd3.block b (by simp; omega) (by omega))).trans hc2; have hr3 := hr.drew.beside hm.drew hd3 hne)
          | (go_at_call 10; refine (refAdd w.heap.size g2 _ _ L _ HV.out hr3 (by simp at hz3; omega) (by omega)).mono ?_; rintro e w4 ⟨rfl, hr4, hd4⟩; have hz4 := hd4.size; have h41 := (World.cell?_of_block (hd4.block b (by simp at hz3; omega) (by omega))).trans h31; have h42 := (World.cell?_of_block (hd4.block b (by simp at hz3; omega) (by omega))).trans h32; have hm4 := hm3.keep hd4 (fun e => hne e.symm); have M4 := (hM.drew.into hd3 (fun i e => .inr (by omega))).into hd4 (fun i e => .inr (by omega)); clear hz3 hd3)
          | (go_at_call 11; refine (mtrRate g1 s _ _ hm4).mono ?_; rintro e w5 ⟨rfl, hm5⟩; have hz5 := hm5.size; have h51 := (World.cell?_of_block (hm5.block b (by have := M4.size; omega) (fun h => h))).trans h41; have h52 := (World.cell?_of_block (hm5.block b (by have := M4.size; omega) (fun h => h))).trans h42)
          | (go_at_call 12; refine (refRate w.heap.size g2 s _ _ (hr4.quiet hm5)).mono ?_; rintro e w6 ⟨rfl, hm6⟩; have hm56 := hm5.trans hm6; have h61 := (World.cell?_of_block (hm56.block b (by have := M4.size; omega) (fun h => h))).trans h41; have h62 := (World.cell?_of_block (hm56.block b (by have := M4.size; omega) (fun h => h))).trans h42))
        go_wp2_with fail
        go_roundw
        case rel => exact ⟨k + 1, _, by omega, by omega, by go_num, by rw [List.length_append, List.length_singleton]; omega, hm4.keep hm56 (fun h => h), hr4.quiet hm56, M4.trans hm56⟩
        case measure => simp [intOf]; omega
    · have hx : decide (k < n) = false ∨ decide (k < n) = true ∧ decide ((k : Int) < 200) = false := by
        by_cases h1 : k < n
        · exact .inr ⟨by simpa using h1, by simp; omega⟩
        · exact .inl (by simpa using h1)
      clear hlt
      rcases hx with hx | ⟨hx, hx2⟩
      all_goals
        go_wp2_with fail
        refine (alive22 _).mono ?_
        rintro e w3 ⟨rfl, hm3⟩
        have h3 := hm.keep hm3 (fun h => h)
        have r3 := hr.quiet hm3
        have M3 := hM.trans hm3
        clear hm hr hM hm3
        go_wp2_with fail
        refine (mtrRate g1 s _ _ h3).mono ?_
        rintro e w4 ⟨rfl, hm4⟩
        have r4 := r3.quiet hm4
        have M4 := M3.trans hm4
        clear h3 r3 M3 hm4
        go_wp2_with fail
        refine (refRate w.heap.size g2 s _ _ r4).mono ?_
        rintro e w5 ⟨rfl, hm5⟩
        have M5 := M4.trans hm5
        clear hm5 r4 M4
        go_wp2_with fail
        go_ret
        exact ⟨rfl, M5.below (fun _ h => h.elim)⟩
end Go.Proofs.Ytaflmnnnmbklfaa
