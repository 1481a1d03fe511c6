/-
  Contracts of policy.Screen's makers and readers, and of the reference's maker.
-/
import Derived.Test.YtaflmnnnmbklfaaPolScreen
namespace Go.Proofs.Ytaflmnnnmbklfaa
open Go.RowKit

theorem scrBuffered_nil (w : World) : Calls Try.prog 20 #[.pointer none] w fun e w' => e = .returned (.int .i64 0) ∧ w = w' := by
  go_enter Try.func20, Try.ntmps20
  go_wp2
  go_ret
  exact ⟨rfl, rfl⟩

theorem scrBuffered (w : World) (g : Nat) (s : Scr) (hb : Blk w g 61 s.cells) :
   Calls Try.prog 20 #[.pointer (some ⟨g, 0, none⟩)] w fun e w' => e = .returned (.int .i64 s.buffered) ∧ w = w' := by
  obtain ⟨total, start, tick, buffered, shown, phase, started⟩ := s
  obtain ⟨hc, hf⟩ := hb.both
  unfold Scr.cells at hc
  dsimp only at hc
  go_enter Try.func20, Try.ntmps20
  go_wp2
  go_ret
  exact ⟨rfl, rfl⟩

theorem scrShown_nil (w : World) : Calls Try.prog 21 #[.pointer none] w fun e w' => e = .returned (.int .i64 0) ∧ w = w' := by
  go_enter Try.func21, Try.ntmps21
  go_wp2
  go_ret
  exact ⟨rfl, rfl⟩

theorem scrShown (w : World) (g : Nat) (s : Scr) (hb : Blk w g 61 s.cells) :
   Calls Try.prog 21 #[.pointer (some ⟨g, 0, none⟩)] w fun e w' => e = .returned (.int .i64 s.shown) ∧ w = w' := by
  obtain ⟨total, start, tick, buffered, shown, phase, started⟩ := s
  obtain ⟨hc, hf⟩ := hb.both
  unfold Scr.cells at hc
  dsimp only at hc
  go_enter Try.func21, Try.ntmps21
  go_wp2
  go_ret
  exact ⟨rfl, rfl⟩

theorem scrDone_nil (w : World) : Calls Try.prog 22 #[.pointer none] w fun e w' => e = .returned (.bool false) ∧ ∃ n, w' = w.drewN n := by
  go_enter Try.func22, Try.ntmps22
  go_wp2
  go_quiet (fail)
  go_wp2
  go_ret
  exact ⟨rfl, _, rfl⟩

theorem scrDone (w : World) (g : Nat) (s : Scr) (hb : Blk w g 61 s.cells) :
   Calls Try.prog 22 #[.pointer (some ⟨g, 0, none⟩)] w fun e w' => e = .returned (.bool (s.shown == s.total)) ∧ ∃ n, w' = w.drewN n := by
  obtain ⟨total, start, tick, buffered, shown, phase, started⟩ := s
  obtain ⟨hc, hf⟩ := hb.both
  unfold Scr.cells at hc
  dsimp only at hc
  go_enter Try.func22, Try.ntmps22
  go_wp2
  go_quiet (fail)
  go_wp2
  go_ret
  exact ⟨rfl, _, rfl⟩

/-- Whether a screen may be made so. -/
def newOk (total start tick : Int) : Bool := decide (1 ≤ total ∧ total ≤ 1024 ∧ 1 ≤ start ∧ start ≤ 64 ∧ 1 ≤ tick ∧ tick ≤ 1048576)
theorem newOk_ok {total start tick : Int} (h : newOk total start tick = true) : Scr.Ok ⟨total, start, tick, 0, 0, 0, false⟩ := by
  unfold newOk at h
  simp only [decide_eq_true_eq] at h
  obtain ⟨h1, h2, h3, h4, h5, h6⟩ := h
  exact ⟨⟨h1, h2⟩, ⟨h3, h4⟩, ⟨h5, h6⟩, Int.le_refl _, Int.le_refl _, by simp only []; omega, by simp only []; omega⟩

set_option maxHeartbeats 400000 in
theorem scrNew_no (w : World) (total start tick : Int) (h : newOk total start tick = false) :
   Calls Try.prog 14 #[.int .i64 total, .int .i64 start, .int .i64 tick] w fun e w' => e = .returned (.tuple #[.pointer none, .int .i64 1]) ∧ w = w' := by
  have h' : total < 1 ∨ 1024 < total ∨ start < 1 ∨ 64 < start ∨ tick < 1 ∨ 1048576 < tick := by
    unfold newOk at h
    simp only [decide_eq_false_iff_not] at h
    omega
  clear h
  go_enter Try.func14, Try.ntmps14
  go_wp2
  all_goals first
    | (go_ret2; exact ⟨rfl, rfl⟩)
    | (exfalso; omega)

set_option maxHeartbeats 400000 in
theorem scrNew (w : World) (total start tick : Int) (h : newOk total start tick = true) :
   Calls Try.prog 14 #[.int .i64 total, .int .i64 start, .int .i64 tick] w fun e w' => e = .returned (.tuple #[.pointer (some ⟨w.heap.size, 0, none⟩), .int .i64 0]) ∧
     w.alloc (.cells (Scr.cells ⟨total, start, tick, 0, 0, 0, false⟩) 61) = w' := by
  unfold newOk at h
  simp only [decide_eq_true_eq] at h
  obtain ⟨h1, h2, h3, h4, h5, h6⟩ := h
  go_enter Try.func14, Try.ntmps14
  go_wp2
  go_ret2
  exact ⟨rfl, rfl⟩

set_option maxHeartbeats 400000 in
theorem refNew_no (w : World) (total start tick : Int) (h : newOk total start tick = false) :
   Calls Try.prog 15 #[.int .i64 total, .int .i64 start, .int .i64 tick] w fun e w' => e = .returned (.tuple #[.pointer none, .int .i64 1]) ∧ w = w' := by
  have h' : total < 1 ∨ 1024 < total ∨ start < 1 ∨ 64 < start ∨ tick < 1 ∨ 1048576 < tick := by
    unfold newOk at h
    simp only [decide_eq_false_iff_not] at h
    omega
  clear h
  go_enter Try.func15, Try.ntmps15
  go_wp2
  all_goals first
    | (go_ret2; exact ⟨rfl, rfl⟩)
    | (exfalso; omega)

set_option maxHeartbeats 400000 in
theorem refNew (w : World) (total start tick : Int) (h : newOk total start tick = true) :
   Calls Try.prog 15 #[.int .i64 total, .int .i64 start, .int .i64 tick] w fun e w' => e = .returned (.tuple #[.pointer (some ⟨w.heap.size, 0, none⟩), .int .i64 0]) ∧
     w.alloc (.cells (Scr.cells ⟨total, start, tick, 0, 0, 0, false⟩) 49) = w' := by
  unfold newOk at h
  simp only [decide_eq_true_eq] at h
  obtain ⟨h1, h2, h3, h4, h5, h6⟩ := h
  go_enter Try.func15, Try.ntmps15
  go_wp2
  go_ret2
  exact ⟨rfl, rfl⟩
end Go.Proofs.Ytaflmnnnmbklfaa
