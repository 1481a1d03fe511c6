/-
  Contracts of policy.Screen's methods, and of the reference's.
-/
import Derived.Test.YtaflmnnnmbklfaaBase
namespace Go.Proofs.Ytaflmnnnmbklfaa
open Go.RowKit

/-- A screen. -/
structure Scr where
  total : Int
  start : Int
  tick : Int
  buffered : Int
  shown : Int
  phase : Int
  started : Bool

/-- Its cells. -/
def Scr.cells (s : Scr) : Array Value :=
  #[.int .i64 s.total, .int .i64 s.start, .int .i64 s.tick, .int .i64 s.buffered, .int .i64 s.shown, .int .i64 s.phase, .bool s.started]

/-- What holds of every screen that was made. -/
structure Scr.Ok (s : Scr) : Prop where
  total : 1 ≤ s.total ∧ s.total ≤ 1024
  start : 1 ≤ s.start ∧ s.start ≤ 64
  tick : 1 ≤ s.tick ∧ s.tick ≤ 1048576
  buffered : 0 ≤ s.buffered
  shown : 0 ≤ s.shown
  both : s.shown + s.buffered ≤ s.total
  phase : 0 ≤ s.phase ∧ s.phase < s.tick

def Scr.step (s : Scr) : Int × Scr :=
  if s.started = false ∨ s.shown = s.total then (0, s)
  else if s.buffered = 0 then (2, s)
  else if s.phase + 1 < s.tick then (0, { s with phase := s.phase + 1 })
  else (1, { s with buffered := s.buffered - 1, shown := s.shown + 1, phase := 0 })

def Scr.put (s : Scr) (n : Int) : Int × Scr :=
  if n < 0 ∨ s.total - s.shown - s.buffered < n then (1, s)
  else (0, { s with buffered := s.buffered + n, started := s.started || decide (s.start ≤ s.buffered + n) || decide (s.buffered + n = s.total - s.shown) })

theorem Scr.step_ok (s : Scr) (h : s.Ok) : s.step.2.Ok := by
  obtain ⟨h1, h2, h3, h4, h5, h6, h7⟩ := h
  unfold Scr.step
  split
  · exact ⟨h1, h2, h3, h4, h5, h6, h7⟩
  split
  · exact ⟨h1, h2, h3, h4, h5, h6, h7⟩
  split
  · exact ⟨h1, h2, h3, h4, h5, h6, by dsimp; omega⟩
  · exact ⟨h1, h2, h3, by dsimp; omega, by dsimp; omega, by dsimp; omega, by dsimp; omega⟩

theorem Scr.put_ok (s : Scr) (n : Int) (h : s.Ok) : (s.put n).2.Ok := by
  obtain ⟨h1, h2, h3, h4, h5, h6, h7⟩ := h
  unfold Scr.put
  split
  · exact ⟨h1, h2, h3, h4, h5, h6, h7⟩
  · exact ⟨h1, h2, h3, by dsimp; omega, h5, by dsimp; omega, h7⟩

/-- What a method of a screen leaves. -/
def ScrPost (g : Nat) (t : TypeId) (w : World) (x : Int × Scr) (e : Ending) (w' : World) : Prop :=
  e = .returned (.int .i64 x.1) ∧ Blk w' g t x.2.cells ∧ Mod (· = g) w w'

theorem ScrPost.same {g : Nat} {t : TypeId} {w : World} {s : Scr} {x : Int} (h : Blk w g t s.cells) (n : Nat) : ScrPost g t w (x, s) (.returned (.int .i64 x)) (w.drewN n) :=
  ⟨rfl, h, (Mod.refl _ _).drewN n⟩

set_option maxHeartbeats 400000 in
theorem scrStep_nil (w : World) : Calls Try.prog 16 #[.pointer none] w fun e w' => e = .returned (.int .i64 0) ∧ ∃ n, w' = w.drewN n := by
  go_enter Try.func16, Try.ntmps16
  go_wp2
  go_quiet (fail)
  go_wp2
  go_ret
  exact ⟨rfl, _, rfl⟩

set_option maxHeartbeats 400000 in
theorem scrStep (w : World) (g : Nat) (s : Scr) (ok : s.Ok) (hb : Blk w g 61 s.cells) :
   Calls Try.prog 16 #[.pointer (some ⟨g, 0, none⟩)] w (ScrPost g 61 w s.step) := by
  obtain ⟨total, start, tick, buffered, shown, phase, started⟩ := s
  obtain ⟨h1, h2, h3, h4, h5, h6, h7⟩ := ok
  dsimp only at h1 h2 h3 h4 h5 h6 h7
  obtain ⟨hc, hf⟩ := hb.both
  unfold Scr.cells at hc
  dsimp only at hc
  cases started with
  | false =>
    have e : Scr.step ⟨total, start, tick, buffered, shown, phase, false⟩ = (0, ⟨total, start, tick, buffered, shown, phase, false⟩) := by simp [Scr.step]
    rw [e]; clear e
    go_enter Try.func16, Try.ntmps16
    go_wp2
    go_quiet (fail)
    go_wp2
    go_ret
    exact ScrPost.same hb _
  | true =>
    by_cases hs : shown = total
    · have hs' : (shown == total) = true := by simp [hs]
      have e : Scr.step ⟨total, start, tick, buffered, shown, phase, true⟩ = (0, ⟨total, start, tick, buffered, shown, phase, true⟩) := by simp [Scr.step, hs]
      rw [e]; clear e hs
      go_enter Try.func16, Try.ntmps16
      go_wp2
      go_quiet (fail)
      go_wp2
      go_ret
      exact ScrPost.same hb _
    · have hs' : (shown == total) = false := by simp [hs]
      by_cases hz : buffered = 0
      · have hz' : (buffered == 0) = true := by simp [hz]
        have e : Scr.step ⟨total, start, tick, buffered, shown, phase, true⟩ = (2, ⟨total, start, tick, buffered, shown, phase, true⟩) := by simp [Scr.step, hs, hz]
        rw [e]; clear e hs hz
        go_enter Try.func16, Try.ntmps16
        go_wp2
        go_quiet (fail)
        go_wp2
        go_ret
        exact ScrPost.same hb _
      · have hz' : (buffered == 0) = false := by simp [hz]
        by_cases hp : phase + 1 < tick
        · have e : Scr.step ⟨total, start, tick, buffered, shown, phase, true⟩ = (0, ⟨total, start, tick, buffered, shown, phase + 1, true⟩) := by simp [Scr.step, hs, hz, hp]
          rw [e]; clear e hs hz
          have hp' : decide (phase + 1 < tick) = true := by simpa using hp
          go_enter Try.func16, Try.ntmps16
          go_wp2
          go_quiet (fail)
          go_wp2
          go_quiet (fail)
          go_wp2
          go_ret
          exact ⟨rfl, (by repeat' (first | with_reducible exact hb | with_reducible apply Blk.put | with_reducible apply Blk.drewN | with_reducible apply Blk.drew | rfl)), (by repeat' (first | with_reducible exact Mod.refl _ _ | with_reducible refine Mod.drewN ?_ _ | with_reducible refine Mod.drew ?_ | with_reducible refine Mod.setCell ?_ ?_ _ | exact Or.inl rfl))⟩
        · have e : Scr.step ⟨total, start, tick, buffered, shown, phase, true⟩ = (1, ⟨total, start, tick, buffered - 1, shown + 1, 0, true⟩) := by simp [Scr.step, hs, hz, hp]
          rw [e]; clear e hs hz
          have hp' : decide (phase + 1 < tick) = false := by simpa using hp
          go_enter Try.func16, Try.ntmps16
          go_wp2
          go_quiet (fail)
          go_wp2
          go_quiet (fail)
          go_wp2
          go_ret
          exact ⟨rfl, (by repeat' (first | with_reducible exact hb | with_reducible apply Blk.put | with_reducible apply Blk.drewN | with_reducible apply Blk.drew | rfl)), (by repeat' (first | with_reducible exact Mod.refl _ _ | with_reducible refine Mod.drewN ?_ _ | with_reducible refine Mod.drew ?_ | with_reducible refine Mod.setCell ?_ ?_ _ | exact Or.inl rfl))⟩
end Go.Proofs.Ytaflmnnnmbklfaa
