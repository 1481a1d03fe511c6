/-
  Contracts of policy.Screen's methods, and of the reference's: Put.
-/
import Derived.Test.YtaflmnnnmbklfaaPolScreen
namespace Go.Proofs.Ytaflmnnnmbklfaa
open Go.RowKit

set_option maxHeartbeats 400000 in
theorem scrPut_nil (w : World) (n : Int) : Calls Try.prog 18 #[.pointer none, .int .i64 n] w fun e w' => e = .returned (.int .i64 1) ∧ ∃ m, w' = w.drewN m := by
  go_enter Try.func18, Try.ntmps18
  go_wp2
  go_quiet (fail)
  go_wp2
  go_ret
  exact ⟨rfl, _, rfl⟩

set_option maxHeartbeats 400000 in
theorem scrPut (w : World) (g : Nat) (s : Scr) (ok : s.Ok) (hb : Blk w g 61 s.cells) (n : Int) (hn : -9223372036854775808 ≤ n ∧ n ≤ 9223372036854775807) :
   Calls Try.prog 18 #[.pointer (some ⟨g, 0, none⟩), .int .i64 n] w (ScrPost g 61 w (s.put n)) := by
  obtain ⟨total, start, tick, buffered, shown, phase, started⟩ := s
  obtain ⟨h1, h2, h3, h4, h5, h6, h7⟩ := ok
  dsimp only at h1 h2 h3 h4 h5 h6 h7
  obtain ⟨hc, hf⟩ := hb.both
  unfold Scr.cells at hc
  dsimp only at hc
  by_cases hn0 : n < 0
  · have e : Scr.put ⟨total, start, tick, buffered, shown, phase, started⟩ n = (1, ⟨total, start, tick, buffered, shown, phase, started⟩) := by simp [Scr.put, hn0]
    rw [e]; clear e
    have hn1 : decide (n < 0) = true := by simpa using hn0
    go_enter Try.func18, Try.ntmps18
    go_wp2
    go_quiet (fail)
    go_wp2
    go_ret
    exact ScrPost.same hb _
  · have hn1 : decide (n < 0) = false := by simpa using hn0
    by_cases hr : total - shown - buffered < n
    · have e : Scr.put ⟨total, start, tick, buffered, shown, phase, started⟩ n = (1, ⟨total, start, tick, buffered, shown, phase, started⟩) := by simp [Scr.put, hr]
      rw [e]; clear e
      have hr1 : decide (total - shown - buffered < n) = true := by simpa using hr
      go_enter Try.func18, Try.ntmps18
      go_wp2
      go_quiet (fail)
      go_wp2
      go_ret
      exact ScrPost.same hb _
    · have hr1 : decide (total - shown - buffered < n) = false := by simpa using hr
      by_cases hs : start ≤ buffered + n
      · have e : Scr.put ⟨total, start, tick, buffered, shown, phase, started⟩ n = (0, ⟨total, start, tick, buffered + n, shown, phase, true⟩) := by simp [Scr.put, hn0, hr, hs]
        rw [e]; clear e
        have hs1 : decide (start ≤ buffered + n) = true := by simpa using hs
        go_enter Try.func18, Try.ntmps18
        go_wp2
        go_quiet (fail)
        go_wp2
        go_quiet (fail)
        go_wp2
        go_ret
        exact ⟨rfl, (by repeat' (first | with_reducible exact hb | with_reducible apply Blk.put | with_reducible apply Blk.drewN | with_reducible apply Blk.drew | rfl)), (by repeat' (first | with_reducible exact Mod.refl _ _ | with_reducible refine Mod.drewN ?_ _ | with_reducible refine Mod.drew ?_ | with_reducible refine Mod.setCell ?_ ?_ _ | exact Or.inl rfl))⟩
      · have hs1 : decide (start ≤ buffered + n) = false := by simpa using hs
        by_cases ht : buffered + n = total - shown
        · have e : Scr.put ⟨total, start, tick, buffered, shown, phase, started⟩ n = (0, ⟨total, start, tick, buffered + n, shown, phase, true⟩) := by simp [Scr.put, hn0, hr, ht]
          rw [e]; clear e
          have ht1 : (buffered + n == total - shown) = true := by simpa using ht
          clear ht
          go_enter Try.func18, Try.ntmps18
          go_wp2
          go_quiet (fail)
          go_wp2
          go_quiet (fail)
          go_wp2
          go_ret
          exact ⟨rfl, (by repeat' (first | with_reducible exact hb | with_reducible apply Blk.put | with_reducible apply Blk.drewN | with_reducible apply Blk.drew | rfl)), (by repeat' (first | with_reducible exact Mod.refl _ _ | with_reducible refine Mod.drewN ?_ _ | with_reducible refine Mod.drew ?_ | with_reducible refine Mod.setCell ?_ ?_ _ | exact Or.inl rfl))⟩
        · have e : Scr.put ⟨total, start, tick, buffered, shown, phase, started⟩ n = (0, ⟨total, start, tick, buffered + n, shown, phase, started⟩) := by simp [Scr.put, hn0, hr, hs, ht]
          rw [e]; clear e
          have ht1 : (buffered + n == total - shown) = false := by simpa using ht
          clear ht
          go_enter Try.func18, Try.ntmps18
          go_wp2
          go_quiet (fail)
          go_wp2
          go_quiet (fail)
          go_wp2
          go_ret
          exact ⟨rfl, (by repeat' (first | with_reducible exact hb | with_reducible apply Blk.put | with_reducible apply Blk.drewN | with_reducible apply Blk.drew | rfl)), (by repeat' (first | with_reducible exact Mod.refl _ _ | with_reducible refine Mod.drewN ?_ _ | with_reducible refine Mod.drew ?_ | with_reducible refine Mod.setCell ?_ ?_ _ | exact Or.inl rfl))⟩
end Go.Proofs.Ytaflmnnnmbklfaa
