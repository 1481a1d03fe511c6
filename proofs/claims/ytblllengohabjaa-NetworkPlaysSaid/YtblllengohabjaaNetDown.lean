/-
  container/heap.down over network.queue.
-/
import Derived.Test.YtblllengohabjaaNetUp
namespace Go.Proofs.Ytblllengohabjaa
open Go.RowKit

/-- What holds at each round's head. -/
def DownRel (w : World) (B r n m c : Nat) (ps : List Pk) (i : Value) (wr : World) : Prop :=
  ∃ (k : Nat) (qs : List Pk), i = .int .i64 k ∧ k < n + 1 ∧ DownInv qs n k ∧ qs.Perm ps ∧ (∀ x, n ≤ x → pkAt qs x = pkAt ps x) ∧ QRow wr B (.slice (some ⟨r, 0, none⟩) m c) qs ∧ Mod (· = r) w wr

theorem swap_above {qs ps : List Pk} {n i j : Nat} (h : ∀ x, n ≤ x → pkAt qs x = pkAt ps x) (hi : i < n) (hj : j < n) (hn : n ≤ qs.length) : ∀ x, n ≤ x → pkAt (swapL qs i j) x = pkAt ps x := fun x hx => by
  rw [pkAt_swapL _ _ _ _ (by omega) (by omega), if_neg (by omega), if_neg (by omega)]
  exact h x hx

set_option maxHeartbeats 2000000 in
theorem heapDown (w : World) (g off B r c n : Nat) (ps : List Pk) (hcell : w.cell? ⟨g, off, none⟩ = some (.slice (some ⟨r, 0, none⟩) ps.length c)) (hgr : g ≠ r) (h : QRow w B (.slice (some ⟨r, 0, none⟩) ps.length c) ps) (hs : DataSl ps) (hi : DownInv ps n 0) (hnl : n < ps.length) (hn : ps.length ≤ 1000) :
    Calls Try.prog 27 #[.iface 57 (.pointer (some ⟨g, off, none⟩)), .int .i64 0, .int .i64 n] w fun e w' => ∃ (b : Bool) (qs : List Pk), e = .returned (.bool b) ∧ qs.Perm ps ∧ HeapTo qs n ∧ (∀ x, n ≤ x → pkAt qs x = pkAt ps x) ∧ QRow w' B (.slice (some ⟨r, 0, none⟩) ps.length c) qs ∧ Mod (· = r) w w' := by
  have hgl : g < w.heap.size := World.block_lt_of_cell? w _ hcell
  have hL : ∀ (k : Nat) (W : World), W.cell? ⟨g, off, none⟩ = some (.slice (some ⟨r, 0, none⟩) ps.length c) → (method (k + 1) 57 (.pointer (some ⟨g, off, none⟩)) "Less").run Try.prog W = .ok (45, .slice (some ⟨r, 0, none⟩) ps.length c) W := fun k W h => q_less k _ W _ _ _ h
  have hS : ∀ (k : Nat) (W : World), W.cell? ⟨g, off, none⟩ = some (.slice (some ⟨r, 0, none⟩) ps.length c) → (method (k + 1) 57 (.pointer (some ⟨g, off, none⟩)) "Swap").run Try.prog W = .ok (46, .slice (some ⟨r, 0, none⟩) ps.length c) W := fun k W h => q_swap k _ W _ _ _ h
  go_enter Try.func27, Try.ntmps27
  go_wp2_with fail
  go_loopw [7] (DownRel w B r n ps.length c ps) (fun i _ => n - (intOf i).toNat)
  case atStart => exact ⟨0, ps, rfl, by omega, hi, List.Perm.refl _, fun _ _ => rfl, h, Mod.refl _ _⟩
  case round =>
    obtain ⟨k, qs, rfl, hkn, hinv, hp, habove, hq, hM⟩ := hrel
    have hcr : wr.cell? ⟨g, off, none⟩ = some (.slice (some ⟨r, 0, none⟩) ps.length c) := (World.cell?_of_block (hM.block g hgl hgr)).trans hcell
    have HQ := Lib.hid hp.length_eq
    have HAB := Lib.hid habove
    clear hcell habove
    by_cases hk : n ≤ 2 * k + 1
    · have hk' : decide ((n : Int) ≤ 2 * (k : Int) + 1) = true := by simp; omega
      go_wp2_with fail
      go_ret
      exact ⟨_, qs, rfl, hp, hinv.stop0 hk, HAB.out, hq, hM⟩
    · have hk' : decide ((n : Int) ≤ 2 * (k : Int) + 1) = false := by simp; omega
      have hk'' : decide (2 * (k : Int) + 1 < 0) = false := by simp; omega
      have q1 := HQ.out
      have hb := lesser_bd qs n k (by omega)
      -- the rest of the round, once j is known
      by_cases h2 : 2 * k + 2 < n
      · have h2' : decide (2 * (k : Int) + 1 + 1 < (n : Int)) = true := by simp; omega
        clear q1
        go_wp2_with fail
        rw [show 2 * (k : Int) + 1 + 1 = ((2 * k + 2 : Nat) : Int) by omega, show 2 * (k : Int) + 1 = ((2 * k + 1 : Nat) : Int) by omega]
        refine (qLess _ B _ _ _ qs hq (2 * k + 2) (2 * k + 1) (by rw [HQ.out]; omega) (by rw [HQ.out]; omega) (by rw [HQ.out]; omega)).mono ?_
        rintro e w1 ⟨rfl, m, rfl⟩
        cases hlt' : plt (pkAt qs (2 * k + 2)) (pkAt qs (2 * k + 1)) with
        | false =>
          have HJ : Hid (lesser qs n k = 2 * k + 1) := if_neg (by rw [hlt']; simp)
          clear hlt' hb
          go_wp2_with fail
          refine (qLess _ B _ _ _ qs (hq.drewN _) (2 * k + 1) k (by rw [HQ.out]; omega) (by rw [HQ.out]; omega) (by rw [HQ.out]; omega)).mono ?_
          rintro e w1 ⟨rfl, m2, rfl⟩
          cases hlt2 : plt (pkAt qs (2 * k + 1)) (pkAt qs k) with
          | false =>
            have HL' := Lib.hid hlt2
            clear hlt2
            go_wp2_with fail
            go_ret
            exact ⟨_, qs, rfl, hp, hinv.stop (by rw [HJ.out]; exact HL'.out), HAB.out, hq.drewN _, hM.drewN _⟩
          | true =>
            have HL' := Lib.hid hlt2
            clear hlt2
            go_wp2_with fail
            have c1 := qSwap (wr.drewN (m + m2)) B r c qs (by have := hq.drewN (m + m2); rw [← HQ.out] at this; exact this) (hs.perm hp) k (2 * k + 1) (by rw [HQ.out]; omega) (by rw [HQ.out]; omega) (by rw [HQ.out]; omega)
            rw [HQ.out] at c1
            refine c1.mono ?_
            clear c1
            rintro e w2 ⟨rfl, hq2, hm2⟩
            go_wp2_with fail
            go_roundw
            case rel =>
              have hn := hinv.next (by rw [HQ.out]; omega) (by omega) (by rw [HJ.out]; exact HL'.out)
              rw [HJ.out] at hn
              exact ⟨2 * k + 1, _, rfl, by omega, hn, (perm_swapL _ _ _ (by rw [HQ.out]; omega) (by rw [HQ.out]; omega)).trans hp, swap_above HAB.out (by omega) (by omega) (by rw [HQ.out]; omega), hq2, (hM.drewN _).trans hm2⟩
            case measure => simp [intOf]; omega
        | true =>
          have HJ : Hid (lesser qs n k = 2 * k + 2) := if_pos ⟨h2, hlt'⟩
          clear hlt' hb
          go_wp2_with fail
          refine (qLess _ B _ _ _ qs (hq.drewN _) (2 * k + 2) k (by rw [HQ.out]; omega) (by rw [HQ.out]; omega) (by rw [HQ.out]; omega)).mono ?_
          rintro e w1 ⟨rfl, m2, rfl⟩
          cases hlt2 : plt (pkAt qs (2 * k + 2)) (pkAt qs k) with
          | false =>
            have HL' := Lib.hid hlt2
            clear hlt2
            go_wp2_with fail
            go_ret
            exact ⟨_, qs, rfl, hp, hinv.stop (by rw [HJ.out]; exact HL'.out), HAB.out, hq.drewN _, hM.drewN _⟩
          | true =>
            have HL' := Lib.hid hlt2
            clear hlt2
            go_wp2_with fail
            have c1 := qSwap (wr.drewN (m + m2)) B r c qs (by have := hq.drewN (m + m2); rw [← HQ.out] at this; exact this) (hs.perm hp) k (2 * k + 2) (by rw [HQ.out]; omega) (by rw [HQ.out]; omega) (by rw [HQ.out]; omega)
            rw [HQ.out] at c1
            refine c1.mono ?_
            clear c1
            rintro e w2 ⟨rfl, hq2, hm2⟩
            go_wp2_with fail
            go_roundw
            case rel =>
              have hn := hinv.next (by rw [HQ.out]; omega) (by omega) (by rw [HJ.out]; exact HL'.out)
              rw [HJ.out] at hn
              exact ⟨2 * k + 2, _, rfl, by omega, hn, (perm_swapL _ _ _ (by rw [HQ.out]; omega) (by rw [HQ.out]; omega)).trans hp, swap_above HAB.out (by omega) (by omega) (by rw [HQ.out]; omega), hq2, (hM.drewN _).trans hm2⟩
            case measure => simp [intOf]; omega
      · have h2' : decide (2 * (k : Int) + 1 + 1 < (n : Int)) = false := by simp; omega
        have HJ : Hid (lesser qs n k = 2 * k + 1) := if_neg (by omega)
        clear hb q1
        go_wp2_with fail
        rw [show 2 * (k : Int) + 1 + 1 = ((2 * k + 2 : Nat) : Int) by omega, show 2 * (k : Int) + 1 = ((2 * k + 1 : Nat) : Int) by omega]
        refine (qLess _ B _ _ _ qs hq (2 * k + 1) k (by rw [HQ.out]; omega) (by rw [HQ.out]; omega) (by rw [HQ.out]; omega)).mono ?_
        rintro e w1 ⟨rfl, m2, rfl⟩
        cases hlt2 : plt (pkAt qs (2 * k + 1)) (pkAt qs k) with
        | false =>
          have HL' := Lib.hid hlt2
          clear hlt2
          go_wp2_with fail
          go_ret
          exact ⟨_, qs, rfl, hp, hinv.stop (by rw [HJ.out]; exact HL'.out), HAB.out, hq.drewN _, hM.drewN _⟩
        | true =>
          have HL' := Lib.hid hlt2
          clear hlt2
          go_wp2_with fail
          have c1 := qSwap (wr.drewN m2) B r c qs (by have := hq.drewN m2; rw [← HQ.out] at this; exact this) (hs.perm hp) k (2 * k + 1) (by rw [HQ.out]; omega) (by rw [HQ.out]; omega) (by rw [HQ.out]; omega)
          rw [HQ.out] at c1
          refine c1.mono ?_
          clear c1
          rintro e w2 ⟨rfl, hq2, hm2⟩
          go_wp2_with fail
          go_roundw
          case rel =>
            have hn := hinv.next (by rw [HQ.out]; omega) (by omega) (by rw [HJ.out]; exact HL'.out)
            rw [HJ.out] at hn
            exact ⟨2 * k + 1, _, rfl, by omega, hn, (perm_swapL _ _ _ (by rw [HQ.out]; omega) (by rw [HQ.out]; omega)).trans hp, swap_above HAB.out (by omega) (by omega) (by rw [HQ.out]; omega), hq2, (hM.drewN _).trans hm2⟩
          case measure => simp [intOf]; omega
end Go.Proofs.Ytblllengohabjaa
