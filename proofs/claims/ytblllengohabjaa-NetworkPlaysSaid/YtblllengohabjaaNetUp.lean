/-
  container/heap.up over network.queue.
-/
import Derived.Test.YtblllengohabjaaNetSwap
namespace Go.Proofs.Ytblllengohabjaa
open Go.RowKit

/-- All packets' bytes lie in slices. -/
def DataSl (ps : List Pk) : Prop := ∀ p ∈ ps, ∃ A n c, p.data = .slice A n c
theorem DataSl.perm {ps qs : List Pk} (h : DataSl ps) (hp : qs.Perm ps) : DataSl qs := fun p hm => h p (hp.mem_iff.1 hm)

/-- What holds at each round's head. -/
def UpRel (w : World) (B r n c : Nat) (ps : List Pk) (j : Value) (wr : World) : Prop :=
  ∃ (k : Nat) (qs : List Pk), j = .int .i64 k ∧ UpInv qs n k ∧ qs.Perm ps ∧ QRow wr B (.slice (some ⟨r, 0, none⟩) n c) qs ∧ Mod (· = r) w wr

set_option maxHeartbeats 1000000 in
theorem heapUp (w : World) (g off B r c : Nat) (ps : List Pk) (j : Nat) (hcell : w.cell? ⟨g, off, none⟩ = some (.slice (some ⟨r, 0, none⟩) ps.length c)) (hgr : g ≠ r) (h : QRow w B (.slice (some ⟨r, 0, none⟩) ps.length c) ps) (hs : DataSl ps) (hi : UpInv ps ps.length j) (hn : ps.length ≤ 1000) :
    Calls Try.prog 23 #[.iface 57 (.pointer (some ⟨g, off, none⟩)), .int .i64 j] w fun e w' => ∃ qs : List Pk, e = .returned (.tuple #[]) ∧ qs.Perm ps ∧ Heap qs ∧ QRow w' B (.slice (some ⟨r, 0, none⟩) ps.length c) qs ∧ Mod (· = r) w w' := by
  have hgl : g < w.heap.size := World.block_lt_of_cell? w _ hcell
  have hL : ∀ (k : Nat) (W : World), W.cell? ⟨g, off, none⟩ = some (.slice (some ⟨r, 0, none⟩) ps.length c) → (method (k + 1) 57 (.pointer (some ⟨g, off, none⟩)) "Less").run Try.prog W = .ok (45, .slice (some ⟨r, 0, none⟩) ps.length c) W := fun k W h => q_less k _ W _ _ _ h
  have hS : ∀ (k : Nat) (W : World), W.cell? ⟨g, off, none⟩ = some (.slice (some ⟨r, 0, none⟩) ps.length c) → (method (k + 1) 57 (.pointer (some ⟨g, off, none⟩)) "Swap").run Try.prog W = .ok (46, .slice (some ⟨r, 0, none⟩) ps.length c) W := fun k W h => q_swap k _ W _ _ _ h
  have hlt := hi.lt
  go_enter Try.func23, Try.ntmps23
  go_wp2_with fail
  go_loopw [1] (UpRel w B r ps.length c ps) (fun j _ => (intOf j).toNat)
  case atStart => exact ⟨j, ps, rfl, hi, List.Perm.refl _, h, Mod.refl _ _⟩
  case round =>
    obtain ⟨k, qs, rfl, hinv, hp, hq, hM⟩ := hrel
    have hkl := hinv.lt
    have hcr : wr.cell? ⟨g, off, none⟩ = some (.slice (some ⟨r, 0, none⟩) ps.length c) := (World.cell?_of_block (hM.block g hgl hgr)).trans hcell
    have hql : qs.length = ps.length := hp.length_eq
    have HQ := Lib.hid hql
    clear hql hcell
    by_cases hk : k = 0
    · subst hk
      go_wp2_with fail
      go_end0
      exact ⟨qs, rfl, hp, by unfold Heap; rw [HQ.out]; exact hinv.stop0, hq, hM⟩
    · have hne : ((((k - 1) / 2 : Nat) : Int) == (k : Int)) = false := beq_eq_false_iff_ne.2 (by omega)
      have e : ((k : Int) - 1) / 2 = (((k - 1) / 2 : Nat) : Int) := by omega
      have hne' : (((k : Int) - 1) / 2 == (k : Int)) = false := by rw [e]; exact hne
      have E := Lib.hid e
      clear e
      go_wp2_with fail
      rw [E.out]
      have hq' : QRow wr B (.slice (some ⟨r, 0, none⟩) ps.length c) qs := hq
      refine (qLess _ B _ _ _ qs hq k ((k - 1) / 2) (by rw [HQ.out]; omega) (by rw [HQ.out]; omega) (by rw [HQ.out]; omega)).mono ?_
      rintro e w1 ⟨rfl, m, rfl⟩
      cases hlt' : plt (pkAt qs k) (pkAt qs ((k - 1) / 2)) with
      | false =>
        have HL' := Lib.hid hlt'
        clear hlt'
        go_wp2_with fail
        go_end0
        exact ⟨qs, rfl, hp, by unfold Heap; rw [HQ.out]; exact hinv.stop HL'.out, hq.drewN _, hM.drewN _⟩
      | true =>
        have HL' := Lib.hid hlt'
        clear hlt'
        go_wp2_with fail
        have c1 := qSwap (wr.drewN m) B r c qs (by have := hq.drewN m; rw [← HQ.out] at this; exact this) (hs.perm hp) ((k - 1) / 2) k (by rw [HQ.out]; omega) (by rw [HQ.out]; omega) (by rw [HQ.out]; omega)
        rw [HQ.out] at c1
        refine c1.mono ?_
        clear c1
        rintro e w2 ⟨rfl, hq2, hm2⟩
        go_wp2_with fail
        go_roundw
        case rel => exact ⟨(k - 1) / 2, _, rfl, hinv.next (by rw [HQ.out]; omega) (by omega) HL'.out, (perm_swapL _ _ _ (by rw [HQ.out]; omega) (by rw [HQ.out]; omega)).trans hp, hq2, (hM.drewN m).trans hm2⟩
        case measure => simp [intOf]; omega
end Go.Proofs.Ytblllengohabjaa
