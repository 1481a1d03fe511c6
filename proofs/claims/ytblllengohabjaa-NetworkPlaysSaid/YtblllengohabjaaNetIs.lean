/-
  network.Network: what it is in memory; New, Tick, Now, Len.
-/
import Derived.Test.YtblllengohabjaaNetPop
import Derived.Test.YtblllengohabjaaTMod
import Derived.Test.YtblllengohabjaaNetBend
namespace Go.Proofs.Ytblllengohabjaa
open Go.RowKit

/-- All packets' bytes lie as they are said to. -/
def DataOk (w : World) (B : Nat) (ps : List Pk) : Prop := ∀ p ∈ ps, Bytes w B p.data p.bytes
theorem DataOk.sl {w : World} {B : Nat} {ps : List Pk} (h : DataOk w B ps) : DataSl ps := fun p hp => by
  obtain ⟨A, c, e⟩ := own_shape (h p hp)
  exact ⟨A, _, c, e⟩
theorem DataOk.perm {w : World} {B : Nat} {ps qs : List Pk} (h : DataOk w B ps) (hp : qs.Perm ps) : DataOk w B qs := fun p hm => h p (hp.mem_iff.1 hm)
theorem DataOk.tmod {B B' : Nat} {T : TypeId → Bool} {w w' : World} {ps : List Pk} (h : DataOk w B ps) (hm : TMod B' T w w') (hT : T 5 = false) : DataOk w' B ps := fun p hp => own_tmod (h p hp) hm hT

/-- The types of the blocks that a network turns. -/
def netT (t : TypeId) : Bool := t == 55 || t == 60

/-- Block g is a network: its time, how many were sent, the packets to either side (in whatever order). -/
structure NetIs (w : World) (B g : Nat) (t s : Int) (P0 P1 : List Pk) : Prop where
  base : B ≤ g
  ex : ∃ (v0 v1 : Value) (q0 q1 : List Pk), Blk w g 55 #[.int .i64 t, .int .i64 s, v0, v1] ∧ QRow w B v0 q0 ∧ QRow w B v1 q1 ∧ q0.Perm P0 ∧ q1.Perm P1 ∧ Heap q0 ∧ Heap q1 ∧ DataOk w B q0 ∧ DataOk w B q1 ∧ ∀ k, v0.ownBlock = some k → v1.ownBlock ≠ some k
  few : P0.length + P1.length ≤ 200
  time : 0 ≤ t ∧ t ≤ 1099511627776
  sent : 0 ≤ s ∧ s ≤ 1099511627776

theorem NetIs.tmod {B B' g : Nat} {T : TypeId → Bool} {w w' : World} {t s : Int} {P0 P1 : List Pk} (h : NetIs w B g t s P0 P1) (hm : TMod B' T w w') (h1 : T 55 = false) (h2 : T 60 = false) (h3 : T 5 = false) : NetIs w' B g t s P0 P1 := by
  obtain ⟨hb, ⟨v0, v1, q0, q1, a1, a2, a3, a4, a5, a6, a7, a8, a9, a10⟩, hf, ht, hs⟩ := h
  exact ⟨hb, ⟨v0, v1, q0, q1, a1.tmod hm h1, own_tmod a2 hm h2, own_tmod a3 hm h2, a4, a5, a6, a7, a8.tmod hm h3, a9.tmod hm h3, a10⟩, hf, ht, hs⟩
theorem NetIs.quiet {B g : Nat} {w w' : World} {t s : Int} {P0 P1 : List Pk} (h : NetIs w B g t s P0 P1) (hm : Mod (fun _ => False) w w') : NetIs w' B g t s P0 P1 := h.tmod (B' := 0) (T := fun _ => false) (.of_quiet hm) rfl rfl rfl
theorem NetIs.lt {B g : Nat} {w : World} {t s : Int} {P0 P1 : List Pk} (h : NetIs w B g t s P0 P1) : g < w.heap.size := by
  obtain ⟨v0, v1, q0, q1, a1, _⟩ := h.ex
  exact a1.lt

theorem netNew (w : World) (B : Nat) (hB : B ≤ w.heap.size) : Calls Try.prog 8 #[] w fun e w' => e = .returned (.pointer (some ⟨w.heap.size, 0, none⟩)) ∧ NetIs w' B w.heap.size 0 0 [] [] ∧ Mod (fun _ => False) w w' ∧ w'.heap.size = w.heap.size + 1 := by
  go_enter Try.func8, Try.ntmps8
  go_wp2
  go_ret
  refine ⟨rfl, ⟨hB, ⟨.slice none 0 0, .slice none 0 0, [], [], Blk.new _ _ _, World.ownsRow_nil _ _ _ _, World.ownsRow_nil _ _ _ _, List.Perm.refl _, List.Perm.refl _, fun k h0 hk => ?_, fun k h0 hk => ?_, fun p hp => ?_, fun p hp => ?_, fun k hk => ?_⟩, by simp, by omega, by omega⟩, (Mod.refl _ _).alloc _, by simp⟩
  · simp at hk
  · simp at hk
  · cases hp
  · cases hp
  · simp [Value.ownBlock] at hk

theorem tick_nil (w : World) : Calls Try.prog 12 #[.pointer none] w fun e w' => e = .returned (.int .i64 1) ∧ w = w' := by
  go_enter Try.func12, Try.ntmps12
  go_wp2
  go_ret
  exact ⟨rfl, rfl⟩
theorem now_nil (w : World) : Calls Try.prog 15 #[.pointer none] w fun e w' => e = .returned (.int .i64 0) ∧ w = w' := by
  go_enter Try.func15, Try.ntmps15
  go_wp2
  go_ret
  exact ⟨rfl, rfl⟩
theorem nlen_nil (w : World) : Calls Try.prog 16 #[.pointer none] w fun e w' => e = .returned (.int .i64 0) ∧ w = w' := by
  go_enter Try.func16, Try.ntmps16
  go_wp2
  go_ret
  exact ⟨rfl, rfl⟩

theorem netTick (w : World) (B g : Nat) (t s : Int) (P0 P1 : List Pk) (h : NetIs w B g t s P0 P1) (ht : t < 1099511627776) : Calls Try.prog 12 #[.pointer (some ⟨g, 0, none⟩)] w fun e w' => e = .returned (.int .i64 0) ∧ NetIs w' B g (t + 1) s P0 P1 ∧ TMod B netT w w' := by
  obtain ⟨hb, ⟨v0, v1, q0, q1, a1, a2, a3, a4, a5, a6, a7, a8, a9, a10⟩, hfw, ht2, hs⟩ := h
  obtain ⟨hc, hf⟩ := a1.both
  go_enter Try.func12, Try.ntmps12
  go_wp2
  go_ret
  have M : Mod (· = g) w (w.setCell ⟨g, 0, none⟩ (.int .i64 (t + 1))) := (Mod.refl (· = g) w).setCell (by exact .inl rfl) _
  have T1 : TMod B netT w (w.setCell ⟨g, 0, none⟩ (.int .i64 (t + 1))) := (TMod.refl _ _ _).setCell a1 hb (by decide) _
  have n2 : ∀ (v : Value) (q : List Pk), QRow w B v q → ∀ k, v.ownBlock = some k → ¬ k = g := fun v q hq k hk e => own_ne_blk hq a1 (by decide) (by rw [hk, e])
  exact ⟨rfl, ⟨hb, ⟨v0, v1, q0, q1, a1.set_ 0 _, own_mod a2 M (n2 _ _ a2), own_mod a3 M (n2 _ _ a3), a4, a5, a6, a7, a8.tmod T1 (by decide), a9.tmod T1 (by decide), a10⟩, hfw, by omega, hs⟩, T1⟩

theorem netNow (w : World) (B g : Nat) (t s : Int) (P0 P1 : List Pk) (h : NetIs w B g t s P0 P1) : Calls Try.prog 15 #[.pointer (some ⟨g, 0, none⟩)] w fun e w' => e = .returned (.int .i64 t) ∧ w = w' := by
  obtain ⟨v0, v1, q0, q1, a1, _⟩ := h.ex
  obtain ⟨hc, hf⟩ := a1.both
  go_enter Try.func15, Try.ntmps15
  go_wp2
  go_ret
  exact ⟨rfl, rfl⟩

set_option maxHeartbeats 400000 in
theorem netLen (w : World) (B g : Nat) (t s : Int) (P0 P1 : List Pk) (h : NetIs w B g t s P0 P1) : Calls Try.prog 16 #[.pointer (some ⟨g, 0, none⟩)] w fun e w' => e = .returned (.int .i64 ((P0.length + P1.length : Nat) : Int)) ∧ w = w' := by
  obtain ⟨hb, ⟨v0, v1, q0, q1, a1, a2, a3, a4, a5, _⟩, hfw, _, _⟩ := h
  obtain ⟨A0, c0, rfl⟩ := a2.form
  obtain ⟨A1, c1, rfl⟩ := a3.form
  rw [← a4.length_eq, ← a5.length_eq] at hfw ⊢
  obtain ⟨hc, hf⟩ := a1.both
  clear a4 a5
  go_enter Try.func16, Try.ntmps16
  go_wp2_with fail
  refine wp_loop_rounds 3 ?_; rw [rounds_succ]
  go_wp2_with fail
  refine (qLen _ _ _ _).mono ?_
  rintro e w2 ⟨rfl, rfl⟩
  go_wp2_with fail
  rw [rounds_succ]
  go_wp2_with fail
  refine (qLen _ _ _ _).mono ?_
  rintro e w2 ⟨rfl, rfl⟩
  go_wp2_with fail
  rw [rounds_succ]
  go_wp2_with fail
  go_ret
  exact ⟨rfl, rfl⟩
end Go.Proofs.Ytblllengohabjaa
