/-
  syntax.Right, and the closure of syntax.ParseSequence.
-/
import Derived.Test.YteppnjgfebcmjaaGreatM10
namespace Go.Proofs.YteppnjgfebcmjaaGreat
open Go.RowKit

def seqRight (W H G : Int) : Bool := decide ((16 ≤ W ∧ W ≤ 4096 ∧ W % 16 = 0) ∧ (16 ≤ H ∧ H ≤ 4096 ∧ H % 16 = 0) ∧ 1 ≤ G ∧ G ≤ 64)

set_option maxRecDepth 100000 in
set_option maxHeartbeats 1000000 in
theorem synRight_yes (w : World) (W H G : Int) (h : seqRight W H G = true) : Calls Tryz.prog 98 #[.agg #[.int .i64 W, .int .i64 H, .int .i64 G]] w fun e w' => e = .returned (.bool true) ∧ Mod (fun _ => False) w w' := by
  unfold seqRight at h
  simp only [decide_eq_true_eq] at h
  obtain ⟨⟨a1, a2, a3⟩, ⟨b1, b2, b3⟩, c1, c2⟩ := h
  have a4 : (W % 16 != 0) = false := by rw [a3]; rfl
  have b4 : (H % 16 != 0) = false := by rw [b3]; rfl
  clear a3 b3
  have ix0 : ∀ w, (Instr.index 198 (.agg #[.int .i64 W, .int .i64 H]) (.int .i64 0)).run Tryz.prog w = .ok (.int .i64 W) w := fun _ => by kernel_rfl
  have ix1 : ∀ w, (Instr.index 198 (.agg #[.int .i64 W, .int .i64 H]) (.int .i64 1)).run Tryz.prog w = .ok (.int .i64 H) w := fun _ => by kernel_rfl
  go_enter Tryz.func98, Tryz.ntmps98
  go_wp2_with fail
  refine wp_loop_rounds 3 ?_; rw [rounds_succ]
  go_wp2_with fail
  rw [rounds_succ]
  go_wp2_with fail
  rw [rounds_succ]
  go_wp2_with fail
  go_ret
  exact ⟨rfl, (Mod.refl _ _).alloc _⟩

set_option maxRecDepth 100000 in
set_option maxHeartbeats 2000000 in
theorem synRight_no (w : World) (W H G : Int) (h : seqRight W H G = false) : Calls Tryz.prog 98 #[.agg #[.int .i64 W, .int .i64 H, .int .i64 G]] w fun e w' => e = .returned (.bool false) ∧ Mod (fun _ => False) w w' := by
  unfold seqRight at h
  simp only [decide_eq_false_iff_not] at h
  have ix0 : ∀ w, (Instr.index 198 (.agg #[.int .i64 W, .int .i64 H]) (.int .i64 0)).run Tryz.prog w = .ok (.int .i64 W) w := fun _ => by kernel_rfl
  have ix1 : ∀ w, (Instr.index 198 (.agg #[.int .i64 W, .int .i64 H]) (.int .i64 1)).run Tryz.prog w = .ok (.int .i64 H) w := fun _ => by kernel_rfl
  by_cases hW : 16 ≤ W ∧ W ≤ 4096 ∧ W % 16 = 0
  · obtain ⟨a1, a2, a3⟩ := hW
    have a4 : (W % 16 != 0) = false := by rw [a3]; rfl
    by_cases hH : 16 ≤ H ∧ H ≤ 4096 ∧ H % 16 = 0
    · obtain ⟨b1, b2, b3⟩ := hH
      have b4 : (H % 16 != 0) = false := by rw [b3]; rfl
      have hG : G < 1 ∨ 64 < G := by omega
      clear h a3 b3
      go_enter Tryz.func98, Tryz.ntmps98
      go_wp2_with fail
      refine wp_loop_rounds 3 ?_; rw [rounds_succ]
      go_wp2_with fail
      rw [rounds_succ]
      go_wp2_with fail
      rw [rounds_succ]
      rcases hG with hG | hG
      · have g1 : decide (1 ≤ G) = false := by simp; omega
        go_wp2_with fail
        go_ret
        exact ⟨rfl, (Mod.refl _ _).alloc _⟩
      · have g1 : decide (1 ≤ G) = true := by simp; omega
        have g2 : decide (G ≤ 64) = false := by simp; omega
        go_wp2_with fail
        go_ret
        exact ⟨rfl, (Mod.refl _ _).alloc _⟩
    · have hH' : H < 16 ∨ 4096 < H ∨ (16 ≤ H ∧ H ≤ 4096 ∧ (H % 16 != 0) = true) := by
        by_cases x1 : H < 16
        · exact .inl x1
        · by_cases x2 : 4096 < H
          · exact .inr (.inl x2)
          · exact .inr (.inr ⟨by omega, by omega, by simp; omega⟩)
      clear h a3 hH
      go_enter Tryz.func98, Tryz.ntmps98
      go_wp2_with fail
      refine wp_loop_rounds 3 ?_; rw [rounds_succ]
      go_wp2_with fail
      rw [rounds_succ]
      rcases hH' with hH | hH | ⟨h1, h2, h3⟩
      all_goals
        go_wp2_with fail
        go_ret
        exact ⟨rfl, (Mod.refl _ _).alloc _⟩
  · have hW' : W < 16 ∨ 4096 < W ∨ (16 ≤ W ∧ W ≤ 4096 ∧ (W % 16 != 0) = true) := by
      by_cases x1 : W < 16
      · exact .inl x1
      · by_cases x2 : 4096 < W
        · exact .inr (.inl x2)
        · exact .inr (.inr ⟨by omega, by omega, by simp; omega⟩)
    clear h hW
    go_enter Tryz.func98, Tryz.ntmps98
    go_wp2_with fail
    refine wp_loop_rounds 3 ?_; rw [rounds_succ]
    rcases hW' with hW | hW | ⟨h1, h2, h3⟩
    all_goals
      go_wp2_with fail
      go_ret
      exact ⟨rfl, (Mod.refl _ _).alloc _⟩

/-- The closure: behind an error nothing; else the next number, one more. -/
def SNextPost (w : World) (B eb rb g a : Nat) (l : List UInt8) (e : Ending) (w' : World) : Prop :=
  Blk w' rb 95 #[.pointer (some ⟨g, 0, none⟩)] ∧ Mod (fun k => k = eb ∨ k = g) w w' ∧
  ((gget l a 0 32 = none ∧ (∃ code : Int, code ≠ 0 ∧ Blk w' eb 28 #[.int .i64 code]) ∧ ReadIs w' B g l a ∧ e = .returned (.int .i64 1)) ∨
   ∃ v a' : Nat, gget l a 0 32 = some (v, a') ∧ Blk w' eb 28 #[.int .i64 0] ∧ ReadIs w' B g l a' ∧ e = .returned (.int .i64 ((v : Int) + 1)))
theorem snext_err (w : World) (eb rb : Nat) (code : Int) (hc : code ≠ 0) (he : Blk w eb 28 #[.int .i64 code]) : Calls Tryz.prog 97 #[.pointer (some ⟨eb, 0, none⟩), .pointer (some ⟨rb, 0, none⟩)] w fun e w' => e = .returned (.int .i64 0) ∧ w = w' := by
  obtain ⟨hce, hfe⟩ := he.both
  have h1 : (code != 0) = true := by simp [hc]
  clear hc he
  go_enter Tryz.func97, Tryz.ntmps97
  go_wp2_with fail
  go_ret
  exact ⟨rfl, rfl⟩
theorem gget_lt (l : List UInt8) (a n f v a' : Nat) (h : gget l a n f = some (v, a')) (hf : n + f ≤ 32) : v < 4294967296 := by
  induction f generalizing n with
  | zero => cases h
  | succ f ih =>
    rw [gget] at h
    split at h
    · split at h
      · exact ih (n + 1) h (by omega)
      · split at h
        · injection h with h
          injection h with h1 h2
          have h3 := numAt_lt l (a + n + 1) n
          have h4 : 2 ^ n ≤ 2 ^ 31 := Nat.pow_le_pow_right (by omega) (by omega)
          omega
        · cases h
    · cases h

set_option maxRecDepth 100000 in
set_option maxHeartbeats 1000000 in
theorem snext_ok (w : World) (B eb rb g a : Nat) (l : List UInt8) (he : Blk w eb 28 #[.int .i64 0]) (hr : Blk w rb 95 #[.pointer (some ⟨g, 0, none⟩)]) (hR : ReadIs w B g l a) :
    Calls Tryz.prog 97 #[.pointer (some ⟨eb, 0, none⟩), .pointer (some ⟨rb, 0, none⟩)] w (SNextPost w B eb rb g a l) := by
  obtain ⟨A, c, hb, _⟩ := hR.ex
  have n1 : ¬ eb = g := he.ne_ hb (by decide)
  have n2 : ¬ rb = g := hr.ne_ hb (by decide)
  have n3 : ¬ rb = eb := hr.ne_ he (by decide)
  obtain ⟨hce, hfe⟩ := he.both
  obtain ⟨hcr, hfr⟩ := hr.both
  have HE := Lib.hid (And.intro he hr)
  clear he hr hb
  go_enter Tryz.func97, Tryz.ntmps97
  go_wp2_with fail
  refine (golGet _ B g a l hR).mono ?_
  rintro e w1 (⟨code, hcode, rfl, hnone, hm⟩ | ⟨v, a', hsome, rfl, hR1, hm⟩)
  · have he1 := HE.out.1.keep hm (fun h => h)
    have hr1 := HE.out.2.keep hm (fun h => h)
    have hR1 := hR.quiet hm
    obtain ⟨hce1, hfe1⟩ := he1.both
    have hl := he1.lt
    have HF := Lib.hid (And.intro he1 (And.intro hr1 (And.intro hR1 (And.intro hm (And.intro hnone hcode)))))
    clear he1 hr1 hR1 hm hnone hcode hR hce hfe hcr hfr
    go_wp2_with fail
    go_ret
    obtain ⟨z1, z2, z3, z4, z5, z6⟩ := HF.out
    refine ⟨z2.far n3 _, (z4.mono (fun _ h => h.elim)).setCell (p := ⟨eb, 0, none⟩) (.inl (.inl rfl)) _, .inl ⟨z5, ⟨code, z6, z1.put rfl⟩, ?_, rfl⟩⟩
    exact z3.tmod (B' := 0) (T := fun t => t == 28) ((TMod.refl _ _ _).setCell z1 (Nat.zero_le _) (by decide) _) (by decide) (by decide)
  · have he1 := HE.out.1.keep hm n1
    have hr1 := HE.out.2.keep hm n2
    obtain ⟨hce1, hfe1⟩ := he1.both
    have hl := he1.lt
    have hv := gget_lt l a 0 32 v a' hsome (by omega)
    have HF := Lib.hid (And.intro he1 (And.intro hr1 (And.intro hR1 (And.intro hm hsome))))
    clear he1 hr1 hR1 hm hsome hR hce hfe hcr hfr
    go_wp2_with fail
    go_ret
    obtain ⟨z1, z2, z3, z4, z5⟩ := HF.out
    refine ⟨z2.far n3 _, (z4.mono (fun _ h => .inr h)).setCell (p := ⟨eb, 0, none⟩) (.inl (.inl rfl)) _, .inr ⟨v, a', z5, z1.put rfl, ?_, rfl⟩⟩
    exact z3.tmod (B' := 0) (T := fun t => t == 28) ((TMod.refl _ _ _).setCell z1 (Nat.zero_le _) (by decide) _) (by decide) (by decide)
end Go.Proofs.YteppnjgfebcmjaaGreat
