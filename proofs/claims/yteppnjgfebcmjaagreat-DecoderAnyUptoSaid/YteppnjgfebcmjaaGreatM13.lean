/-
  syntax.Fits, and the closure of syntax.ParseHeader.
-/
import Derived.Test.YteppnjgfebcmjaaGreatM12
namespace Go.Proofs.YteppnjgfebcmjaaGreat
open Go.RowKit

def hdrFits (K : Bool) (N Q W H G : Int) : Bool := seqRight W H G && decide (0 ≤ Q ∧ Q ≤ 31 ∧ 0 ≤ N ∧ N < G) && (K == (N == 0))

set_option maxRecDepth 100000 in
set_option maxHeartbeats 2000000 in
theorem synFits_yes (w : World) (K : Bool) (N Q W H G : Int) (h : hdrFits K N Q W H G = true) : Calls Tryz.prog 57 #[.agg #[.bool K, .int .i64 N, .int .i64 Q], .agg #[.int .i64 W, .int .i64 H, .int .i64 G]] w fun e w' => e = .returned (.bool true) ∧ Mod (fun _ => False) w w' := by
  unfold hdrFits at h
  simp only [Bool.and_eq_true, decide_eq_true_eq] at h
  obtain ⟨⟨hr, a1, a2, a3, a4⟩, hk⟩ := h
  have hb2 : Blk (w.alloc (.cells #[.bool K, .int .i64 N, .int .i64 Q] 62)) w.heap.size 62 #[.bool K, .int .i64 N, .int .i64 Q] := Blk.new _ _ _
  have hb3 : Blk ((w.alloc (.cells #[.bool K, .int .i64 N, .int .i64 Q] 62)).alloc (.cells #[.int .i64 W, .int .i64 H, .int .i64 G] 43)) (w.alloc (.cells #[.bool K, .int .i64 N, .int .i64 Q] 62)).heap.size 43 #[.int .i64 W, .int .i64 H, .int .i64 G] := Blk.new _ _ _
  replace hb2 := hb2.alloc (.cells #[.int .i64 W, .int .i64 H, .int .i64 G] 43)
  have M : Mod (fun _ => False) w ((w.alloc (.cells #[.bool K, .int .i64 N, .int .i64 Q] 62)).alloc (.cells #[.int .i64 W, .int .i64 H, .int .i64 G] 43)) := ((Mod.refl _ _).alloc _).alloc _
  have e1 : (w.alloc (.cells #[.bool K, .int .i64 N, .int .i64 Q] 62)).heap.size = w.heap.size + 1 := by simp
  rw [e1] at hb3
  clear e1
  go_enter Tryz.func57, Tryz.ntmps57
  go_wp2_with fail
  generalize (w.alloc (.cells #[.bool K, .int .i64 N, .int .i64 Q] 62)).alloc (.cells #[.int .i64 W, .int .i64 H, .int .i64 G] 43) = w1 at *
  refine (synRight_yes _ W H G hr).mono ?_
  rintro e w2 ⟨rfl, m2⟩
  have M2 := M.trans m2
  obtain ⟨hc2, hf2⟩ := (hb2.keep m2 (fun h => h)).both
  obtain ⟨hc3, hf3⟩ := (hb3.keep m2 (fun h => h)).both
  clear hb2 hb3 M m2 hr
  go_wp2_with fail
  go_ret
  exact ⟨by simp, M2⟩

set_option maxRecDepth 100000 in
set_option maxHeartbeats 4000000 in
theorem synFits_no (w : World) (K : Bool) (N Q W H G : Int) (h : hdrFits K N Q W H G = false) : Calls Tryz.prog 57 #[.agg #[.bool K, .int .i64 N, .int .i64 Q], .agg #[.int .i64 W, .int .i64 H, .int .i64 G]] w fun e w' => e = .returned (.bool false) ∧ Mod (fun _ => False) w w' := by
  have hb2 : Blk (w.alloc (.cells #[.bool K, .int .i64 N, .int .i64 Q] 62)) w.heap.size 62 #[.bool K, .int .i64 N, .int .i64 Q] := Blk.new _ _ _
  have hb3 : Blk ((w.alloc (.cells #[.bool K, .int .i64 N, .int .i64 Q] 62)).alloc (.cells #[.int .i64 W, .int .i64 H, .int .i64 G] 43)) (w.alloc (.cells #[.bool K, .int .i64 N, .int .i64 Q] 62)).heap.size 43 #[.int .i64 W, .int .i64 H, .int .i64 G] := Blk.new _ _ _
  replace hb2 := hb2.alloc (.cells #[.int .i64 W, .int .i64 H, .int .i64 G] 43)
  have M : Mod (fun _ => False) w ((w.alloc (.cells #[.bool K, .int .i64 N, .int .i64 Q] 62)).alloc (.cells #[.int .i64 W, .int .i64 H, .int .i64 G] 43)) := ((Mod.refl _ _).alloc _).alloc _
  have e1 : (w.alloc (.cells #[.bool K, .int .i64 N, .int .i64 Q] 62)).heap.size = w.heap.size + 1 := by simp
  rw [e1] at hb3
  clear e1
  go_enter Tryz.func57, Tryz.ntmps57
  go_wp2_with fail
  generalize (w.alloc (.cells #[.bool K, .int .i64 N, .int .i64 Q] 62)).alloc (.cells #[.int .i64 W, .int .i64 H, .int .i64 G] 43) = w1 at *
  unfold hdrFits at h
  cases hr : seqRight W H G with
  | false =>
    refine (synRight_no _ W H G hr).mono ?_
    rintro e w2 ⟨rfl, m2⟩
    have M2 := M.trans m2
    obtain ⟨hc2, hf2⟩ := (hb2.keep m2 (fun h => h)).both
    obtain ⟨hc3, hf3⟩ := (hb3.keep m2 (fun h => h)).both
    clear hb2 hb3 M m2 hr
    go_wp2_with fail
    go_ret
    exact ⟨rfl, M2⟩
  | true =>
    rw [hr, Bool.true_and] at h
    refine (synRight_yes _ W H G hr).mono ?_
    rintro e w2 ⟨rfl, m2⟩
    have M2 := M.trans m2
    obtain ⟨hc2, hf2⟩ := (hb2.keep m2 (fun h => h)).both
    obtain ⟨hc3, hf3⟩ := (hb3.keep m2 (fun h => h)).both
    clear hb2 hb3 M m2 hr
    by_cases x1 : 0 ≤ Q ∧ Q ≤ 31 ∧ 0 ≤ N ∧ N < G
    · obtain ⟨a1, a2, a3, a4⟩ := x1
      have hk : (K == (N == 0)) = false := by
        simp only [a1, a2, a3, a4, and_self, decide_true, Bool.true_and] at h
        exact h
      clear h
      go_wp2_with fail
      go_ret
      exact ⟨by simp, M2⟩
    · clear h
      have y : Q < 0 ∨ 31 < Q ∨ N < 0 ∨ G ≤ N := by omega
      by_cases q1 : Q < 0
      · have z1 : decide (0 ≤ Q) = false := by simp; omega
        go_wp2_with fail
        go_ret
        exact ⟨rfl, M2⟩
      · have z1 : decide (0 ≤ Q) = true := by simp; omega
        by_cases q2 : 31 < Q
        · have z2 : decide (Q ≤ 31) = false := by simp; omega
          go_wp2_with fail
          go_ret
          exact ⟨rfl, M2⟩
        · have z2 : decide (Q ≤ 31) = true := by simp; omega
          by_cases q3 : N < 0
          · have z3 : decide (0 ≤ N) = false := by simp; omega
            go_wp2_with fail
            go_ret
            exact ⟨rfl, M2⟩
          · have z3 : decide (0 ≤ N) = true := by simp; omega
            have z4 : decide (N < G) = false := by simp; omega
            go_wp2_with fail
            go_ret
            exact ⟨rfl, M2⟩

theorem hnext_err (w : World) (eb rb : Nat) (n code : Int) (hc : code ≠ 0) (he : Blk w eb 28 #[.int .i64 code]) : Calls Tryz.prog 54 #[.int .i64 n, .pointer (some ⟨eb, 0, none⟩), .pointer (some ⟨rb, 0, none⟩)] w fun e w' => e = .returned (.int .i64 0) ∧ w = w' := by
  obtain ⟨hce, hfe⟩ := he.both
  have h1 : (code != 0) = true := by simp [hc]
  clear hc he
  go_enter Tryz.func54, Tryz.ntmps54
  go_wp2_with fail
  go_ret
  exact ⟨rfl, rfl⟩

/-- What the closure leaves: r is what was read (none: nothing); then the number and where it ends. -/
def HNextPost (w : World) (B eb rb g a : Nat) (l : List UInt8) (r : Option (Nat × Nat)) (e : Ending) (w' : World) : Prop :=
  Blk w' rb 95 #[.pointer (some ⟨g, 0, none⟩)] ∧ Mod (fun k => k = eb ∨ k = g) w w' ∧
  ((r = none ∧ (∃ code : Int, code ≠ 0 ∧ Blk w' eb 28 #[.int .i64 code]) ∧ ReadIs w' B g l a ∧ e = .returned (.int .i64 0)) ∨
   ∃ v a' : Nat, r = some (v, a') ∧ Blk w' eb 28 #[.int .i64 0] ∧ ReadIs w' B g l a' ∧ e = .returned (.int .i64 (v : Int)))
def bget (l : List UInt8) (a n : Nat) : Option (Nat × Nat) := if a + n ≤ 8 * l.length then some (numAt l a n, a + n) else none

set_option maxRecDepth 100000 in
set_option maxHeartbeats 2000000 in
theorem hnext_bits (w : World) (B eb rb g a n : Nat) (l : List UInt8) (hn0 : 0 < n) (hn : n ≤ 62) (he : Blk w eb 28 #[.int .i64 0]) (hr : Blk w rb 95 #[.pointer (some ⟨g, 0, none⟩)]) (hR : ReadIs w B g l a) :
    Calls Tryz.prog 54 #[.int .i64 (n : Int), .pointer (some ⟨eb, 0, none⟩), .pointer (some ⟨rb, 0, none⟩)] w (HNextPost w B eb rb g a l (bget l a n)) := by
  obtain ⟨A, c, hb, _⟩ := hR.ex
  have n1 : ¬ eb = g := he.ne_ hb (by decide)
  have n2 : ¬ rb = g := hr.ne_ hb (by decide)
  have n3 : ¬ rb = eb := hr.ne_ he (by decide)
  obtain ⟨hce, hfe⟩ := he.both
  obtain ⟨hcr, hfr⟩ := hr.both
  have HE := Lib.hid (And.intro he hr)
  clear he hr hb
  unfold bget
  by_cases hs : a + n ≤ 8 * l.length
  · rw [if_pos hs]
    go_enter Tryz.func54, Tryz.ntmps54
    go_wp2_with fail
    refine (bitsGet _ B g a n l hR (by omega) hs).mono ?_
    rintro e w1 ⟨rfl, hR1, hm⟩
    have he1 := HE.out.1.keep hm n1
    have hr1 := HE.out.2.keep hm n2
    obtain ⟨hce1, hfe1⟩ := he1.both
    have hl := he1.lt
    have hv : numAt l a n < 4611686018427387904 := Nat.lt_of_lt_of_le (numAt_lt l a n) (Nat.pow_le_pow_right (n := 2) (by omega) hn)
    have HF := Lib.hid (And.intro he1 (And.intro hr1 (And.intro hR1 hm)))
    clear he1 hr1 hR1 hm hR hce hfe hcr hfr
    go_wp2_with fail
    go_ret
    obtain ⟨z1, z2, z3, z4⟩ := HF.out
    refine ⟨z2.far n3 _, (z4.mono (fun _ h => .inr h)).setCell (p := ⟨eb, 0, none⟩) (.inl (.inl rfl)) _, .inr ⟨_, _, rfl, z1.put rfl, ?_, rfl⟩⟩
    exact z3.tmod (B' := 0) (T := fun t => t == 28) ((TMod.refl _ _ _).setCell z1 (Nat.zero_le _) (by decide) _) (by decide) (by decide)
  · rw [if_neg hs]
    go_enter Tryz.func54, Tryz.ntmps54
    go_wp2_with fail
    refine (bitsGet_short _ B g a n l hR (by omega) (by omega)).mono ?_
    rintro e w1 ⟨rfl, m, rfl⟩
    have hm : Mod (fun _ => False) w (w.drewN m) := (Mod.refl _ _).drewN _
    generalize w.drewN m = w1 at *
    have he1 := HE.out.1.keep hm (fun h => h)
    have hr1 := HE.out.2.keep hm (fun h => h)
    have hR1 := hR.quiet hm
    obtain ⟨hce1, hfe1⟩ := he1.both
    have hl := he1.lt
    have HF := Lib.hid (And.intro he1 (And.intro hr1 (And.intro hR1 hm)))
    clear he1 hr1 hR1 hm hR hce hfe hcr hfr
    go_wp2_with fail
    go_ret
    obtain ⟨z1, z2, z3, z4⟩ := HF.out
    refine ⟨z2.far n3 _, (z4.mono (fun _ h => h.elim)).setCell (p := ⟨eb, 0, none⟩) (.inl (.inl rfl)) _, .inl ⟨rfl, ⟨11, by decide, z1.put rfl⟩, ?_, rfl⟩⟩
    exact z3.tmod (B' := 0) (T := fun t => t == 28) ((TMod.refl _ _ _).setCell z1 (Nat.zero_le _) (by decide) _) (by decide) (by decide)

set_option maxRecDepth 100000 in
set_option maxHeartbeats 2000000 in
theorem hnext_gol (w : World) (B eb rb g a : Nat) (l : List UInt8) (he : Blk w eb 28 #[.int .i64 0]) (hr : Blk w rb 95 #[.pointer (some ⟨g, 0, none⟩)]) (hR : ReadIs w B g l a) :
    Calls Tryz.prog 54 #[.int .i64 0, .pointer (some ⟨eb, 0, none⟩), .pointer (some ⟨rb, 0, none⟩)] w (HNextPost w B eb rb g a l (gget l a 0 32)) := by
  obtain ⟨A, c, hb, _⟩ := hR.ex
  have n1 : ¬ eb = g := he.ne_ hb (by decide)
  have n2 : ¬ rb = g := hr.ne_ hb (by decide)
  have n3 : ¬ rb = eb := hr.ne_ he (by decide)
  obtain ⟨hce, hfe⟩ := he.both
  obtain ⟨hcr, hfr⟩ := hr.both
  have HE := Lib.hid (And.intro he hr)
  clear he hr hb
  go_enter Tryz.func54, Tryz.ntmps54
  go_wp2_with fail
  refine (golGet _ B g a l hR).mono ?_
  rintro e w1 (⟨code, hcode, rfl, hnone, hm⟩ | ⟨v, a', hsome, rfl, hR1, hm⟩)
  · have he1 := HE.out.1.keep hm (fun h => h)
    have hr1 := HE.out.2.keep hm (fun h => h)
    have hR1 := hR.quiet hm
    obtain ⟨hce1, hfe1⟩ := he1.both
    have hl := he1.lt
    have HF := Lib.hid (And.intro he1 (And.intro hr1 (And.intro hR1 (And.intro hm (And.intro hnone hcode)))))
    clear he1 hr1 hR1 hm hnone hcode hR hce hfe hcr hfr
    go_wp2_with fail
    go_ret
    obtain ⟨z1, z2, z3, z4, z5, z6⟩ := HF.out
    refine ⟨z2.far n3 _, (z4.mono (fun _ h => h.elim)).setCell (p := ⟨eb, 0, none⟩) (.inl (.inl rfl)) _, .inl ⟨z5, ⟨code, z6, z1.put rfl⟩, ?_, rfl⟩⟩
    exact z3.tmod (B' := 0) (T := fun t => t == 28) ((TMod.refl _ _ _).setCell z1 (Nat.zero_le _) (by decide) _) (by decide) (by decide)
  · have he1 := HE.out.1.keep hm n1
    have hr1 := HE.out.2.keep hm n2
    obtain ⟨hce1, hfe1⟩ := he1.both
    have hl := he1.lt
    have hv := gget_lt l a 0 32 v a' hsome (by omega)
    have HF := Lib.hid (And.intro he1 (And.intro hr1 (And.intro hR1 (And.intro hm hsome))))
    clear he1 hr1 hR1 hm hsome hR hce hfe hcr hfr
    go_wp2_with fail
    go_ret
    obtain ⟨z1, z2, z3, z4, z5⟩ := HF.out
    refine ⟨z2.far n3 _, (z4.mono (fun _ h => .inr h)).setCell (p := ⟨eb, 0, none⟩) (.inl (.inl rfl)) _, .inr ⟨v, a', z5, z1.put rfl, ?_, rfl⟩⟩
    exact z3.tmod (B' := 0) (T := fun t => t == 28) ((TMod.refl _ _ _).setCell z1 (Nat.zero_le _) (by decide) _) (by decide) (by decide)
end Go.Proofs.YteppnjgfebcmjaaGreat
