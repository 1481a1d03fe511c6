/-
  syntax.Fits, and the closure of syntax.ParseHeader.
-/
import Derived.Test.YtmkopcojnibhlaaGreatDoorM19
namespace Go.Proofs.YtmkopcojnibhlaaGreatDoor
open Go.RowKit

def hdrFits (K : Bool) (N Q W H G : Int) : Bool := seqRight W H G && decide (0 ≤ Q ∧ Q ≤ 31 ∧ 0 ≤ N ∧ N < G) && (K == (N == 0))

set_option maxRecDepth 100000 in
set_option maxHeartbeats 2000000 in
theorem synFits_yes (w : World) (K : Bool) (N Q W H G : Int) (h : hdrFits K N Q W H G = true) : Calls Tryz.prog 77 #[.agg #[.bool K, .int .i64 N, .int .i64 Q], .agg #[.int .i64 W, .int .i64 H, .int .i64 G]] w fun e w' => e = .returned (.bool true) ∧ Mod (fun _ => False) w w' := by
  unfold hdrFits at h
  simp only [Bool.and_eq_true, decide_eq_true_eq] at h
  obtain ⟨⟨hr, a1, a2, a3, a4⟩, hk⟩ := h
  have hb2 : Blk (w.alloc (.cells #[.bool K, .int .i64 N, .int .i64 Q] 82)) w.heap.size 82 #[.bool K, .int .i64 N, .int .i64 Q] := Blk.new _ _ _
  have hb3 : Blk ((w.alloc (.cells #[.bool K, .int .i64 N, .int .i64 Q] 82)).alloc (.cells #[.int .i64 W, .int .i64 H, .int .i64 G] 23)) (w.alloc (.cells #[.bool K, .int .i64 N, .int .i64 Q] 82)).heap.size 23 #[.int .i64 W, .int .i64 H, .int .i64 G] := Blk.new _ _ _
  replace hb2 := hb2.alloc (.cells #[.int .i64 W, .int .i64 H, .int .i64 G] 23)
  have M : Mod (fun _ => False) w ((w.alloc (.cells #[.bool K, .int .i64 N, .int .i64 Q] 82)).alloc (.cells #[.int .i64 W, .int .i64 H, .int .i64 G] 23)) := ((Mod.refl _ _).alloc _).alloc _
  have e1 : (w.alloc (.cells #[.bool K, .int .i64 N, .int .i64 Q] 82)).heap.size = w.heap.size + 1 := by simp
  rw [e1] at hb3
  clear e1
  go_enter Tryz.func77, Tryz.ntmps77
  go_wp2_with fail
  generalize (w.alloc (.cells #[.bool K, .int .i64 N, .int .i64 Q] 82)).alloc (.cells #[.int .i64 W, .int .i64 H, .int .i64 G] 23) = w1 at *
  refine (synRight_yes _ W H G hr).mono ?_
  rintro e w2 ⟨rfl, m2⟩
  have M2 := M.trans m2
  obtain ⟨hc2, hf2⟩ := (hb2.keep m2 (fun h => h)).both
  obtain ⟨hc3, hf3⟩ := (hb3.keep m2 (fun h => h)).both
  clear hb2 hb3 M m2 hr
  go_wp2_with fail
  go_ret
  exact ⟨by simp, M2⟩

set_option maxRecDepth 100000 in
set_option maxHeartbeats 4000000 in
theorem synFits_no (w : World) (K : Bool) (N Q W H G : Int) (h : hdrFits K N Q W H G = false) : Calls Tryz.prog 77 #[.agg #[.bool K, .int .i64 N, .int .i64 Q], .agg #[.int .i64 W, .int .i64 H, .int .i64 G]] w fun e w' => e = .returned (.bool false) ∧ Mod (fun _ => False) w w' := by
  have hb2 : Blk (w.alloc (.cells #[.bool K, .int .i64 N, .int .i64 Q] 82)) w.heap.size 82 #[.bool K, .int .i64 N, .int .i64 Q] := Blk.new _ _ _
  have hb3 : Blk ((w.alloc (.cells #[.bool K, .int .i64 N, .int .i64 Q] 82)).alloc (.cells #[.int .i64 W, .int .i64 H, .int .i64 G] 23)) (w.alloc (.cells #[.bool K, .int .i64 N, .int .i64 Q] 82)).heap.size 23 #[.int .i64 W, .int .i64 H, .int .i64 G] := Blk.new _ _ _
  replace hb2 := hb2.alloc (.cells #[.int .i64 W, .int .i64 H, .int .i64 G] 23)
  have M : Mod (fun _ => False) w ((w.alloc (.cells #[.bool K, .int .i64 N, .int .i64 Q] 82)).alloc (.cells #[.int .i64 W, .int .i64 H, .int .i64 G] 23)) := ((Mod.refl _ _).alloc _).alloc _
  have e1 : (w.alloc (.cells #[.bool K, .int .i64 N, .int .i64 Q] 82)).heap.size = w.heap.size + 1 := by simp
  rw [e1] at hb3
  clear e1
  go_enter Tryz.func77, Tryz.ntmps77
  go_wp2_with fail
  generalize (w.alloc (.cells #[.bool K, .int .i64 N, .int .i64 Q] 82)).alloc (.cells #[.int .i64 W, .int .i64 H, .int .i64 G] 23) = w1 at *
  unfold hdrFits at h
  cases hr : seqRight W H G with
  | false =>
    refine (synRight_no _ W H G hr).mono ?_
    rintro e w2 ⟨rfl, m2⟩
    have M2 := M.trans m2
    obtain ⟨hc2, hf2⟩ := (hb2.keep m2 (fun h => h)).both
    obtain ⟨hc3, hf3⟩ := (hb3.keep m2 (fun h => h)).both
    clear hb2 hb3 M m2 hr
    go_wp2_with fail
    go_ret
    exact ⟨rfl, M2⟩
  | true =>
    rw [hr, Bool.true_and] at h
    refine (synRight_yes _ W H G hr).mono ?_
    rintro e w2 ⟨rfl, m2⟩
    have M2 := M.trans m2
    obtain ⟨hc2, hf2⟩ := (hb2.keep m2 (fun h => h)).both
    obtain ⟨hc3, hf3⟩ := (hb3.keep m2 (fun h => h)).both
    clear hb2 hb3 M m2 hr
    by_cases x1 : 0 ≤ Q ∧ Q ≤ 31 ∧ 0 ≤ N ∧ N < G
    · obtain ⟨a1, a2, a3, a4⟩ := x1
      have hk : (K == (N == 0)) = false := by
        simp only [a1, a2, a3, a4, and_self, decide_true, Bool.true_and] at h
        exact h
      clear h
      go_wp2_with fail
      go_ret
      exact ⟨by simp, M2⟩
    · clear h
      have y : Q < 0 ∨ 31 < Q ∨ N < 0 ∨ G ≤ N := by omega
      by_cases q1 : Q < 0
      · have z1 : decide (0 ≤ Q) = false := by simp; omega
        go_wp2_with fail
        go_ret
        exact ⟨rfl, M2⟩
      · have z1 : decide (0 ≤ Q) = true := by simp; omega
        by_cases q2 : 31 < Q
        · have z2 : decide (Q ≤ 31) = false := by simp; omega
          go_wp2_with fail
          go_ret
          exact ⟨rfl, M2⟩
        · have z2 : decide (Q ≤ 31) = true := by simp; omega
          by_cases q3 : N < 0
          · have z3 : decide (0 ≤ N) = false := by simp; omega
            go_wp2_with fail
            go_ret
            exact ⟨rfl, M2⟩
          · have z3 : decide (0 ≤ N) = true := by simp; omega
            have z4 : decide (N < G) = false := by simp; omega
            go_wp2_with fail
            go_ret
            exact ⟨rfl, M2⟩

theorem hnext_err (w : World) (eb rb : Nat) (n code : Int) (hc : code ≠ 0) (he : Blk w eb 30 #[.int .i64 code]) : Calls Tryz.prog 74 #[.int .i64 n, .pointer (some ⟨eb, 0, none⟩), .pointer (some ⟨rb, 0, none⟩)] w fun e w' => e = .returned (.int .i64 0) ∧ w = w' := by
  obtain ⟨hce, hfe⟩ := he.both
  have h1 : (code != 0) = true := by simp [hc]
  clear hc he
  go_enter Tryz.func74, Tryz.ntmps74
  go_wp2_with fail
  go_ret
  exact ⟨rfl, rfl⟩

/-- What the closure leaves: r is what was read (none: nothing); then the number and where it ends. -/
def HNextPost (w : World) (B eb rb g a : Nat) (l : List UInt8) (r : Option (Nat × Nat)) (e : Ending) (w' : World) : Prop :=
  Blk w' rb 127 #[.pointer (some ⟨g, 0, none⟩)] ∧ Mod (fun k => k = eb ∨ k = g) w w' ∧
  ((r = none ∧ (∃ code : Int, code ≠ 0 ∧ Blk w' eb 30 #[.int .i64 code]) ∧ ReadIs w' B g l a ∧ e = .returned (.int .i64 0)) ∨
   ∃ v a' : Nat, r = some (v, a') ∧ Blk w' eb 30 #[.int .i64 0] ∧ ReadIs w' B g l a' ∧ e = .returned (.int .i64 (v : Int)))
def bget (l : List UInt8) (a n : Nat) : Option (Nat × Nat) := if a + n ≤ 8 * l.length then some (numAt l a n, a + n) else none

set_option maxRecDepth 100000 in
set_option maxHeartbeats 2000000 in
theorem hnext_bits (w : World) (B eb rb g a n : Nat) (l : List UInt8) (hn0 : 0 < n) (hn : n ≤ 62) (he : Blk w eb 30 #[.int .i64 0]) (hr : Blk w rb 127 #[.pointer (some ⟨g, 0, none⟩)]) (hR : ReadIs w B g l a) :
    Calls Tryz.prog 74 #[.int .i64 (n : Int), .pointer (some ⟨eb, 0, none⟩), .pointer (some ⟨rb, 0, none⟩)] w (HNextPost w B eb rb g a l (bget l a n)) := by
  obtain ⟨A, c, hb, _⟩ := hR.ex
  have n1 : ¬ eb = g := he.ne_ hb (by decide)
  have n2 : ¬ rb = g := hr.ne_ hb (by decide)
  have n3 : ¬ rb = eb := hr.ne_ he (by decide)
  obtain ⟨hce, hfe⟩ := he.both
  obtain ⟨hcr, hfr⟩ := hr.both
  have HE := Lib.hid (And.intro he hr)
  clear he hr hb
  unfold bget
  by_cases hs : a + n ≤ 8 * l.length
  · rw [if_pos hs]
    go_enter Tryz.func74, Tryz.ntmps74
    go_wp2_with fail
    refine (bitsGet _ B g a n l hR (by omega) hs).mono ?_
    rintro e w1 ⟨rfl, hR1, hm⟩
    have he1 := HE.out.1.keep hm n1
    have hr1 := HE.out.2.keep hm n2
    obtain ⟨hce1, hfe1⟩ := he1.both
    have hl := he1.lt
    have hv : numAt l a n < 4611686018427387904 := Nat.lt_of_lt_of_le (numAt_lt l a n) (Nat.pow_le_pow_right (n := 2) (by omega) hn)
    have HF := Lib.hid (And.intro he1 (And.intro hr1 (And.intro hR1 hm)))
    clear he1 hr1 hR1 hm hR hce hfe hcr hfr
    go_wp2_with fail
    go_ret
    obtain ⟨z1, z2, z3, z4⟩ := HF.out
    refine ⟨z2.far n3 _, (z4.mono (fun _ h => .inr h)).setCell (p := ⟨eb, 0, none⟩) (.inl (.inl rfl)) _, .inr ⟨_, _, rfl, z1.put rfl, ?_, rfl⟩⟩
    exact z3.tmod (B' := 0) (T := fun t => t == 30) ((TMod.refl _ _ _).setCell z1 (Nat.zero_le _) (by decide) _) (by decide) (by decide)
  · rw [if_neg hs]
    go_enter Tryz.func74, Tryz.ntmps74
    go_wp2_with fail
    refine (bitsGet_short _ B g a n l hR (by omega) (by omega)).mono ?_
    rintro e w1 ⟨rfl, m, rfl⟩
    have hm : Mod (fun _ => False) w (w.drewN m) := (Mod.refl _ _).drewN _
    generalize w.drewN m = w1 at *
    have he1 := HE.out.1.keep hm (fun h => h)
    have hr1 := HE.out.2.keep hm (fun h => h)
    have hR1 := hR.quiet hm
    obtain ⟨hce1, hfe1⟩ := he1.both
    have hl := he1.lt
    have HF := Lib.hid (And.intro he1 (And.intro hr1 (And.intro hR1 hm)))
    clear he1 hr1 hR1 hm hR hce hfe hcr hfr
    go_wp2_with fail
    go_ret
    obtain ⟨z1, z2, z3, z4⟩ := HF.out
    refine ⟨z2.far n3 _, (z4.mono (fun _ h => h.elim)).setCell (p := ⟨eb, 0, none⟩) (.inl (.inl rfl)) _, .inl ⟨rfl, ⟨11, by decide, z1.put rfl⟩, ?_, rfl⟩⟩
    exact z3.tmod (B' := 0) (T := fun t => t == 30) ((TMod.refl _ _ _).setCell z1 (Nat.zero_le _) (by decide) _) (by decide) (by decide)

set_option maxRecDepth 100000 in
set_option maxHeartbeats 2000000 in
theorem hnext_gol (w : World) (B eb rb g a : Nat) (l : List UInt8) (he : Blk w eb 30 #[.int .i64 0]) (hr : Blk w rb 127 #[.pointer (some ⟨g, 0, none⟩)]) (hR : ReadIs w B g l a) :
    Calls Tryz.prog 74 #[.int .i64 0, .pointer (some ⟨eb, 0, none⟩), .pointer (some ⟨rb, 0, none⟩)] w (HNextPost w B eb rb g a l (gget l a 0 32)) := by
  obtain ⟨A, c, hb, _⟩ := hR.ex
  have n1 : ¬ eb = g := he.ne_ hb (by decide)
  have n2 : ¬ rb = g := hr.ne_ hb (by decide)
  have n3 : ¬ rb = eb := hr.ne_ he (by decide)
  obtain ⟨hce, hfe⟩ := he.both
  obtain ⟨hcr, hfr⟩ := hr.both
  have HE := Lib.hid (And.intro he hr)
  clear he hr hb
  go_enter Tryz.func74, Tryz.ntmps74
  go_wp2_with fail
  refine (golGet _ B g a l hR).mono ?_
  rintro e w1 (⟨code, hcode, rfl, hnone, hm⟩ | ⟨v, a', hsome, rfl, hR1, hm⟩)
  · have he1 := HE.out.1.keep hm (fun h => h)
    have hr1 := HE.out.2.keep hm (fun h => h)
    have hR1 := hR.quiet hm
    obtain ⟨hce1, hfe1⟩ := he1.both
    have hl := he1.lt
    have HF := Lib.hid (And.intro he1 (And.intro hr1 (And.intro hR1 (And.intro hm (And.intro hnone hcode)))))
    clear he1 hr1 hR1 hm hnone hcode hR hce hfe hcr hfr
    go_wp2_with fail
    go_ret
    obtain ⟨z1, z2, z3, z4, z5, z6⟩ := HF.out
    refine ⟨z2.far n3 _, (z4.mono (fun _ h => h.elim)).setCell (p := ⟨eb, 0, none⟩) (.inl (.inl rfl)) _, .inl ⟨z5, ⟨code, z6, z1.put rfl⟩, ?_, rfl⟩⟩
    exact z3.tmod (B' := 0) (T := fun t => t == 30) ((TMod.refl _ _ _).setCell z1 (Nat.zero_le _) (by decide) _) (by decide) (by decide)
  · have he1 := HE.out.1.keep hm n1
    have hr1 := HE.out.2.keep hm n2
    obtain ⟨hce1, hfe1⟩ := he1.both
    have hl := he1.lt
    have hv := gget_lt l a 0 32 v a' hsome (by omega)
    have HF := Lib.hid (And.intro he1 (And.intro hr1 (And.intro hR1 (And.intro hm hsome))))
    clear he1 hr1 hR1 hm hsome hR hce hfe hcr hfr
    go_wp2_with fail
    go_ret
    obtain ⟨z1, z2, z3, z4, z5⟩ := HF.out
    refine ⟨z2.far n3 _, (z4.mono (fun _ h => .inr h)).setCell (p := ⟨eb, 0, none⟩) (.inl (.inl rfl)) _, .inr ⟨v, a', z5, z1.put rfl, ?_, rfl⟩⟩
    exact z3.tmod (B' := 0) (T := fun t => t == 30) ((TMod.refl _ _ _).setCell z1 (Nat.zero_le _) (by decide) _) (by decide) (by decide)
end Go.Proofs.YtmkopcojnibhlaaGreatDoor

/-
  syntax.ParseHeader.
-/
namespace Go.Proofs.YtmkopcojnibhlaaGreatDoor
open Go.RowKit

/-- A header's bytes read: what it says, and the bit behind it. -/
def hdrParse (l : List UInt8) (W H G : Int) : Option ((Bool × Int × Int) × Nat) :=
  match bget l 0 1 with
  | none => none
  | some (k, a1) =>
    match gget l a1 0 32 with
    | none => none
    | some (n, a2) =>
      match bget l a2 5 with
      | none => none
      | some (q, a3) =>
        if hdrFits ((k : Int) == 1) n q W H G = true then
          match alignAt l a3 with
          | none => none
          | some a4 => some (((k : Int) == 1, (n : Int), (q : Int)), a4)
        else none

def HdrPost (w : World) (l : List UInt8) (W H G : Int) (e : Ending) (w' : World) : Prop :=
  Mod (fun _ => False) w w' ∧ ((hdrParse l W H G = none ∧ e = .returned (.tuple #[.agg #[.bool false, .int .i64 0, .int .i64 0], .slice none 0 0, .int .i64 121])) ∨
    ∃ K N Q a4 v, hdrParse l W H G = some ((K, N, Q), a4) ∧ e = .returned (.tuple #[.agg #[.bool K, .int .i64 N, .int .i64 Q], v, .int .i64 0]) ∧ Bytes w' w.heap.size v (l.drop ((a4 + 7) / 8)))

theorem bget_lt (l : List UInt8) (a n v a' : Nat) (h : bget l a n = some (v, a')) : v < 2 ^ n := by
  unfold bget at h
  split at h
  · injection h with h
    injection h with h1 h2
    rw [← h1]
    exact numAt_lt l a n
  · cases h
theorem hdr_mod3 {w w4 : World} {q0 : Nat} (h : Mod (fun _ => False) w w4) (hq : w.heap.size ≤ q0) (a b c : Value) : Mod (fun _ => False) w (((w4.setCell ⟨q0, 0, none⟩ a).setCell ⟨q0, 1, none⟩ b).setCell ⟨q0, 2, none⟩ c) :=
  ((h.setCell (p := ⟨q0, 0, none⟩) (.inr hq) _).setCell (p := ⟨q0, 1, none⟩) (.inr hq) _).setCell (p := ⟨q0, 2, none⟩) (.inr hq) _

set_option maxRecDepth 100000 in
set_option maxHeartbeats 4000000 in
theorem parseHdr (w : World) (A : Option Addr) (n c : Nat) (l : List UInt8) (W H G : Int) (hin : BytesIn w A n c l) (hn : n ≤ 1048576) : Calls Tryz.prog 35 #[.slice A n c, .agg #[.int .i64 W, .int .i64 H, .int .i64 G]] w (HdrPost w l W H G) := by
  have hs0 : Blk (w.alloc (.cells #[.int .i64 W, .int .i64 H, .int .i64 G] 23)) w.heap.size 23 #[.int .i64 W, .int .i64 H, .int .i64 G] := Blk.new _ _ _
  have hq0 : Blk ((w.alloc (.cells #[.int .i64 W, .int .i64 H, .int .i64 G] 23)).alloc (.cells #[.bool false, .int .i64 0, .int .i64 0] 82)) (w.heap.size + 1) 82 #[.bool false, .int .i64 0, .int .i64 0] := by have := Blk.new (w.alloc (.cells #[.int .i64 W, .int .i64 H, .int .i64 G] 23)) 82 #[.bool false, .int .i64 0, .int .i64 0]; rwa [show (w.alloc (.cells #[.int .i64 W, .int .i64 H, .int .i64 G] 23)).heap.size = w.heap.size + 1 by simp] at this
  replace hs0 := hs0.alloc (.cells #[.bool false, .int .i64 0, .int .i64 0] 82)
  have M0 : Mod (fun _ => False) w ((w.alloc (.cells #[.int .i64 W, .int .i64 H, .int .i64 G] 23)).alloc (.cells #[.bool false, .int .i64 0, .int .i64 0] 82)) := ((Mod.refl _ _).alloc _).alloc _
  have hin0 := hin.quiet M0
  clear hin
  go_enter Tryz.func35, Tryz.ntmps35
  go_wp2_with fail
  obtain ⟨s0, hs⟩ : ∃ s0, s0 = w.heap.size := ⟨_, rfl⟩
  obtain ⟨q0, hq⟩ : ∃ q0, q0 = w.heap.size + 1 := ⟨_, rfl⟩
  rw [← hq] at hq0 ⊢
  rw [← hs] at hs0 ⊢
  have hqw : w.heap.size ≤ q0 := by omega
  clear hq hs
  generalize (w.alloc (.cells #[.int .i64 W, .int .i64 H, .int .i64 G] 23)).alloc (.cells #[.bool false, .int .i64 0, .int .i64 0] 82) = w0 at *
  refine (bitsOpen w0 A n c l hin0 hn).mono ?_
  rintro e w1 ⟨g, rfl, hR, hm1⟩
  have M1 := M0.trans hm1
  have hq1 := hq0.keep hm1 (fun h => h)
  have hs1 := hs0.keep hm1 (fun h => h)
  have hB : w.heap.size ≤ w0.heap.size := M0.size
  clear hq0 hs0 M0 hm1 hin0
  have hrb : Blk (w1.alloc (.cells #[.pointer (some ⟨g, 0, none⟩)] 127)) w1.heap.size 127 #[.pointer (some ⟨g, 0, none⟩)] := Blk.new _ _ _
  have hq2 := hq1.alloc (.cells #[.pointer (some ⟨g, 0, none⟩)] 127)
  have hs2 := hs1.alloc (.cells #[.pointer (some ⟨g, 0, none⟩)] 127)
  have hR2 := hR.quiet ((Mod.refl _ w1).alloc (.cells #[.pointer (some ⟨g, 0, none⟩)] 127))
  have M2 := M1.alloc (.cells #[.pointer (some ⟨g, 0, none⟩)] 127)
  obtain ⟨rb, hrbe⟩ : ∃ rb, rb = w1.heap.size := ⟨_, rfl⟩
  rw [← hrbe] at hrb
  have hrw : w.heap.size ≤ rb := by rw [hrbe]; exact M1.size
  clear hq1 hs1 hR M1
  go_upto_region 2 with (fail)
  rw [← hrbe]
  clear hrbe
  generalize w1.alloc (.cells #[.pointer (some ⟨g, 0, none⟩)] 127) = w3 at *
  have heb : Blk (w3.alloc (.cells #[.int .i64 0] 30)) w3.heap.size 30 #[.int .i64 0] := Blk.new _ _ _
  have hq4 := hq2.alloc (.cells #[.int .i64 0] 30)
  have hs4 := hs2.alloc (.cells #[.int .i64 0] 30)
  have hr4 := hrb.alloc (.cells #[.int .i64 0] 30)
  have hR4 := hR2.quiet ((Mod.refl _ w3).alloc (.cells #[.int .i64 0] 30))
  have M4 := M2.alloc (.cells #[.int .i64 0] 30)
  obtain ⟨eb, hebe⟩ : ∃ eb, eb = w3.heap.size := ⟨_, rfl⟩
  rw [← hebe] at heb
  have hew : w.heap.size ≤ eb := by rw [hebe]; exact M2.size
  clear hq2 hrb hs2 M2 hR2
  go_upto_region 3 with (fail)
  rw [← hebe]
  clear hebe
  generalize w3.alloc (.cells #[.int .i64 0] 30) = w4 at *
  obtain ⟨Ag, cg, hbg, _⟩ := hR4.ex
  have nq : ¬ q0 = g := hq4.ne_ hbg (by decide)
  have nr : ¬ rb = g := hr4.ne_ hbg (by decide)
  have ns : ¬ s0 = g := hs4.ne_ hbg (by decide)
  have nqe : ¬ q0 = eb := hq4.ne_ heb (by decide)
  have nse : ¬ s0 = eb := hs4.ne_ heb (by decide)
  have hgw : w.heap.size ≤ g := Nat.le_trans hB hR4.base
  clear hbg
  go_wp2_with fail
  refine (hnext_bits _ w0.heap.size eb rb g 0 1 l (by omega) (by omega) heb hr4 hR4).mono ?_
  rintro e w5 ⟨hrk, hmk, hor⟩
  have hqk := hq4.keep hmk (fun h => h.elim nqe nq)
  have hsk := hs4.keep hmk (fun h => h.elim nse ns)
  have Mk := M4.into hmk (fun i e => .inr (by omega))
  clear heb hr4 hR4 hq4 M4 hmk hs4
  have hq4 := hqk
  have hs4 := hsk
  have M4 := Mk
  have hr4 := hrk
  clear hqk Mk hrk hsk
  rcases hor with ⟨hnone, ⟨code, hcode, heb⟩, hR4, rfl⟩ | ⟨k, a1, hsome, heb, hR4, rfl⟩
  · have HP : Hid (hdrParse l W H G = none) := by show _ = _; unfold hdrParse; rw [hnone]
    clear hnone
    go_wp2_with fail
    refine (hnext_err _ eb rb 0 code hcode heb).mono ?_
    rintro e wx ⟨rfl, rfl⟩
    go_wp2_with fail
    refine (hnext_err _ eb rb 5 code hcode heb).mono ?_
    rintro e wx ⟨rfl, rfl⟩
    have hcb : (code != 0) = true := by simp [hcode]
    have hqf := hq4.lt
    have hel := heb.lt
    obtain ⟨hcq, hfq⟩ := hq4.both
    obtain ⟨hce, hfe⟩ := heb.both
    have HQ := Lib.hid (And.intro hq4 M4)
    clear hq4 M4 hr4 hR4 hcode heb hs4
    go_wp2_with fail
    refine bodyPost_ret (v := .tuple #[.agg #[.bool false, .int .i64 0, .int .i64 0], .slice none 0 0, .int .i64 121]) (by simp [results, Tryz.results35, go_sem, hcq, hqf]) rfl ⟨?_, .inl ⟨HP.out, rfl⟩⟩
    exact seq_mod HQ.out.2 hqw _ _ _ _
  have HG1 := Lib.hid hsome
  have hv1 := bget_lt l 0 1 k _ hsome
  clear hsome
  go_wp2_with fail
  refine (hnext_gol _ w0.heap.size eb rb g a1 l heb hr4 hR4).mono ?_
  rintro e w6 ⟨hrk, hmk, hor⟩
  have hqk := hq4.keep hmk (fun h => h.elim nqe nq)
  have hsk := hs4.keep hmk (fun h => h.elim nse ns)
  have Mk := M4.into hmk (fun i e => .inr (by omega))
  clear heb hr4 hR4 hq4 M4 hmk hs4
  have hq4 := hqk
  have hs4 := hsk
  have M4 := Mk
  have hr4 := hrk
  clear hqk Mk hrk hsk
  rcases hor with ⟨hnone, ⟨code, hcode, heb⟩, hR4, rfl⟩ | ⟨x, a2, hsome, heb, hR4, rfl⟩
  · have HP : Hid (hdrParse l W H G = none) := by show _ = _; unfold hdrParse; rw [HG1.out]; dsimp only; rw [hnone]
    clear hnone
    go_wp2_with fail
    refine (hnext_err _ eb rb 5 code hcode heb).mono ?_
    rintro e wx ⟨rfl, rfl⟩
    have hcb : (code != 0) = true := by simp [hcode]
    have hqf := hq4.lt
    have hel := heb.lt
    obtain ⟨hcq, hfq⟩ := hq4.both
    obtain ⟨hce, hfe⟩ := heb.both
    have HQ := Lib.hid (And.intro hq4 M4)
    clear hq4 M4 hr4 hR4 hcode heb hs4
    go_wp2_with fail
    refine bodyPost_ret (v := .tuple #[.agg #[.bool false, .int .i64 0, .int .i64 0], .slice none 0 0, .int .i64 121]) (by simp [results, Tryz.results35, go_sem, hcq, hqf]) rfl ⟨?_, .inl ⟨HP.out, rfl⟩⟩
    exact seq_mod HQ.out.2 hqw _ _ _ _
  have HG2 := Lib.hid hsome
  have hv2 := gget_lt l a1 0 32 x a2 hsome (by omega)
  clear hsome
  go_wp2_with fail
  refine (hnext_bits _ w0.heap.size eb rb g a2 5 l (by omega) (by omega) heb hr4 hR4).mono ?_
  rintro e w7 ⟨hrk, hmk, hor⟩
  have hqk := hq4.keep hmk (fun h => h.elim nqe nq)
  have hsk := hs4.keep hmk (fun h => h.elim nse ns)
  have Mk := M4.into hmk (fun i e => .inr (by omega))
  clear heb hr4 hR4 hq4 M4 hmk hs4
  have hq4 := hqk
  have hs4 := hsk
  have M4 := Mk
  have hr4 := hrk
  clear hqk Mk hrk hsk
  rcases hor with ⟨hnone, ⟨code, hcode, heb⟩, hR4, rfl⟩ | ⟨q, a3, hsome, heb, hR4, rfl⟩
  · have HP : Hid (hdrParse l W H G = none) := by show _ = _; unfold hdrParse; rw [HG1.out]; dsimp only; rw [HG2.out]; dsimp only; rw [hnone]
    clear hnone
    have hcb : (code != 0) = true := by simp [hcode]
    have hqf := hq4.lt
    have hel := heb.lt
    obtain ⟨hcq, hfq⟩ := hq4.both
    obtain ⟨hce, hfe⟩ := heb.both
    have HQ := Lib.hid (And.intro hq4 M4)
    clear hq4 M4 hr4 hR4 hcode heb hs4
    go_wp2_with fail
    refine bodyPost_ret (v := .tuple #[.agg #[.bool false, .int .i64 0, .int .i64 0], .slice none 0 0, .int .i64 121]) (by simp [results, Tryz.results35, go_sem, hcq, hqf]) rfl ⟨?_, .inl ⟨HP.out, rfl⟩⟩
    exact seq_mod HQ.out.2 hqw _ _ _ _
  have HG3 := Lib.hid hsome
  have hv3 := bget_lt l a2 5 q _ hsome
  clear hsome
  have hsb : Blk (w7.alloc (.cells #[.bool ((k : Int) == 1), .int .i64 (x : Int), .int .i64 (q : Int)] 82)) w7.heap.size 82 #[.bool ((k : Int) == 1), .int .i64 (x : Int), .int .i64 (q : Int)] := Blk.new _ _ _
  have hq5 := hq4.alloc (.cells #[.bool ((k : Int) == 1), .int .i64 (x : Int), .int .i64 (q : Int)] 82)
  have hs5 := hs4.alloc (.cells #[.bool ((k : Int) == 1), .int .i64 (x : Int), .int .i64 (q : Int)] 82)
  have he5 := heb.alloc (.cells #[.bool ((k : Int) == 1), .int .i64 (x : Int), .int .i64 (q : Int)] 82)
  have hr5 := hr4.alloc (.cells #[.bool ((k : Int) == 1), .int .i64 (x : Int), .int .i64 (q : Int)] 82)
  have hR5 := hR4.quiet ((Mod.refl _ w7).alloc (.cells #[.bool ((k : Int) == 1), .int .i64 (x : Int), .int .i64 (q : Int)] 82))
  have M5 := M4.alloc (.cells #[.bool ((k : Int) == 1), .int .i64 (x : Int), .int .i64 (q : Int)] 82)
  obtain ⟨sb, hsbe⟩ : ∃ sb, sb = w7.heap.size := ⟨_, rfl⟩
  rw [← hsbe] at hsb
  have nqs : ¬ sb = q0 := by have := hq4.lt; omega
  clear hq4 heb hr4 hR4 M4 hs4
  go_upto_region 8 with (fail)
  rw [← hsbe]
  clear hsbe
  generalize w7.alloc (.cells #[.bool ((k : Int) == 1), .int .i64 (x : Int), .int .i64 (q : Int)] 82) = w8 at *
  have hq4 := hq5
  have M4 := M5
  clear hq5 M5
  obtain ⟨hce, hfe⟩ := he5.both
  obtain ⟨hcs, hfs⟩ := hsb.both
  obtain ⟨hcr, hfr⟩ := hr5.both
  obtain ⟨hct, hft⟩ := hs5.both
  have HS : Hid (hdrParse l W H G = if hdrFits ((k : Int) == 1) x q W H G = true then (match alignAt l a3 with | none => none | some a4 => some (((k : Int) == 1, (x : Int), (q : Int)), a4)) else none) := by
    show _ = _
    unfold hdrParse
    rw [HG1.out]
    dsimp only
    rw [HG2.out]
    dsimp only
    rw [HG3.out]
  generalize ((k : Int) == 1) = K at *
  cases hfit : hdrFits K x q W H G with
  | false =>
    have HP : Hid (hdrParse l W H G = none) := by show _ = _; rw [HS.out, if_neg (by rw [hfit]; decide)]
    go_wp2_with fail
    refine (synFits_no _ K x q W H G hfit).mono ?_
    rintro e w9 ⟨rfl, m9⟩
    replace hq4 := hq4.keep m9 (fun h => h)
    replace M4 := M4.trans m9
    clear m9 hfit
    obtain ⟨hcq, hfq⟩ := hq4.both
    have HQ := Lib.hid M4
    clear hq4 M4
    go_wp2_with fail
    refine bodyPost_ret (v := .tuple #[.agg #[.bool false, .int .i64 0, .int .i64 0], .slice none 0 0, .int .i64 121]) (by simp [results, Tryz.results35, go_sem, hcq]) rfl ⟨?_, .inl ⟨HP.out, rfl⟩⟩
    exact hdr_mod3 HQ.out hqw _ _ _
  | true =>
    go_wp2_with fail
    refine (synFits_yes _ K x q W H G hfit).mono ?_
    rintro e w9 ⟨rfl, m9⟩
    replace hq4 := hq4.keep m9 (fun h => h)
    replace M4 := M4.trans m9
    replace hr5 := hr5.keep m9 (fun h => h)
    replace hR5 := hR5.quiet m9
    replace hsb := hsb.keep m9 (fun h => h)
    clear hcr hfr hce hfe hcs hfs he5 hct hft hs5
    obtain ⟨hcr, hfr⟩ := hr5.both
    have HS2 : Hid (hdrParse l W H G = match alignAt l a3 with | none => none | some a4 => some ((K, (x : Int), (q : Int)), a4)) := by show _ = _; rw [HS.out, if_pos hfit]
    clear m9 hfit
    go_wp2_with fail
    refine (bitsAlign _ w0.heap.size g a3 l hR5).mono ?_
    rintro e w10 (⟨rfl, hal, hR6, m10⟩ | ⟨a4, hal, rfl, hR6, m10⟩)
    · have HP : Hid (hdrParse l W H G = none) := by show _ = _; rw [HS2.out, hal]
      replace hq4 := hq4.keep m10 nq
      replace M4 := M4.into m10 (fun i e => .inr (by omega))
      clear m10 hR5 hR6 hcr hfr hr5 hal
      obtain ⟨hcq, hfq⟩ := hq4.both
      have HQ := Lib.hid M4
      clear hq4 M4
      go_wp2_with fail
      refine bodyPost_ret (v := .tuple #[.agg #[.bool false, .int .i64 0, .int .i64 0], .slice none 0 0, .int .i64 121]) (by simp [results, Tryz.results35, go_sem, hcq]) rfl ⟨?_, .inl ⟨HP.out, rfl⟩⟩
      exact hdr_mod3 HQ.out hqw _ _ _
    · have HP : Hid (hdrParse l W H G = some ((K, (x : Int), (q : Int)), a4)) := by show _ = _; rw [HS2.out, hal]
      replace hq4 := hq4.keep m10 nq
      replace M4 := M4.into m10 (fun i e => .inr (by omega))
      replace hr5 := hr5.keep m10 nr
      obtain ⟨Ag2, cg2, hbg2, _⟩ := hR5.ex
      have nsg : ¬ sb = g := hsb.ne_ hbg2 (by decide)
      replace hsb := hsb.keep m10 nsg
      clear hcr hfr hbg2 hR5 m10 hal
      have c0 : w10.cell? ⟨rb, 0, none⟩ = some (.pointer (some ⟨g, 0, none⟩)) := hr5.cell 0
      have c1 : w10.cell? ⟨sb, 0, none⟩ = some (.bool K) := hsb.cell 0
      have c2 : w10.cell? ⟨sb, 1, none⟩ = some (.int .i64 (x : Int)) := hsb.cell 1
      have c3 : w10.cell? ⟨sb, 2, none⟩ = some (.int .i64 (q : Int)) := hsb.cell 2
      have nrq : ¬ rb = q0 := hr5.ne_ hq4 (by decide)
      have HB := Lib.hid (And.intro hq4 (And.intro M4 (And.intro hr5 (And.intro hsb hR6))))
      have hql := hq4.lt
      obtain ⟨hcq, hfq⟩ := hq4.both
      clear hq4 M4 hr5 hsb hR6
      go_wp2_with fail
      go_region_held3 (fun w' => w'.cell? ⟨rb, 0, none⟩ = some (.pointer (some ⟨g, 0, none⟩)) ∧ w'.cell? ⟨sb, 0, none⟩ = some (.bool K) ∧ w'.cell? ⟨sb, 1, none⟩ = some (.int .i64 (x : Int)) ∧ w'.cell? ⟨sb, 2, none⟩ = some (.int .i64 (q : Int))) (first | exact ⟨c0, c1, c2, c3⟩ | exact k1 | exact ⟨(k2 _ _ _).1.cell 0, (k2 _ _ _).2.cell 0, (k2 _ _ _).2.cell 1, (k2 _ _ _).2.cell 2⟩) (first | (go_at_call 79; refine (bitsRest _ w0.heap.size g a4 l (HB.out.2.2.2.2.quiet ((Mod.refl _ _).drew))).mono ?_; rintro e w11 ⟨v, rfl, hv, m11⟩; have m11' : Mod (fun _ => False) w10 w11 := ((Mod.refl _ _).drew).trans m11; have b1 := HB.out.2.2.1.keep m11' (fun h => h); have b2 := HB.out.2.2.2.1.keep m11' (fun h => h); have b3 := HB.out.1.keep m11' (fun h => h); have k1 : w11.cell? ⟨rb, 0, none⟩ = some (.pointer (some ⟨g, 0, none⟩)) ∧ w11.cell? ⟨sb, 0, none⟩ = some (.bool K) ∧ w11.cell? ⟨sb, 1, none⟩ = some (.int .i64 (x : Int)) ∧ w11.cell? ⟨sb, 2, none⟩ = some (.int .i64 (q : Int)) := ⟨b1.cell 0, b2.cell 0, b2.cell 1, b2.cell 2⟩; have k2 := (fun a b c : Value => And.intro (((b1.far (p := ⟨q0, 0, none⟩) nrq a).far (p := ⟨q0, 1, none⟩) nrq b).far (p := ⟨q0, 2, none⟩) nrq c) (((b2.far (p := ⟨q0, 0, none⟩) nqs a).far (p := ⟨q0, 1, none⟩) nqs b).far (p := ⟨q0, 2, none⟩) nqs c)); obtain ⟨hcq1, hfq1⟩ := b3.both; have hql1 := b3.lt; obtain ⟨Av, cv, hve⟩ := own_shape hv; subst hve; have HV := Lib.hid (And.intro hv (And.intro m11' b3)); clear hv m11 m11' b1 b2 b3))
      clear k1 k2 c0 c1 c2 c3
      go_wp2_with fail
      obtain ⟨hv, m11, b3⟩ := HV.out
      have hMq : ∀ a b c : Value, Mod (· = q0) w11 (((w11.setCell ⟨q0, 0, none⟩ a).setCell ⟨q0, 1, none⟩ b).setCell ⟨q0, 2, none⟩ c) := fun a b c => (((Mod.refl (· = q0) w11).setCell (p := ⟨q0, 0, none⟩) (.inl rfl) a).setCell (p := ⟨q0, 1, none⟩) (.inl rfl) b).setCell (p := ⟨q0, 2, none⟩) (.inl rfl) c
      refine bodyPost_ret (v := .tuple #[.agg #[.bool K, .int .i64 (x : Int), .int .i64 (q : Int)], .slice Av (l.length - (a4 + 7) / 8) cv, .int .i64 0]) (by simp [results, Tryz.results35, go_sem, hcq1]) rfl ⟨?_, .inr ⟨_, _, _, _, _, HP.out, rfl, ?_⟩⟩
      · exact hdr_mod3 (HB.out.2.1.trans m11) hqw _ _ _
      · have e1 : l.length - (a4 + 7) / 8 = (l.drop ((a4 + 7) / 8)).length := List.length_drop.symm
        rw [e1]
        exact own_mod (own_base hv (Nat.le_trans hB (show w0.heap.size ≤ w10.heap.size from Nat.le_trans (Nat.le_of_lt (Nat.lt_of_le_of_lt HB.out.2.2.2.2.base HB.out.2.2.2.2.ex.choose_spec.choose_spec.1.lt)) (Nat.le_refl _)))) (hMq _ _ _) (fun j hj e => own_ne_blk hv b3 (by decide) (by rw [hj, e]))
end Go.Proofs.YtmkopcojnibhlaaGreatDoor
