/-
  kinoralaw18.ManifestParses, walked.
-/
import Derived.Test.YtkobngipbhjfjaaDoorMfAlive
import Derived.Test.YtkobngipbhjfjaaDoorMfRSame
import Derived.Test.YtkobngipbhjfjaaDoorMfN3
namespace Go.Proofs.YtkobngipbhjfjaaDoor
open Go.RowKit

def pmOf (s : Str) : Mf := (parseO numP s).getD m0
def pkOf (s : Str) : Int := if (parseO numP s).isSome = true then 0 else 181
def TwoPost (w : World) (s : Str) (e : Ending) (w' : World) : Prop := ∃ A n c, e = .returned (.tuple #[.agg (mfV (pmOf s) A n c).toArray, .int .i64 (pkOf s)]) ∧ MfIn w' A n (pmOf s) ∧ Mod (fun _ => False) w w'
theorem m0_in (w : World) : MfIn w none 0 m0 := ⟨⟨i64_0, i64_0, by omega⟩, rfl, fun i l h => by simp [m0] at h⟩
theorem two_p {w w' : World} {s : Str} {e : Ending} (h : ParsePost w s e w') : TwoPost w s e w' := by
  obtain ⟨hm, ⟨h1, rfl⟩ | ⟨m, A, n, c, h1, rfl, h2⟩⟩ := h
  · have e1 : pmOf s = m0 := by unfold pmOf; rw [h1]; rfl
    have e2 : pkOf s = 181 := by unfold pkOf; rw [h1]; rfl
    unfold TwoPost
    rw [e1, e2]
    exact ⟨none, 0, 0, rfl, m0_in _, hm⟩
  · have e1 : pmOf s = m := by unfold pmOf; rw [h1]; rfl
    have e2 : pkOf s = 0 := by unfold pkOf; rw [h1]; rfl
    unfold TwoPost
    rw [e1, e2]
    exact ⟨A, n, c, rfl, h2, hm⟩
theorem two_r {w w' : World} {s : Str} {e : Ending} (h : RParsePost w s e w') : TwoPost w s e w' := by
  refine two_p ?_
  unfold RParsePost at h
  rw [← parse_any numP_spells numR_spells s] at h
  exact h
set_option maxRecDepth 100000 in
set_option maxHeartbeats 8000000 in
theorem parses_walk (w : World) (s : Str) (he : Env w) (hs : s.length ≤ 9223372036854775807) : Calls Tryd.prog 4 #[.string (strOf s)] w fun e w' => e = .returned (.bool true) ∧ Mod (fun _ => False) w w' := by
  have hsz := strOf_size s
  have HE := Lib.hid he
  clear he
  by_cases hl : 3000 < s.length
  · have d0 : decide ((3000 : Int) < (s.length : Int)) = true := decide_eq_true (by omega)
    go_enter Tryd.func4, Tryd.ntmps4
    go_wp2_with fail
    refine (pAlive _ HE.out).mono ?_
    rintro e w1 ⟨rfl, hm1⟩
    have H1 := Lib.hid hm1
    clear hm1
    go_wp2_with fail
    go_ret
    exact ⟨rfl, H1.out⟩
  · have d0 : decide ((3000 : Int) < (s.length : Int)) = false := decide_eq_false (by omega)
    have hl2 : s.length ≤ 3000 := by omega
    go_enter Tryd.func4, Tryd.ntmps4
    go_wp2_with fail
    refine (pParse _ s (by omega) HE.out).mono ?_
    rintro e w1 h1
    obtain ⟨A, n, c, rfl, hx, hm1⟩ := two_p h1
    have hbx : Blk (w1.alloc (.cells (mfV (pmOf s) A n c).toArray 24)) w1.heap.size 24 (mfV (pmOf s) A n c).toArray := Blk.new _ _ _
    have hm1' := hm1.alloc (.cells (mfV (pmOf s) A n c).toArray 24)
    have hx' := hx.quiet ((Mod.refl (fun _ => False) w1).alloc (.cells (mfV (pmOf s) A n c).toArray 24))
    have H1 := Lib.hid (And.intro hx' (And.intro hbx hm1'))
    clear h1 hx hm1 hbx hm1' hx'
    unfold mfV at H1 ⊢
    go_wp2_with fail
    refine (rParse _ s (by omega)).mono ?_
    rintro e w2 h2
    obtain ⟨A', n', c', rfl, hy, hm2⟩ := two_r h2
    have hby : Blk (w2.alloc (.cells (mfV (pmOf s) A' n' c').toArray 24)) w2.heap.size 24 (mfV (pmOf s) A' n' c').toArray := Blk.new _ _ _
    have mB := (Mod.refl (fun _ => False) w2).alloc (.cells (mfV (pmOf s) A' n' c').toArray 24)
    have H2 := Lib.hid (And.intro (hy.quiet mB) (And.intro hby (And.intro (H1.out.2.2.trans (hm2.trans mB)) (And.intro (H1.out.1.quiet (hm2.trans mB)) (H1.out.2.1.keep (hm2.trans mB) (fun h => h))))))
    clear h2 hy hm2 hby mB
    unfold mfV at H2 ⊢
    generalize pmOf s = m at H1 H2 ⊢
    generalize pkOf s = k at H1 H2 ⊢
    go_wp2_with fail
    refine (pAlive _ (HE.out.quiet H2.out.2.2.1)).mono ?_
    rintro e w3 ⟨rfl, hm3⟩
    have cx := (H2.out.2.2.2.2.keep hm3 (fun h => h)).cell
    have cy := (H2.out.2.1.keep hm3 (fun h => h)).cell
    have H3 := Lib.hid (And.intro (H2.out.2.2.1.trans hm3) (And.intro (H2.out.2.2.2.1.quiet hm3) (H2.out.1.quiet hm3)))
    clear hm3
    go_wp2_with fail
    refine (rSame _ m m A A' n c n' c' H3.out.2.1 H3.out.2.2).mono ?_
    rintro e w4 ⟨rfl, hm4⟩
    rw [decide_eq_true (rfl : m = m)]
    have H4 := Lib.hid (H3.out.1.trans hm4)
    clear hm4 cx cy
    go_wp2_with fail
    go_ret
    exact ⟨rfl, H4.out⟩
end Go.Proofs.YtkobngipbhjfjaaDoor
