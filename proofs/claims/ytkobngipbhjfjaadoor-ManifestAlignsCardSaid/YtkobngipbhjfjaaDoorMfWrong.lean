/-
  manifest.Right's second closure: is a piece wrong, or its path taken? Written by gen_wrong.py.
-/
import Derived.Test.YtkobngipbhjfjaaDoorMfTaken
import Derived.Test.YtkobngipbhjfjaaDoorMfSmall
namespace Go.Proofs.YtkobngipbhjfjaaDoor
open Go.RowKit

/-- What the paths are behind a piece. -/
def wrongPaths (a b : Int) (p : Pc) (ss : List Str) : List Str := if pieceB a b p then ss ++ [p.path] else ss
def WrongPost (w : World) (B : Nat) (a b : Int) (p : Pc) (ss : List Str) (e : Ending) (w' : World) : Prop :=
  e = .returned (.bool (!pieceB a b p || ss.contains p.path)) ∧ Seen w' B (wrongPaths a b p ss) ∧ Mod (fun k => k = B) w w'
theorem pieceB_no {a b : Int} {p : Pc} (h : ¬ (a ≤ p.fr ∧ p.fr ≤ b ∧ 1 ≤ p.sz ∧ p.sz ≤ 1048576)) : pieceB a b p = false := by unfold pieceB; rw [decide_eq_false h, Bool.false_and]
set_option maxHeartbeats 4000000 in
theorem pWrong (w : World) (B tb pb : Nat) (p : Pc) (a b : Int) (ss : List Str) (hp : p.Ok) (ha : I64 a) (hb : I64 b) (hn : ss.length ≤ 1048576) (h : Seen w B ss) (ht : Blk w tb 55 #[.func (.func 28) #[] #[]]) (hq : Blk w pb 54 #[.map (some B)]) :
    Calls Tryd.prog 29 #[.agg (pcV p).toArray, .int .i64 a, .int .i64 b, .pointer (some ⟨tb, 0, none⟩), .pointer (some ⟨pb, 0, none⟩)] w (WrongPost w B a b p ss) := by
  obtain ⟨⟨k1, k2⟩, ⟨k3, k4⟩, k5⟩ := hp
  obtain ⟨a1, a2⟩ := ha
  obtain ⟨b1, b2⟩ := hb
  have mA : Mod (fun k => k = B) w (w.alloc (.cells (pcV p).toArray 32)) := (Mod.refl _ w).alloc _
  have hS := h.keep (S := fun _ => False) ((Mod.refl _ w).alloc (.cells (pcV p).toArray 32)) (fun h => h)
  have ht' := (ht.alloc (.cells (pcV p).toArray 32)).cell 0
  have hq' := (hq.alloc (.cells (pcV p).toArray 32)).cell 0
  have H := Lib.hid (And.intro mA hS)
  clear mA hS h ht hq
  unfold pcV at H ht' hq' ⊢
  by_cases q0 : p.fr < a
  · have d0 : decide (p.fr < a) = true := decide_eq_true q0
    have e1 : pieceB a b p = false := pieceB_no (by omega)
    have HE := Lib.hid e1
    clear e1
    go_enter Tryd.func29, Tryd.ntmps29
    go_wp2_with fail
    go_ret
    exact ⟨by rw [HE.out]; rfl, by unfold wrongPaths; rw [HE.out]; exact H.out.2, H.out.1⟩
  have d0 : decide (p.fr < a) = false := decide_eq_false q0
  by_cases q1 : b < p.fr
  · have d1 : decide (b < p.fr) = true := decide_eq_true q1
    have e1 : pieceB a b p = false := pieceB_no (by omega)
    have HE := Lib.hid e1
    clear e1
    go_enter Tryd.func29, Tryd.ntmps29
    go_wp2_with fail
    go_ret
    exact ⟨by rw [HE.out]; rfl, by unfold wrongPaths; rw [HE.out]; exact H.out.2, H.out.1⟩
  have d1 : decide (b < p.fr) = false := decide_eq_false q1
  by_cases q2 : p.sz < 1
  · have d2 : decide (p.sz < 1) = true := decide_eq_true q2
    have e1 : pieceB a b p = false := pieceB_no (by omega)
    have HE := Lib.hid e1
    clear e1
    go_enter Tryd.func29, Tryd.ntmps29
    go_wp2_with fail
    go_ret
    exact ⟨by rw [HE.out]; rfl, by unfold wrongPaths; rw [HE.out]; exact H.out.2, H.out.1⟩
  have d2 : decide (p.sz < 1) = false := decide_eq_false q2
  by_cases q3 : 1048576 < p.sz
  · have d3 : decide ((1048576 : Int) < p.sz) = true := decide_eq_true q3
    have e1 : pieceB a b p = false := pieceB_no (by omega)
    have HE := Lib.hid e1
    clear e1
    go_enter Tryd.func29, Tryd.ntmps29
    go_wp2_with fail
    go_ret
    exact ⟨by rw [HE.out]; rfl, by unfold wrongPaths; rw [HE.out]; exact H.out.2, H.out.1⟩
  have d3 : decide ((1048576 : Int) < p.sz) = false := decide_eq_false q3
  have hin : a ≤ p.fr ∧ p.fr ≤ b ∧ 1 ≤ p.sz ∧ p.sz ≤ 1048576 := by omega
  cases hpb : pathB p.path with
  | false =>
    have e1 : pieceB a b p = false := by unfold pieceB; rw [hpb, Bool.and_false]
    have HE := Lib.hid (And.intro e1 hpb)
    clear e1 hpb hin
    go_enter Tryd.func29, Tryd.ntmps29
    go_wp2_with fail
    refine (pPath _ _ (by omega)).mono ?_
    rintro e w1 ⟨rfl, rfl⟩
    rw [HE.out.2]
    go_wp2_with fail
    go_ret
    exact ⟨by rw [HE.out.1]; rfl, by unfold wrongPaths; rw [HE.out.1]; exact H.out.2, H.out.1⟩
  | true =>
    have e1 : pieceB a b p = true := by unfold pieceB; rw [hpb, decide_eq_true hin]; rfl
    have HE := Lib.hid (And.intro e1 hpb)
    clear e1 hpb hin
    go_enter Tryd.func29, Tryd.ntmps29
    go_wp2_with fail
    refine (pPath _ _ (by omega)).mono ?_
    rintro e w1 ⟨rfl, rfl⟩
    rw [HE.out.2]
    go_wp2_with fail
    refine (pTaken _ B ss p.path k5 hn H.out.2).mono ?_
    rintro e w1 ⟨rfl, hS1, hM1⟩
    have H1 := Lib.hid (And.intro hS1 (H.out.1.trans hM1))
    clear hS1 hM1
    cases hc : ss.contains p.path with
    | true =>
      have HC := Lib.hid hc
      clear hc
      go_wp2_with fail
      go_ret
      exact ⟨by rw [HE.out.1, HC.out]; rfl, by unfold wrongPaths; rw [HE.out.1]; exact H1.out.1, H1.out.2⟩
    | false =>
      have HC := Lib.hid hc
      clear hc
      go_wp2_with fail
      go_ret
      exact ⟨by rw [HE.out.1, HC.out]; rfl, by unfold wrongPaths; rw [HE.out.1]; exact H1.out.1, H1.out.2⟩
end Go.Proofs.YtkobngipbhjfjaaDoor
