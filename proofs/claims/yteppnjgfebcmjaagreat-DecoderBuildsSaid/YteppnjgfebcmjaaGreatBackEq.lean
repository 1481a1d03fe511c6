/-
  The reference's way back is the program's.
-/
import Derived.Test.YteppnjgfebcmjaaGreatRefBack
import Derived.Test.YteppnjgfebcmjaaGreatLiftBack
namespace Go.Proofs.YteppnjgfebcmjaaGreat
open Go.RowKit

theorem list8 {α : Type} {l : List α} (h : l.length = 8) : ∃ a b c d e f g i, l = [a, b, c, d, e, f, g, i] := by
  match l, h with
  | [a, b, c, d, e, f, g, i], _ => exact ⟨a, b, c, d, e, f, g, i, rfl⟩
theorem back8_unK (l : List Int) (h : l.length = 8) : back8 l = unK 3 l := by
  obtain ⟨a, b, c, d, e, f, g, i, rfl⟩ := list8 h
  simp only [back8, upL, upK, upA, upB, unK, unTo, unA, List.range_succ, List.range_zero, List.flatMap_cons, List.flatMap_nil, List.nil_append, List.append_nil, List.cons_append, Nat.reducePow, Nat.reduceMul, Nat.reduceAdd, List.take_succ_cons, List.take_zero, List.set_cons_zero, List.set_cons_succ, List.getD_cons_zero, List.getD_cons_succ, Nat.mul_zero, Nat.add_zero, Nat.zero_add, Nat.mul_one]
  simp only [List.cons.injEq, and_true]
  refine ⟨?_, ?_, ?_, ?_, ?_, ?_, ?_, ?_⟩ <;> omega
theorem ext64 {a b : List Int} (ha : a.length = 64) (hb : b.length = 64) (h : ∀ y < 8, ∀ x < 8, a.getD (y * 8 + x) 0 = b.getD (y * 8 + x) 0) : a = b := by
  apply List.ext_getElem (by omega)
  intro i h1 h2
  have := h (i / 8) (by omega) (i % 8) (by omega)
  rw [show i / 8 * 8 + i % 8 = i by omega] at this
  rw [List.getD_eq_getElem?_getD, List.getD_eq_getElem?_getD, List.getElem?_eq_getElem h1, List.getElem?_eq_getElem h2] at this
  exact this
theorem rowsTo_getD (f : List Int → List Int) (l : List Int) (hl : l.length = 64) (hf : ∀ x : List Int, x.length = 8 → (f x).length = 8) (k : Nat) (hk : k ≤ 8) (y x : Nat) (hy : y < k) (hx : x < 8) : (rowsTo f l k).getD (y * 8 + x) 0 = (f ((l.drop (y * 8)).take 8)).getD x 0 := by
  induction k with
  | zero => omega
  | succ k ih =>
    rw [rowsTo_succ, List.getD_eq_getElem?_getD]
    have h1 := rowsTo_length f l hl hf k (by omega)
    by_cases e : y = k
    · subst e
      rw [List.getElem?_append_right (by omega), h1, show y * 8 + x - y * 8 = x by omega, ← List.getD_eq_getElem?_getD]
    · rw [List.getElem?_append_left (by omega), ← List.getD_eq_getElem?_getD]
      exact ih (by omega) (by omega)
theorem turnL_getD (l : List Int) (y x : Nat) (hy : y < 8) (hx : x < 8) : (turnL l).getD (y * 8 + x) 0 = l.getD (x * 8 + y) 0 := by
  have hi : y * 8 + x < 64 := by omega
  have e : (turnL l).getD (y * 8 + x) 0 = l.getD ((y * 8 + x) % 8 * 8 + (y * 8 + x) / 8) 0 := by simp [turnL, turnTo, List.getD_eq_getElem?_getD, hi]
  rw [e]
  congr 1
  omega
theorem row_of_turn (l : List Int) (x : Nat) (hx : x < 8) : ((turnL l).drop (x * 8)).take 8 = colOf x l := by
  apply List.ext_getElem
  · simp [turnL_length, colOf]; omega
  · intro i h1 h2
    have hi : i < 8 := by simp [colOf] at h2; exact h2
    have a := getD_part (turnL l) (x * 8) 8 i hi
    rw [turnL_getD l x i hx hi] at a
    have b := colOf_getD x l i hi
    rw [← a] at b
    rw [List.getD_eq_getElem?_getD, List.getD_eq_getElem?_getD, List.getElem?_eq_getElem h1, List.getElem?_eq_getElem h2] at b
    exact b.symm
theorem rback_eq (l : List Int) (hl : l.length = 64) : rbackL l = backL l := by
  have hu : ∀ x : List Int, x.length = 8 → (unK 3 x).length = 8 := fun x hx => unK_length 3 x hx
  have l1 : (rowsTo (unK 3) (turnL l) 8).length = 64 := rowsTo_length _ _ (turnL_length l) hu 8 (by omega)
  have l2 : (colsK l 8).length = 64 := by rw [colsK_length]; exact hl
  have e1 : turnL (rowsTo (unK 3) (turnL l) 8) = colsK l 8 := by
    apply ext64 (turnL_length _) l2
    intro y hy x hx
    rw [turnL_getD _ y x hy hx, rowsTo_getD _ _ (turnL_length l) hu 8 (by omega) x y hx hy, row_of_turn l x hx, colsK_getD l hl 8 y x (by omega) hx hy]
    rw [if_pos hx, back8_unK _ (colOf_length _ _)]
  unfold rbackL backL
  rw [e1]
  apply ext64 (rowsTo_length _ _ l2 hu 8 (by omega)) (rowsK_length _ l2 8 (by omega))
  intro y hy x hx
  rw [rowsTo_getD _ _ l2 hu 8 (by omega) y x hy hx, rowsK_getD _ l2 8 y x (by omega) hx hy, if_pos hy]
  rw [back8_unK _ (rowOf_length _ _ l2 hy)]
  rfl
end Go.Proofs.YteppnjgfebcmjaaGreat
