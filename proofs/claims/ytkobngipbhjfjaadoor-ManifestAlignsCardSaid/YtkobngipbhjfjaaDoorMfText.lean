/-
  A manifest's text, piece by piece, and how long it is. No program in sight.
-/
import Derived.Test.YtkobngipbhjfjaaDoorMfOk
namespace Go.Proofs.YtkobngipbhjfjaaDoor

def lineP (p : Pc) : Str := lineL (linesP p)
def lineR (l : Ls) : Str := lineL [kRend, l.name, dec l.w, dec l.h, dec l.bw]
def lineI (l : Ls) : Str := lineL [kInit, dec l.init.sz, l.init.path]
def textR (l : Ls) : Str := lineR l ++ lineI l ++ l.pieces.flatMap lineP
def headL (m : Mf) : Str := lineL [kKinora, kOne] ++ lineL [kScale, dec m.scale, kTick, dec m.tick]
theorem linesR_text (l : Ls) : (linesR l).flatMap lineL = textR l := by
  unfold linesR textR lineR lineI
  rw [List.flatMap_cons, List.flatMap_cons, List.flatMap_map, List.append_assoc]
  rfl
theorem writeL_eq (m : Mf) : writeL m = headL m ++ m.rends.flatMap textR ++ lineL [kEnd] := by
  have h : ∀ ls : List Ls, (ls.flatMap linesR).flatMap lineL = ls.flatMap textR := by
    intro ls
    induction ls with
    | nil => rfl
    | cons l r ih => rw [List.flatMap_cons, List.flatMap_append, ih, List.flatMap_cons, linesR_text]
  unfold writeL linesM headL
  rw [List.flatMap_cons, List.flatMap_cons, List.flatMap_append, h]
  simp
theorem dec_len {n : Int} (k : Nat) (h : n < 10 ^ (k + 1)) : (dec n).length ≤ k + 1 := by
  unfold dec
  refine decDigits_len k _ ?_
  have : (10 : Int) ^ (k + 1) = ((10 ^ (k + 1) : Nat) : Int) := by simp
  rw [this] at h
  have h10 : 0 < 10 ^ (k + 1) := Nat.pow_pos (by decide)
  omega
theorem lineP_len {p : Pc} (h : pieceB 1 64 p = true) : (lineP p).length ≤ 78 := by
  unfold pieceB pathB at h
  simp only [Bool.and_eq_true, decide_eq_true_eq] at h
  have h1 := dec_len (n := p.fr) 1 (by omega)
  have h2 := dec_len (n := p.sz) 6 (by omega)
  unfold lineP lineL linesP
  simp only [joinSp, List.length_append, List.length_cons, List.length_nil, kPiece]
  omega
theorem lineI_len {l : Ls} (h : pieceB 0 0 l.init = true) : (lineI l).length ≤ 74 := by
  unfold pieceB pathB at h
  simp only [Bool.and_eq_true, decide_eq_true_eq] at h
  have h2 := dec_len (n := l.init.sz) 6 (by omega)
  unfold lineI lineL
  simp only [joinSp, List.length_append, List.length_cons, List.length_nil, kInit]
  omega
theorem lineR_len {l : Ls} (hn : nameB l.name = true) (hw : sideB l.w = true) (hh : sideB l.h = true) (hb : l.bw ≤ 1099511627776) : (lineR l).length ≤ 43 := by
  unfold nameB at hn
  unfold sideB at hw hh
  simp only [Bool.and_eq_true, decide_eq_true_eq] at hn hw hh
  have h1 := dec_len (n := l.w) 3 (by omega)
  have h2 := dec_len (n := l.h) 3 (by omega)
  have h3 := dec_len (n := l.bw) 12 (by omega)
  unfold lineR lineL
  simp only [joinSp, List.length_append, List.length_cons, List.length_nil, kRend]
  omega
theorem flat_len {α : Type} {f : α → Str} {c : Nat} : ∀ (l : List α), (∀ x ∈ l, (f x).length ≤ c) → (l.flatMap f).length ≤ c * l.length
  | [], _ => by simp
  | x :: r, h => by
    have h1 := flat_len r (fun y hy => h y (by simp [hy]))
    have h2 := h x (by simp)
    rw [List.flatMap_cons, List.length_append, List.length_cons, Nat.mul_add]
    omega
/-- What a right rendition is made of. -/
theorem listed_parts {l : Ls} (h : listedB l = true) : nameB l.name = true ∧ sideB l.w = true ∧ sideB l.h = true ∧ 1 ≤ l.bw ∧ l.bw ≤ 1099511627776 ∧ pieceB 0 0 l.init = true ∧ (∀ p ∈ l.pieces, pieceB 1 64 p = true) ∧ 1 ≤ l.pieces.length ∧ l.pieces.length ≤ 1024 ∧ framesL l.pieces ≤ 1024 := by
  unfold listedB at h
  simp only [Bool.and_eq_true, decide_eq_true_eq] at h
  have hf := frames_bounds _ h.1.2
  obtain ⟨⟨⟨⟨⟨⟨hn, hw⟩, hh⟩, hb⟩, hi⟩, hp⟩, h1, h2⟩ := h
  rw [List.all_eq_true] at hp
  exact ⟨hn, hw, hh, hb.1, hb.2, hi, hp, h1, by omega, h2⟩
theorem pieces_len {l : Ls} (h : listedB l = true) (j : Nat) : ((l.pieces.take j).flatMap lineP).length ≤ 79872 := by
  obtain ⟨_, _, _, _, _, _, hp, _, h3, _⟩ := listed_parts h
  have := flat_len (f := lineP) (c := 78) (l.pieces.take j) (fun p hp' => lineP_len (hp p (List.mem_of_mem_take hp')))
  rw [List.length_take] at this
  omega
theorem textR_len {l : Ls} (h : listedB l = true) : (textR l).length ≤ 79989 := by
  obtain ⟨hn, hw, hh, _, hb, hi, _, _, _, _⟩ := listed_parts h
  have h1 := lineR_len hn hw hh hb
  have h2 := lineI_len hi
  have h3 := pieces_len h l.pieces.length
  rw [List.take_length] at h3
  unfold textR
  rw [List.length_append, List.length_append]
  omega
theorem rends_len {m : Mf} (h : rightB m = true) (k : Nat) : ((m.rends.take k).flatMap textR).length ≤ 639912 := by
  unfold rightB at h
  simp only [Bool.and_eq_true, decide_eq_true_eq, List.all_eq_true] at h
  have := flat_len (f := textR) (c := 79989) (m.rends.take k) (fun l hl => textR_len (h.1.1.2 l (List.mem_of_mem_take hl)))
  rw [List.length_take] at this
  omega
theorem headL_len {m : Mf} (h : rightB m = true) : (headL m).length ≤ 40 := by
  unfold rightB at h
  simp only [Bool.and_eq_true, decide_eq_true_eq] at h
  have h1 := dec_len (n := m.scale) 6 (by omega)
  have h2 := dec_len (n := m.tick) 6 (by omega)
  unfold headL lineL
  simp only [joinSp, List.length_append, List.length_cons, List.length_nil, kKinora, kOne, kScale, kTick]
  omega
theorem right_bounds {m : Mf} (h : rightB m = true) : (1 ≤ m.scale ∧ m.scale ≤ 1048576 ∧ 1 ≤ m.tick ∧ m.tick ≤ 1048576) ∧ (1 ≤ m.rends.length ∧ m.rends.length ≤ 8) ∧ ∀ l ∈ m.rends, listedB l = true := by
  unfold rightB at h
  simp only [Bool.and_eq_true, decide_eq_true_eq, List.all_eq_true] at h
  exact ⟨by omega, by omega, h.1.1.2⟩
end Go.Proofs.YtkobngipbhjfjaaDoor
