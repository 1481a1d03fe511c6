/-
  What makes a list of renditions right, step by step, in plain Lean.
-/
import Derived.Test.YtkobngipbhjfjaaDoorMfPlain
namespace Go.Proofs.YtkobngipbhjfjaaDoor

def namesL (ls : List Ls) : List Str := ls.map Ls.name
def filesL (l : Ls) : List Str := l.init.path :: l.pieces.map Pc.path
def pathsR (ls : List Ls) : List Str := ls.flatMap filesL
def okR (ls : List Ls) : Bool := ls.all listedB && decide (namesL ls).Nodup && decide (pathsR ls).Nodup
def boundsB (m : Mf) : Bool := decide (1 ≤ m.scale ∧ m.scale ≤ 1048576 ∧ 1 ≤ m.tick ∧ m.tick ≤ 1048576 ∧ 1 ≤ m.rends.length ∧ m.rends.length ≤ 8)
theorem rightB_eq (m : Mf) : rightB m = (boundsB m && okR m.rends) := by
  unfold rightB boundsB okR
  rw [Bool.and_assoc, Bool.and_assoc, Bool.and_assoc]
  rfl
theorem okR_iff (ls : List Ls) : okR ls = true ↔ (∀ l ∈ ls, listedB l = true) ∧ (namesL ls).Nodup ∧ (pathsR ls).Nodup := by
  unfold okR
  simp only [Bool.and_eq_true, List.all_eq_true, decide_eq_true_eq, and_assoc]
theorem split_at {ls : List Ls} {k : Nat} {l : Ls} (h : ls[k]? = some l) : ls = ls.take k ++ l :: ls.drop (k + 1) := by
  obtain ⟨hlt, he⟩ := List.getElem?_eq_some_iff.1 h
  rw [← he, List.getElem_cons_drop, List.take_append_drop]
theorem take_snoc {α : Type} {ls : List α} {k : Nat} {l : α} (h : ls[k]? = some l) : ls.take (k + 1) = ls.take k ++ [l] := by
  rw [List.take_add_one, h]
  rfl
theorem fail_listed {ls : List Ls} {k : Nat} {l : Ls} (h : ls[k]? = some l) (hl : listedB l = false) : okR ls = false := by
  rw [← Bool.not_eq_true, okR_iff]
  rintro ⟨h1, _⟩
  have := h1 l (List.mem_of_getElem? h)
  rw [hl] at this
  cases this
theorem fail_name {ls : List Ls} {k : Nat} {l : Ls} (h : ls[k]? = some l) (hl : (namesL (ls.take k)).contains l.name = true) : okR ls = false := by
  rw [← Bool.not_eq_true, okR_iff]
  rintro ⟨_, h1, _⟩
  rw [split_at h] at h1
  unfold namesL at h1 hl
  rw [List.map_append, List.map_cons, List.nodup_append] at h1
  rw [List.contains_iff_mem] at hl
  exact h1.2.2 _ hl _ (by simp) rfl
theorem fail_path {ls : List Ls} {k : Nat} {l : Ls} (h : ls[k]? = some l) {q r : List Str} (hq : filesL l = q ++ r) (hl : ¬ (pathsR (ls.take k) ++ q).Nodup) : okR ls = false := by
  rw [← Bool.not_eq_true, okR_iff]
  rintro ⟨_, _, h1⟩
  rw [split_at h] at h1
  unfold pathsR at h1 hl
  rw [List.flatMap_append, List.flatMap_cons, hq, ← List.append_assoc, ← List.append_assoc] at h1
  exact hl ((List.nodup_append.1 (List.nodup_append.1 h1).1).1)
theorem okR_step {ls : List Ls} {k : Nat} {l : Ls} (h : ls[k]? = some l) (h0 : okR (ls.take k) = true) (h1 : listedB l = true) (h2 : (namesL (ls.take k)).contains l.name = false) (h3 : (pathsR (ls.take k) ++ filesL l).Nodup) : okR (ls.take (k + 1)) = true := by
  rw [okR_iff] at h0 ⊢
  rw [take_snoc h]
  refine ⟨fun x hx => ?_, ?_, ?_⟩
  · rw [List.mem_append, List.mem_singleton] at hx
    rcases hx with hx | rfl
    · exact h0.1 x hx
    · exact h1
  · unfold namesL at h2 ⊢
    rw [List.map_append, List.nodup_append]
    refine ⟨h0.2.1, by simp, ?_⟩
    intro a ha b hb e
    simp only [List.map_cons, List.map_nil, List.mem_singleton] at hb
    subst hb
    subst e
    rw [← List.contains_iff_mem] at ha
    rw [ha] at h2
    cases h2
  · unfold pathsR at h3 ⊢
    rw [List.flatMap_append]
    simpa using h3
theorem names_snoc {ls : List Ls} {k : Nat} {l : Ls} (h : ls[k]? = some l) : namesL (ls.take (k + 1)) = namesL (ls.take k) ++ [l.name] := by rw [take_snoc h]; simp [namesL]
theorem paths_snoc {ls : List Ls} {k : Nat} {l : Ls} (h : ls[k]? = some l) : pathsR (ls.take (k + 1)) = pathsR (ls.take k) ++ filesL l := by rw [take_snoc h]; simp [pathsR]
theorem nodup_snoc {l : List Str} {x : Str} (h : l.Nodup) (hx : l.contains x = false) : (l ++ [x]).Nodup := by
  rw [List.nodup_append]
  refine ⟨h, by simp, ?_⟩
  intro a ha b hb e
  simp only [List.mem_singleton] at hb
  subst hb
  subst e
  rw [← List.contains_iff_mem] at ha
  rw [ha] at hx
  cases hx
theorem not_nodup {l : List Str} {x : Str} (hx : l.contains x = true) : ¬ (l ++ [x]).Nodup := by
  rw [List.nodup_append]
  rintro ⟨_, _, h⟩
  rw [List.contains_iff_mem] at hx
  exact h _ hx _ (by simp) rfl
/-- The first j pieces' paths behind the first place's. -/
def filesJ (l : Ls) (j : Nat) : List Str := l.init.path :: (l.pieces.take j).map Pc.path
theorem filesJ_end (l : Ls) : filesJ l l.pieces.length = filesL l := by unfold filesJ filesL; rw [List.take_length]
theorem filesJ_split (l : Ls) (j : Nat) : filesL l = filesJ l j ++ (l.pieces.drop j).map Pc.path := by
  unfold filesJ filesL
  rw [List.cons_append, ← List.map_append, List.take_append_drop]
theorem filesJ_snoc {l : Ls} {j : Nat} {p : Pc} (h : l.pieces[j]? = some p) : filesJ l (j + 1) = filesJ l j ++ [p.path] := by
  unfold filesJ
  rw [take_snoc h]
  simp
theorem framesL_snoc {l : List Pc} {j : Nat} {p : Pc} (h : l[j]? = some p) : framesL (l.take (j + 1)) = framesL (l.take j) + p.fr := by
  unfold framesL
  rw [take_snoc h]
  simp
theorem frames_bounds : ∀ (l : List Pc), (l.all (pieceB 1 64)) = true → (l.length : Int) ≤ framesL l ∧ framesL l ≤ 64 * (l.length : Int)
  | [], _ => by simp [framesL]
  | p :: r, h => by
    rw [List.all_cons, Bool.and_eq_true] at h
    have h1 := frames_bounds r h.2
    have h2 := h.1
    unfold pieceB at h2
    simp only [Bool.and_eq_true, decide_eq_true_eq] at h2
    unfold framesL at h1 ⊢
    simp only [List.map_cons, List.sum_cons, List.length_cons]
    omega
theorem all_snocP {p : Pc → Bool} {l : List Pc} {k : Nat} {c : Pc} (h : (l.take k).all p = true) (hk : l[k]? = some c) (hc : p c = true) : (l.take (k + 1)).all p = true := by
  rw [take_snoc hk, List.all_append, h]
  simp [hc]
theorem listed_piece {l : Ls} {j : Nat} {p : Pc} (h : l.pieces[j]? = some p) (hp : pieceB 1 64 p = false) : listedB l = false := by
  have : l.pieces.all (pieceB 1 64) = false := by
    rw [List.all_eq_false]
    exact ⟨p, List.mem_of_getElem? h, by simp [hp]⟩
  unfold listedB
  rw [this]
  simp
theorem listed_init {l : Ls} (h : pieceB 0 0 l.init = false) : listedB l = false := by
  unfold listedB
  rw [h]
  simp
end Go.Proofs.YtkobngipbhjfjaaDoor
