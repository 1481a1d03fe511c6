/-
  One line's fields taken in, case by case. No program in sight.
-/
import Derived.Test.YtkobngipbhjfjaaDoorMfPlain
namespace Go.Proofs.YtkobngipbhjfjaaDoor

theorem head_of {f : List Str} {s : Str} (h : f[0]? = some s) : f.head? = some s := by cases f <;> simp_all
theorem getD_of {f : List Str} {i : Nat} {s : Str} (h : f[i]? = some s) : f.getD i [] = s := by rw [List.getD_eq_getElem?_getD, h]; rfl
theorem bind_is {o : Option Int} {x : Int} {β : Type} {k : Int → Option β} (hx : ∀ v, o = some v → x = v) : o.bind k = if o.isSome = true then k x else none := by
  cases o with
  | none => rfl
  | some v => rw [hx v rfl]; rfl
theorem map_is {o : Option Int} {x : Int} {β : Type} {k : Int → β} (hx : ∀ v, o = some v → x = v) : o.map k = if o.isSome = true then some (k x) else none := by
  cases o with
  | none => rfl
  | some v => rw [hx v rfl]; rfl
variable {num : Str → Option Int} {f : List Str} {m : Mf}
theorem step_scale {f1 f3 : Str} {x1 x3 : Int} (h0 : f[0]? = some kScale) (hn : f.length = 4) (h1 : f[1]? = some f1) (h3 : f[3]? = some f3) (hx1 : ∀ v, num f1 = some v → x1 = v) (hx3 : ∀ v, num f3 = some v → x3 = v) :
    stepO num f m = if (true && (num f1).isSome && (num f3).isSome) = true then some { m with scale := x1, tick := x3 } else none := by
  unfold stepO
  rw [if_pos ⟨head_of h0, hn⟩, getD_of h1, getD_of h3, bind_is hx1, map_is hx3]
  cases (num f1).isSome <;> cases (num f3).isSome <;> rfl
theorem step_rend {f1 f2 f3 f4 : Str} {x2 x3 x4 : Int} (h0 : f[0]? = some kRend) (hn : f.length = 5) (h1 : f[1]? = some f1) (h2 : f[2]? = some f2) (h3 : f[3]? = some f3) (h4 : f[4]? = some f4)
    (hx2 : ∀ v, num f2 = some v → x2 = v) (hx3 : ∀ v, num f3 = some v → x3 = v) (hx4 : ∀ v, num f4 = some v → x4 = v) :
    stepO num f m = if (true && (num f2).isSome && (num f3).isSome && (num f4).isSome) = true then some { m with rends := m.rends ++ [⟨f1, x2, x3, x4, ⟨0, 0, []⟩, []⟩] } else none := by
  unfold stepO
  rw [if_neg (by rw [head_of h0]; rintro ⟨h, _⟩; exact absurd h (by decide)), if_pos ⟨head_of h0, hn⟩, getD_of h1, getD_of h2, getD_of h3, getD_of h4, bind_is hx2, bind_is hx3, map_is hx4]
  cases (num f2).isSome <;> cases (num f3).isSome <;> cases (num f4).isSome <;> rfl
theorem step_init {f1 f2 : Str} {x1 : Int} (h0 : f[0]? = some kInit) (hn : f.length = 3) (hr : m.rends ≠ []) (h1 : f[1]? = some f1) (h2 : f[2]? = some f2) (hx1 : ∀ v, num f1 = some v → x1 = v) :
    stepO num f m = if (true && (num f1).isSome) = true then some { m with rends := onLast (fun l => { l with init := ⟨0, x1, f2⟩ }) m.rends } else none := by
  unfold stepO
  rw [if_neg (by rw [head_of h0]; rintro ⟨h, _⟩; exact absurd h (by decide)), if_neg (by rw [head_of h0]; rintro ⟨h, _⟩; exact absurd h (by decide)), if_pos ⟨head_of h0, hn, hr⟩, getD_of h1, getD_of h2, map_is hx1]
  cases (num f1).isSome <;> rfl
theorem step_piece {f1 f2 f3 : Str} {x1 x2 : Int} (h0 : f[0]? = some kPiece) (hn : f.length = 4) (hr : m.rends ≠ []) (h1 : f[1]? = some f1) (h2 : f[2]? = some f2) (h3 : f[3]? = some f3) (hx1 : ∀ v, num f1 = some v → x1 = v) (hx2 : ∀ v, num f2 = some v → x2 = v) :
    stepO num f m = if (true && (num f1).isSome && (num f2).isSome) = true then some { m with rends := onLast (fun l => { l with pieces := l.pieces ++ [⟨x1, x2, f3⟩] }) m.rends } else none := by
  unfold stepO
  rw [if_neg (by rw [head_of h0]; rintro ⟨h, _⟩; exact absurd h (by decide)), if_neg (by rw [head_of h0]; rintro ⟨h, _⟩; exact absurd h (by decide)), if_neg (by rw [head_of h0]; rintro ⟨h, _⟩; exact absurd h (by decide)), if_pos ⟨head_of h0, hn, hr⟩, getD_of h1, getD_of h2, getD_of h3, bind_is hx1, map_is hx2]
  cases (num f1).isSome <;> cases (num f2).isSome <;> rfl
theorem step_else {f0 : Str} (h0 : f[0]? = some f0) (q1 : ¬ (f0 = kScale ∧ f.length = 4)) (q2 : ¬ (f0 = kRend ∧ f.length = 5)) (q3 : ¬ (f0 = kInit ∧ f.length = 3 ∧ m.rends ≠ [])) (q4 : ¬ (f0 = kPiece ∧ f.length = 4 ∧ m.rends ≠ [])) : stepO num f m = some m := by
  have hh := head_of h0
  unfold stepO
  rw [hh, if_neg (fun h => q1 ⟨by injection h.1, h.2⟩), if_neg (fun h => q2 ⟨by injection h.1, h.2⟩), if_neg (fun h => q3 ⟨by injection h.1, h.2⟩), if_neg (fun h => q4 ⟨by injection h.1, h.2⟩)]
def cnt (m : Mf) : Nat := m.rends.length + (m.rends.map fun l => l.pieces.length).sum
theorem cnt_rend {l : Ls} (hl : l.pieces = []) : cnt { m with rends := m.rends ++ [l] } ≤ cnt m + 1 := by
  unfold cnt
  simp [hl]
  omega
theorem cnt_last {ls : List Ls} {l l' : Ls} (hr : m.rends = ls ++ [l]) (hl : l'.pieces.length ≤ l.pieces.length + 1) : cnt { m with rends := onLast (fun _ => l') m.rends } ≤ cnt m + 1 := by
  unfold cnt
  rw [hr, onLast_app]
  simp
  omega
theorem cnt_in {l : Ls} (hl : l ∈ m.rends) : l.pieces.length ≤ cnt m := by
  unfold cnt
  have key : ∀ (ls : List Ls), l ∈ ls → l.pieces.length ≤ (ls.map fun l => l.pieces.length).sum := by
    intro ls
    induction ls with
    | nil => exact fun h => (by cases h)
    | cons x r ih =>
      intro h
      rw [List.map_cons, List.sum_cons]
      rcases List.mem_cons.1 h with rfl | h
      · omega
      · have := ih h
        omega
  have := key m.rends hl
  omega
end Go.Proofs.YtkobngipbhjfjaaDoor
