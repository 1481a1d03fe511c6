/-
  A world of which only blocks of named element types, from B on, have turned; and those are of their types still.
-/
import Derived.Test.YtkobngipbhjfjaaDoorAppend
namespace Go.Proofs.YtkobngipbhjfjaaDoor
open Go.RowKit

def tyOf : Obj → Option TypeId
  | .cells _ t _ => some t
  | _ => none

structure TMod (B : Nat) (T : TypeId → Bool) (w w' : World) : Prop where
  os : w'.os = w.os
  tape : w'.tape = w.tape
  output : w'.output = w.output
  size : w.heap.size ≤ w'.heap.size
  low : ∀ k, k < B → k < w.heap.size → w'.heap[k]? = w.heap[k]?
  same : ∀ (k : Nat) (o : Obj), w.heap[k]? = some o → (∀ t, tyOf o = some t → T t = false) → w'.heap[k]? = some o

theorem TMod.refl (B : Nat) (T : TypeId → Bool) (w : World) : TMod B T w w := ⟨rfl, rfl, rfl, Nat.le_refl _, fun _ _ _ => rfl, fun _ _ h _ => h⟩
theorem TMod.trans {B : Nat} {T : TypeId → Bool} {a b c : World} (h : TMod B T a b) (k : TMod B T b c) : TMod B T a c :=
  ⟨k.os.trans h.os, k.tape.trans h.tape, k.output.trans h.output, Nat.le_trans h.size k.size,
   fun i hi hl => (k.low i hi (Nat.lt_of_lt_of_le hl h.size)).trans (h.low i hi hl),
   fun i o ho hT => k.same i o (h.same i o ho hT) hT⟩
theorem TMod.base {B B' : Nat} {T : TypeId → Bool} {w w' : World} (h : TMod B T w w') (hB : B' ≤ B) : TMod B' T w w' := ⟨h.os, h.tape, h.output, h.size, fun k hk hl => h.low k (by omega) hl, h.same⟩
theorem TMod.mono {B : Nat} {T T' : TypeId → Bool} {w w' : World} (h : TMod B T w w') (hT : ∀ t, T t = true → T' t = true) : TMod B T' w w' :=
  ⟨h.os, h.tape, h.output, h.size, h.low, fun k o ho hn => h.same k o ho (fun t ht => by
    cases hc : T t with
    | false => rfl
    | true => exact absurd (hT t hc) (by rw [hn t ht]; decide))⟩
theorem TMod.drew {B : Nat} {T : TypeId → Bool} {a w : World} (h : TMod B T a w) : TMod B T a w.drew := ⟨h.os, h.tape, h.output, h.size, h.low, h.same⟩
theorem TMod.drewN {B : Nat} {T : TypeId → Bool} {a w : World} (h : TMod B T a w) (n : Nat) : TMod B T a (w.drewN n) := ⟨h.os, h.tape, h.output, h.size, h.low, h.same⟩
theorem TMod.alloc {B : Nat} {T : TypeId → Bool} {a w : World} (h : TMod B T a w) (o : Obj) : TMod B T a (w.alloc o) :=
  have hh : ∀ k x, w.heap[k]? = some x → (w.alloc o).heap[k]? = some x := fun k x hx => (Below.heap_alloc w o k (Array.getElem?_eq_some_iff.1 hx).1).trans hx
  ⟨h.os, h.tape, h.output, Nat.le_trans h.size (by simp), fun k hk hl => (Below.heap_alloc w o k (Nat.lt_of_lt_of_le hl h.size)).trans (h.low k hk hl),
   fun k x hx hT => hh k x (h.same k x hx hT)⟩
/-- Out of 'only the blocks in S': each is one of the types, from B on. -/
theorem TMod.of_mod {B : Nat} {T : TypeId → Bool} {S : Nat → Prop} {w w' : World} (h : Mod S w w') (hS : ∀ k, k < w.heap.size → S k → B ≤ k ∧ ∃ t cs, Blk w k t cs ∧ T t = true) : TMod B T w w' := by
  refine ⟨h.os, h.tape, h.output, h.size, fun k hk hl => h.block k hl (fun hs => by have := (hS k hl hs).1; omega), fun k o ho hT => ?_⟩
  have hl := (Array.getElem?_eq_some_iff.1 ho).1
  by_cases hs : S k
  · obtain ⟨_, t', cs, h1, h3⟩ := hS k hl hs
    unfold Blk at h1
    rw [h1] at ho
    injection ho with ho
    subst ho
    exact absurd h3 (by rw [hT t' rfl]; decide)
  · exact (h.block k hl hs).trans ho
theorem TMod.of_quiet {B : Nat} {T : TypeId → Bool} {w w' : World} (h : Mod (fun _ => False) w w') : TMod B T w w' := .of_mod h (fun _ _ h => h.elim)
theorem TMod.setCell {B : Nat} {T : TypeId → Bool} {a w : World} (h : TMod B T a w) {g i : Nat} {t : TypeId} {cs : Array Value} (hb : Blk w g t cs) (hB : B ≤ g) (hT : T t = true) (u : Value) : TMod B T a (w.setCell ⟨g, i, none⟩ u) :=
  h.trans (.of_mod ((Mod.refl (· = g) _).setCell (by exact .inl rfl) _) (fun k _ e => by subst e; exact ⟨hB, t, cs, hb, hT⟩))
theorem TMod.below {T : TypeId → Bool} {w w' : World} (h : TMod w.heap.size T w w') : Below w.heap.size w w' := ⟨h.os, h.tape, h.output, h.size, fun k hk => h.low k hk hk⟩
theorem Blk.tmod {B : Nat} {T : TypeId → Bool} {w w' : World} {g : Nat} {t : TypeId} {cs : Array Value} (hb : Blk w g t cs) (h : TMod B T w w') (hT : T t = false) : Blk w' g t cs :=
  h.same g _ hb (fun t' ht => by simp only [tyOf, Option.some.injEq] at ht; rw [← ht]; exact hT)
theorem own_tmod {B B' : Nat} {T : TypeId → Bool} {w w' : World} {e : TypeId} {size n : Nat} {v : Value} {xs : List Value} (h : w.ownsRow B e size v n xs) (hm : TMod B' T w w') (hT : T e = false) : w'.ownsRow B e size v n xs := by
  refine ⟨h.1, ?_⟩
  rcases h.2 with hn | ⟨g, cap, cur, rfl, hb, hgg, rest⟩
  · exact .inl hn
  · exact .inr ⟨g, cap, cur, rfl, hb, Blk.tmod (cs := cur) hgg hm hT, rest⟩
theorem own_base {B B' : Nat} {w : World} {e : TypeId} {size n : Nat} {v : Value} {xs : List Value} (h : w.ownsRow B e size v n xs) (hB : B' ≤ B) : w.ownsRow B' e size v n xs :=
  ⟨h.1, h.2.imp id (fun ⟨g, cap, cur, h1, h2, h3⟩ => ⟨g, cap, cur, h1, by omega, h3⟩)⟩
/-- A row's own block is of its type. -/
theorem own_blk {B : Nat} {w : World} {e : TypeId} {size n : Nat} {v : Value} {xs : List Value} {k : Nat} (h : w.ownsRow B e size v n xs) (hk : v.ownBlock = some k) : B ≤ k ∧ ∃ cs, Blk w k e cs := by
  rcases h.2 with ⟨rfl, _⟩ | ⟨g, cap, cur, rfl, hb, hgg, rest⟩
  · simp [Value.ownBlock] at hk
  · obtain rfl : g = k := by simpa [Value.ownBlock] using hk
    exact ⟨hb, cur, hgg⟩
theorem cell_low {B : Nat} {T : TypeId → Bool} {w w' : World} (h : TMod B T w w') {p : Addr} {v : Value} (hp : p.block < B) (hc : w.cell? p = some v) : w'.cell? p = some v :=
  (World.cell?_of_block (h.low p.block hp (World.block_lt_of_cell? w p hc))).trans hc
end Go.Proofs.YtkobngipbhjfjaaDoor
