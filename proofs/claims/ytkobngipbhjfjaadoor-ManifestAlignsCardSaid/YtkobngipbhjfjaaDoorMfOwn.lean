/-
  A manifest that a call builds: its rows are the call's own.
-/
import Derived.Test.YtkobngipbhjfjaaDoorMfRow
import Derived.Test.YtkobngipbhjfjaaDoorMfOk
namespace Go.Proofs.YtkobngipbhjfjaaDoor
open Go.RowKit

theorem pc_info : (Tryd.prog.info? 32).map (fun i => (i.zero, i.size, i.bytes)) = some (some (.agg #[.int .i64 0, .int .i64 0, .string (strOf [])]), 3, 32) := by kernel_rfl
theorem ls_info : (Tryd.prog.info? 35).map (fun i => (i.zero, i.size, i.bytes)) = some (some (.agg #[.string (strOf []), .int .i64 0, .int .i64 0, .int .i64 0, .int .i64 0, .int .i64 0, .string (strOf []), .slice none 0 0]), 8, 96) := by kernel_rfl

/-! ### Rows of the call's own -/
section
variable {w w' : World} {B : Nat} {e : TypeId} {size n : Nat} {v : Value} {xs : List Value}
theorem flat_get {α β : Type} {f : α → List β} {k : Nat} (hk : ∀ x, (f x).length = k) : ∀ {l : List α} {i : Nat} {x : α}, l[i]? = some x → ∀ j < k, (l.flatMap f)[i * k + j]? = (f x)[j]?
  | [], i, x, h, j, _ => by simp at h
  | y :: r, 0, x, h, j, hj => by
    simp at h
    subst h
    rw [List.flatMap_cons, List.getElem?_append_left (by rw [hk]; omega), Nat.zero_mul, Nat.zero_add]
  | y :: r, i + 1, x, h, j, hj => by
    rw [List.getElem?_cons_succ] at h
    rw [List.flatMap_cons, List.getElem?_append_right (by rw [hk, Nat.add_mul]; omega), hk, show (i + 1) * k + j - k = i * k + j by rw [Nat.add_mul]; omega]
    exact flat_get hk h j hj
theorem flat_length {α β : Type} {f : α → List β} {k : Nat} (hk : ∀ x, (f x).length = k) (l : List α) : (l.flatMap f).length = l.length * k := by
  induction l with
  | nil => simp
  | cons x r ih => rw [List.flatMap_cons, List.length_append, hk, ih, List.length_cons, Nat.add_mul]; omega
theorem own_cell {g cap : Nat} (h : w.ownsRow B e size (.slice (some ⟨g, 0, none⟩) n cap) n xs) {j : Nat} {u : Value} (hj : xs[j]? = some u) : w.cell? ⟨g, j, none⟩ = some u := by
  have := h.cells (g := g) rfl j u hj
  rw [addr_add] at this
  exact this
theorem own_some (h : w.ownsRow B e size v n xs) (hn : 0 < n) : ∃ g cap cur, v = .slice (some ⟨g, 0, none⟩) n cap ∧ B ≤ g ∧ Blk w g e cur ∧ n ≤ cap ∧ cap ≤ maxLen ∧ cur.size = cap * size ∧ cur.toList.take (n * size) = xs := by
  rcases h.2 with ⟨_, h0⟩ | h
  · omega
  · exact h
/-- Some of its cells stored anew. -/
theorem own_splice {g cap off : Nat} {cur cells : List Value} (hx : xs.length = n * size) (hg : B ≤ g) (hb : Blk w g e (splice cur off cells).toArray) (hn : n ≤ cap) (hc : cap ≤ maxLen) (hs : cur.length = cap * size) (ht : cur.take (n * size) = xs) (hoff : off + cells.length ≤ xs.length) :
    w.ownsRow B e size (.slice (some ⟨g, 0, none⟩) n cap) n (splice xs off cells) := by
  have hle : n * size ≤ cap * size := Nat.mul_le_mul_right size hn
  have hsl : ∀ l : List Value, off + cells.length ≤ l.length → (splice l off cells).length = l.length := by
    intro l hl
    unfold splice
    simp only [List.length_append, List.length_take, List.length_drop]
    omega
  refine ⟨by rw [hsl _ hoff, hx], .inr ⟨g, cap, _, rfl, hg, hb, hn, hc, ?_, ?_⟩⟩
  · show (splice cur off cells).length = _
    rw [hsl _ (by omega), hs]
  · show (splice cur off cells).take (n * size) = _
    subst ht
    unfold splice
    rw [List.take_append, List.take_append]
    rw [List.take_take, List.take_of_length_le (l := cells) (by rw [List.length_take]; omega)]
    rw [List.take_take, show min (n * size) off = off by omega, show min off (n * size) = off by omega]
    congr 1
    rw [List.length_take] at hoff hx
    rw [List.drop_take, List.length_take, show n * size - min off cur.length - cells.length = n * size - (off + cells.length) by omega]
end

/-! ### A manifest of the call's own -/
def lsU (l : Ls) (u : Value) : List Value := [.string (strOf l.name), .int .i64 l.w, .int .i64 l.h, .int .i64 l.bw, .int .i64 l.init.fr, .int .i64 l.init.sz, .string (strOf l.init.path), u]
theorem lsU_len (p : Ls × Value) : (lsU p.1 p.2).length = 8 := rfl
theorem pcV_len (p : Pc) : (pcV p).length = 3 := rfl
def PcsOwn (w : World) (B : Nat) (u : Value) (l : List Pc) : Prop := w.ownsRow B 32 3 u l.length (l.flatMap pcV)
def Pcs.Ok (l : List Pc) : Prop := l.length ≤ 1048576 ∧ ∀ p ∈ l, p.Ok
structure MfOwn (w : World) (B mb : Nat) (v : Value) (ps : List (Ls × Value)) (m : Mf) : Prop where
  blk : Blk w mb 24 #[.int .i64 m.scale, .int .i64 m.tick, v]
  row : w.ownsRow B 35 8 v ps.length (ps.flatMap fun p => lsU p.1 p.2)
  rends : ps.map Prod.fst = m.rends
  pcs : ∀ p ∈ ps, PcsOwn w B p.2 p.1.pieces
  apart : ps.Pairwise fun p q => ∀ g, p.2.ownBlock = some g → q.2.ownBlock ≠ some g
  low : B ≤ mb
  nums : I64 m.scale ∧ I64 m.tick ∧ m.rends.length ≤ 1048576
  ok : ∀ l ∈ m.rends, l.Ok ∧ Pcs.Ok l.pieces
theorem PcsOwn.in_ {w : World} {B n c : Nat} {A : Option Addr} {l : List Pc} (h : PcsOwn w B (.slice A n c) l) (hok : Pcs.Ok l) : PcsIn w A n l := by
  have hl : l.length = n := by
    rcases h.2 with ⟨hv, h0⟩ | ⟨g, cap, cur, hv, _⟩
    · injection hv with _ h1
      omega
    · injection hv with _ h1
      exact h1.symm
  refine ⟨hl, hok.2, fun i p hp => ?_⟩
  have hlt := (List.getElem?_eq_some_iff.1 hp).1
  obtain ⟨g, cap, cur, hv, hg, hb, _⟩ := own_some h (by omega)
  injection hv with hA h1 h2
  subst hA
  have hrow : w.ownsRow B 32 3 (.slice (some ⟨g, 0, none⟩) l.length c) l.length (l.flatMap pcV) := by rw [hl]; unfold PcsOwn at h; rw [hl] at h; exact h
  refine ⟨g, 0, rfl, hb.lt, ?_, ?_, ?_⟩
  · exact own_cell hrow (by rw [Nat.zero_add, ← Nat.add_zero (i * 3), flat_get pcV_len hp 0 (by omega)]; rfl)
  · exact own_cell hrow (by rw [Nat.zero_add, flat_get pcV_len hp 1 (by omega)]; rfl)
  · exact own_cell hrow (by rw [Nat.zero_add, flat_get pcV_len hp 2 (by omega)]; rfl)
theorem MfOwn.in_ {w : World} {B mb n c : Nat} {A : Option Addr} {ps : List (Ls × Value)} {m : Mf} (h : MfOwn w B mb (.slice A n c) ps m) : MfIn w A n m := by
  have hpl : ps.length = m.rends.length := by rw [← h.rends, List.length_map]
  have hl : ps.length = n := by
    rcases h.row.2 with ⟨hv, h0⟩ | ⟨g, cap, cur, hv, _⟩
    · injection hv with _ h1
      omega
    · injection hv with _ h1
      exact h1.symm
  refine ⟨⟨h.nums.1, h.nums.2.1, by have := h.nums.2.2; omega⟩, by omega, fun i l hi => ?_⟩
  have hlt := (List.getElem?_eq_some_iff.1 hi).1
  obtain ⟨g, cap, cur, hv, hg, hb, _⟩ := own_some h.row (by omega)
  injection hv with hA h1 h2
  subst hA
  obtain ⟨p, hp⟩ : ∃ p, ps[i]? = some p := ⟨_, List.getElem?_eq_getElem (by omega)⟩
  have hpl2 : p.1 = l := by
    rw [← h.rends, List.getElem?_map, hp] at hi
    injection hi
  have hpo := h.pcs p (List.mem_of_getElem? hp)
  obtain ⟨A', n', c', hu⟩ := own_form hpo
  have hlo := h.ok l (List.mem_of_getElem? hi)
  have hrow : w.ownsRow B 35 8 (.slice (some ⟨g, 0, none⟩) ps.length c) ps.length (ps.flatMap fun p => lsU p.1 p.2) := by have := h.row; rw [hl] at this ⊢; exact this
  refine ⟨g, 0, A', n', c', rfl, hb.lt, ?_, hlo.1, ?_⟩
  · intro j u hj
    rw [Nat.zero_add]
    have hj8 : j < 8 := (List.getElem?_eq_some_iff.1 hj).1
    refine own_cell hrow ?_
    rw [flat_get lsU_len hp j hj8, hpl2, hu]
    exact hj
  · rw [hu, hpl2] at hpo
    exact hpo.in_ hlo.2
end Go.Proofs.YtkobngipbhjfjaaDoor
