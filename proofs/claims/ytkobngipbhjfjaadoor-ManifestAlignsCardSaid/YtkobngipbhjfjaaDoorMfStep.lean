/-
  A manifest of the call's own, one line further; and what else has turned: nothing.
-/
import Derived.Test.YtkobngipbhjfjaaDoorMfOwn
import Derived.Test.YtkobngipbhjfjaaDoorTMod
namespace Go.Proofs.YtkobngipbhjfjaaDoor
open Go.RowKit

/-! ### What turns -/
def Ty2 (t : TypeId) : Bool := t == 35 || t == 32
structure Fr (B mb : Nat) (w w' : World) : Prop where
  os : w'.os = w.os
  tape : w'.tape = w.tape
  output : w'.output = w.output
  size : w.heap.size ≤ w'.heap.size
  same : ∀ (k : Nat) (o : Obj), w.heap[k]? = some o → k ≠ mb → (B ≤ k → ∀ t, tyOf o = some t → Ty2 t = false) → w'.heap[k]? = some o
theorem Fr.refl (B mb : Nat) (w : World) : Fr B mb w w := ⟨rfl, rfl, rfl, Nat.le_refl _, fun _ _ h _ _ => h⟩
theorem Fr.trans {B mb : Nat} {a b c : World} (h : Fr B mb a b) (k : Fr B mb b c) : Fr B mb a c :=
  ⟨k.os.trans h.os, k.tape.trans h.tape, k.output.trans h.output, Nat.le_trans h.size k.size, fun i o ho h1 h2 => k.same i o (h.same i o ho h1 h2) h1 h2⟩
/-- A step behind w1 that turns only what is new since w, or the manifest, or rows of its own. -/
theorem Fr.step {B mb : Nat} {S : Nat → Prop} {w w1 w2 : World} (h : Fr B mb w w1) (k : Mod S w1 w2) (hS : ∀ i, S i → w.heap.size ≤ i ∨ i = mb ∨ (B ≤ i ∧ ∃ t cs, Blk w1 i t cs ∧ Ty2 t = true)) : Fr B mb w w2 := by
  refine ⟨k.os.trans h.os, k.tape.trans h.tape, k.output.trans h.output, Nat.le_trans h.size k.size, fun i o ho h1 h2 => ?_⟩
  have hlt := (Array.getElem?_eq_some_iff.1 ho).1
  have e1 := h.same i o ho h1 h2
  refine (k.block i (Nat.lt_of_lt_of_le hlt h.size) (fun hs => ?_)).trans e1
  rcases hS i hs with h3 | h3 | ⟨h3, t, cs, h4, h5⟩
  · omega
  · exact h1 h3
  · unfold Blk at h4
    rw [h4] at e1
    injection e1 with e1
    subst e1
    rw [h2 h3 t rfl] at h5
    cases h5
theorem Fr.quiet {B mb : Nat} {w w1 w2 : World} (h : Fr B mb w w1) (k : Mod (fun _ => False) w1 w2) : Fr B mb w w2 := h.step k (fun _ h => h.elim)
theorem Fr.base {B mb : Nat} {W w w' : World} (h : Mod (fun _ => False) W w) (k : Fr B mb w w') (hB : W.heap.size ≤ B) (hm : W.heap.size ≤ mb) : Mod (fun _ => False) W w' := by
  refine ⟨k.os.trans h.os, k.tape.trans h.tape, k.output.trans h.output, Nat.le_trans h.size k.size, fun i hi _ => ?_⟩
  have e := h.block i hi (fun h => h)
  cases ho : W.heap[i]? with
  | none => have := Array.getElem?_eq_none_iff.1 ho; omega
  | some o =>
    rw [ho] at e
    exact k.same i o e (by omega) (fun h => by omega)
theorem Blk.fr {B mb : Nat} {w w' : World} {g : Nat} {t : TypeId} {cs : Array Value} (h : Blk w g t cs) (k : Fr B mb w w') (hg : g ≠ mb) (ht : Ty2 t = false) : Blk w' g t cs :=
  k.same g _ h hg (fun _ t' ht' => by simp only [tyOf, Option.some.injEq] at ht'; rw [← ht']; exact ht)

/-! ### The manifest -/
theorem MfOwn.keep {w w' : World} {S : Nat → Prop} {B mb : Nat} {v : Value} {ps : List (Ls × Value)} {m : Mf} (h : MfOwn w B mb v ps m) (hm : Mod S w w') (hmb : ¬ S mb) (hrow : ∀ g t cs, Blk w g t cs → Ty2 t = true → ¬ S g) : MfOwn w' B mb v ps m :=
  ⟨h.blk.keep hm hmb, own_mod h.row hm (fun g hg hs => by obtain ⟨_, cs, hb⟩ := own_blk h.row hg; exact hrow g _ cs hb rfl hs), h.rends,
   fun p hp => own_mod (h.pcs p hp) hm (fun g hg hs => by obtain ⟨_, cs, hb⟩ := own_blk (h.pcs p hp) hg; exact hrow g _ cs hb rfl hs), h.apart, h.low, h.nums, h.ok⟩
theorem MfOwn.quiet {w w' : World} {B mb : Nat} {v : Value} {ps : List (Ls × Value)} {m : Mf} (h : MfOwn w B mb v ps m) (hm : Mod (fun _ => False) w w') : MfOwn w' B mb v ps m := h.keep hm (fun h => h) (fun _ _ _ _ _ h => h)
/-- Another block's cells turned. -/
theorem MfOwn.other {w w' : World} {B mb g : Nat} {t : TypeId} {cs : Array Value} {v : Value} {ps : List (Ls × Value)} {m : Mf} (h : MfOwn w B mb v ps m) (hm : Mod (· = g) w w') (hb : Blk w g t cs) (ht : Ty2 t = false) (hg : mb ≠ g) : MfOwn w' B mb v ps m :=
  h.keep hm hg (fun i t' cs' hi ht' e => by
    subst e
    unfold Blk at hb hi
    rw [hb] at hi
    injection hi with hi
    injection hi with _ e2
    subst e2
    rw [ht] at ht'
    cases ht')
theorem MfOwn.scale_ {w : World} {B mb : Nat} {v : Value} {ps : List (Ls × Value)} {m : Mf} (h : MfOwn w B mb v ps m) (a b : Int) (ha : I64 a) (hb : I64 b) :
    MfOwn ((w.setCell ⟨mb, 0, none⟩ (.int .i64 a)).setCell ⟨mb, 1, none⟩ (.int .i64 b)) B mb v ps { m with scale := a, tick := b } ∧ Mod (· = mb) w ((w.setCell ⟨mb, 0, none⟩ (.int .i64 a)).setCell ⟨mb, 1, none⟩ (.int .i64 b)) := by
  have hmm : Mod (· = mb) w ((w.setCell ⟨mb, 0, none⟩ (.int .i64 a)).setCell ⟨mb, 1, none⟩ (.int .i64 b)) := ((Mod.refl (· = mb) w).setCell (p := ⟨mb, 0, none⟩) (.inl rfl) _).setCell (p := ⟨mb, 1, none⟩) (.inl rfl) _
  refine ⟨⟨(h.blk.put (i := 0) (u := .int .i64 a) (cs' := #[.int .i64 a, .int .i64 m.tick, v]) rfl).put rfl, own_mod h.row hmm (fun g hg e => own_ne_blk h.row h.blk (by decide) (by rw [hg, e])), h.rends, fun p hp => own_mod (h.pcs p hp) hmm (fun g hg e => own_ne_blk (h.pcs p hp) h.blk (by decide) (by rw [hg, e])), h.apart, h.low, ⟨ha, hb, h.nums.2.2⟩, h.ok⟩, hmm⟩
theorem rows_ne {w : World} {B : Nat} {u v : Value} {n n' : Nat} {xs ys : List Value} (hu : w.ownsRow B 32 3 u n xs) (hv : w.ownsRow B 35 8 v n' ys) {g : Nat} (h1 : u.ownBlock = some g) (h2 : v.ownBlock = some g) : False := by
  obtain ⟨_, cs, hb⟩ := own_blk hv h2
  exact own_ne_blk hu hb (by decide) h1
/-- One rendition more. -/
theorem MfOwn.addR {w w2 : World} {B mb : Nat} {v v' : Value} {ps : List (Ls × Value)} {m : Mf} (h : MfOwn w B mb v ps m) (l : Ls) (hp : l.pieces = []) (hl : l.Ok) (hn : m.rends.length < 1048576)
    (hrow : w2.ownsRow B 35 8 v' (ps.length + 1) ((ps.flatMap fun p => lsU p.1 p.2) ++ lsU l (.slice none 0 0))) (hm : Mod (fun j => v.ownBlock = some j) w w2) :
    MfOwn (w2.setCell ⟨mb, 2, none⟩ v') B mb v' (ps ++ [(l, .slice none 0 0)]) { m with rends := m.rends ++ [l] } ∧ Mod (fun j => j = mb ∨ v.ownBlock = some j) w (w2.setCell ⟨mb, 2, none⟩ v') := by
  have hvb : v.ownBlock ≠ some mb := own_ne_blk h.row h.blk (by decide)
  have hb2 := h.blk.keep hm hvb
  have hmm : Mod (· = mb) w2 (w2.setCell ⟨mb, 2, none⟩ v') := (Mod.refl (· = mb) w2).setCell (p := ⟨mb, 2, none⟩) (.inl rfl) _
  refine ⟨⟨hb2.put rfl, ?_, by rw [List.map_append, h.rends]; rfl, ?_, ?_, h.low, ⟨h.nums.1, h.nums.2.1, by show (m.rends ++ [l]).length ≤ 1048576; rw [List.length_append, List.length_singleton]; omega⟩, ?_⟩, (hm.mono (fun _ h => .inr h)).trans (hmm.mono (fun _ h => .inl h))⟩
  · have h3 := own_mod hrow hmm (fun g hg e => own_ne_blk hrow hb2 (by decide) (by rw [hg, e]))
    rw [List.length_append, List.length_singleton, List.flatMap_append, List.flatMap_singleton]
    exact h3
  · intro p hp'
    rw [List.mem_append, List.mem_singleton] at hp'
    rcases hp' with hp' | rfl
    · have h3 := own_mod (h.pcs p hp') hm (fun g hg e => rows_ne (h.pcs p hp') h.row hg e)
      exact own_mod h3 hmm (fun g hg e => own_ne_blk h3 hb2 (by decide) (by rw [hg, e]))
    · unfold PcsOwn
      show World.ownsRow _ _ _ _ _ l.pieces.length (l.pieces.flatMap pcV)
      rw [hp]
      exact World.ownsRow_nil _ _ _ _
  · rw [List.pairwise_append]
    refine ⟨h.apart, List.pairwise_singleton _ _, fun p _ q hq g _ => ?_⟩
    rw [List.mem_singleton] at hq
    subst hq
    exact fun h => (by cases h)
  · intro l' hl'
    have hl' : l' ∈ m.rends ++ [l] := hl'
    rw [List.mem_append, List.mem_singleton] at hl'
    rcases hl' with hl' | rfl
    · exact h.ok l' hl'
    · exact ⟨hl, by rw [hp]; exact ⟨by simp, fun _ h => by cases h⟩⟩
theorem splice_at (a b c : List Value) (i : Nat) : splice (a ++ b) (a.length + i) c = a ++ splice b i c := by
  unfold splice
  rw [List.take_length_add_append, Nat.add_assoc, List.drop_length_add_append]
  simp
/-- The last rendition, turned. -/
theorem MfOwn.last_ {w w' : World} {B mb g n c i : Nat} {ps : List (Ls × Value)} {l l' : Ls} {u u' : Value} {m : Mf} {cells : List Value} {cur : Array Value}
    (h : MfOwn w B mb (.slice (some ⟨g, 0, none⟩) n c) (ps ++ [(l, u)]) m) (hg : Blk w g 35 cur) (hsp : splice (lsU l u) i cells = lsU l' u') (hi : i + cells.length ≤ 8)
    (hb : Blk w' g 35 (splice cur.toList (ps.length * 8 + i) cells).toArray) (S : Nat → Prop) (hm : Mod (fun j => j = g ∨ S j) w w')
    (hS : ∀ j, S j → u.ownBlock = some j) (hu : PcsOwn w' B u' l'.pieces) (hap : ∀ j, u'.ownBlock = some j → u.ownBlock = some j ∨ w.heap.size ≤ j) (hok : l'.Ok ∧ Pcs.Ok l'.pieces) :
    MfOwn w' B mb (.slice (some ⟨g, 0, none⟩) n c) (ps ++ [(l', u')]) { m with rends := onLast (fun _ => l') m.rends } := by
  have hup := h.pcs (l, u) (by simp)
  have hne : ∀ p ∈ ps, ∀ j, p.2.ownBlock = some j → ¬ (j = g ∨ S j) := by
    intro p hp j hj hs
    have hpp := h.pcs p (by simp [hp])
    rcases hs with rfl | hs
    · exact own_ne_blk hpp hg (by decide) hj
    · have := List.pairwise_append.1 h.apart
      exact this.2.2 p hp (l, u) (by simp) j hj (hS j hs)
  have hmbS : ¬ (mb = g ∨ S mb) := by
    rintro (e | e)
    · subst e
      exact Blk.ne_ h.blk hg (by decide) rfl
    · exact own_ne_blk hup h.blk (by decide) (hS mb e)
  have hre : m.rends = ps.map Prod.fst ++ [l] := by rw [← h.rends]; simp
  refine ⟨h.blk.keep hm hmbS, ?_, by show _ = onLast (fun _ => l') m.rends; rw [hre, onLast_app]; simp, ?_, ?_, h.low, ⟨h.nums.1, h.nums.2.1, ?_⟩, ?_⟩
  · obtain ⟨g', cap, cur', hv, h1, h2, h3, h4, h5, h6⟩ := own_some h.row (by simp)
    injection hv with e1 e2 e3
    injection e1 with e1
    injection e1 with e1
    subst e1
    subst e3
    unfold Blk at h2 hg
    rw [hg] at h2
    injection h2 with h2
    injection h2 with h2
    subst h2
    have hx := flat_length lsU_len (ps ++ [(l, u)])
    have hoff : ps.length * 8 + i + cells.length ≤ ((ps ++ [(l, u)]).flatMap fun p => lsU p.1 p.2).length := by
      rw [hx, List.length_append, List.length_singleton]
      omega
    have := own_splice (w := w') hx h1 hb h3 h4 (by rw [Array.length_toList]; exact h5) h6 hoff
    rw [e2]
    rw [List.length_append, List.length_singleton] at this
    rw [List.length_append, List.length_singleton, List.length_append, List.length_singleton]
    rw [List.flatMap_append, List.flatMap_singleton] at this ⊢
    rw [← flat_length lsU_len ps, splice_at, hsp] at this
    exact this
  · intro p hp
    rw [List.mem_append, List.mem_singleton] at hp
    rcases hp with hp | rfl
    · exact own_mod (h.pcs p (by simp [hp])) hm (fun j hj => hne p hp j hj)
    · exact hu
  · have := List.pairwise_append.1 h.apart
    rw [List.pairwise_append]
    refine ⟨this.1, List.pairwise_singleton _ _, fun p hp q hq j hj hq2 => ?_⟩
    rw [List.mem_singleton] at hq
    subst hq
    rcases hap j hq2 with h1 | h1
    · exact this.2.2 p hp (l, u) (by simp) j hj h1
    · have := (own_blk (h.pcs p (by simp [hp])) hj).2
      obtain ⟨cs, hb⟩ := this
      have := hb.lt
      omega
  · show (onLast (fun _ => l') m.rends).length ≤ 1048576
    rw [hre, onLast_app]
    have := h.nums.2.2
    rw [hre] at this
    simpa using this
  · intro x hx
    have hx : x ∈ onLast (fun _ => l') m.rends := hx
    rw [hre, onLast_app, List.mem_append, List.mem_singleton] at hx
    rcases hx with hx | rfl
    · exact h.ok x (by rw [hre]; simp [hx])
    · exact hok
theorem pc0_ok : Pc.Ok ⟨0, 0, []⟩ := ⟨⟨by decide, by decide⟩, ⟨by decide, by decide⟩, by simp⟩
theorem zero_ok : I64 0 := ⟨by decide, by decide⟩
theorem pcI_ok {x : Int} {s : Str} (hx : I64 x) (hs : s.length ≤ 9223372036854775807) : Pc.Ok ⟨0, x, s⟩ := ⟨zero_ok, hx, hs⟩
theorem pcsOk_snoc {l : List Pc} {p : Pc} (h : Pcs.Ok l) (hp : p.Ok) (hl : l.length < 1048576) : Pcs.Ok (l ++ [p]) := by
  refine ⟨by rw [List.length_append, List.length_singleton]; omega, fun x hx => ?_⟩
  rw [List.mem_append, List.mem_singleton] at hx
  rcases hx with hx | rfl
  · exact h.2 x hx
  · exact hp
theorem lsU_one (l : Ls) (u : Value) (hu : u.oneCell' = true) : ∀ v ∈ lsU l u, v.oneCell' = true := by
  intro v hv
  simp only [lsU, List.mem_cons, List.not_mem_nil, or_false] at hv
  rcases hv with rfl | rfl | rfl | rfl | rfl | rfl | rfl | rfl <;> first | rfl | exact hu
theorem onLast_is {ls : List Ls} {l : Ls} {r : List Ls} (F : Ls → Ls) (h : r = ls ++ [l]) : onLast (fun _ => F l) r = onLast F r := by rw [h, onLast_app, onLast_app]
theorem set_splice {cs : Array Value} {j : Nat} {u : Value} (h : j < cs.size) : cs.setIfInBounds j u = (splice cs.toList j [u]).toArray := by
  cases cs with
  | mk l =>
    have h' : j < l.length := h
    rw [List.setIfInBounds_toArray, List.set_eq_take_append_cons_drop, if_pos h']
    simp [splice]
theorem MfOwn.cell7 {w : World} {B mb g n c : Nat} {ps : List (Ls × Value)} {l : Ls} {u : Value} {m : Mf} (h : MfOwn w B mb (.slice (some ⟨g, 0, none⟩) n c) (ps ++ [(l, u)]) m) (hn : n = (ps ++ [(l, u)]).length) : w.cell? ⟨g, ps.length * 8 + 7, none⟩ = some u := by
  subst hn
  refine own_cell h.row ?_
  rw [flat_get lsU_len (x := (l, u)) (by simp) 7 (by omega)]
  rfl
end Go.Proofs.YtkobngipbhjfjaaDoor
