/-
  A range over a function whose iterator keeps its state in a cell of its own (block sb): the law, by the model's own steps.
-/
import Derived.Test.YtkobngipbhjfjaaDoorMfEnv
import Derived.RangeFuncNested
import Derived.RangeFuncBound
import Derived.RangeFuncCalls
import Derived.RangeFuncLeaves
namespace Go.Proofs.YtkobngipbhjfjaaDoor
open Go.RowKit

/-- Three blocks lie as they lay. -/
def Keep3 (a b c : Nat) (W W' : World) : Prop := W'.heap[a]? = W.heap[a]? ∧ W'.heap[b]? = W.heap[b]? ∧ W'.heap[c]? = W.heap[c]?
theorem Keep3.trans {a b c : Nat} {A B C : World} (h : Keep3 a b c A B) (k : Keep3 a b c B C) : Keep3 a b c A C := ⟨k.1.trans h.1, k.2.1.trans h.2.1, k.2.2.trans h.2.2⟩
theorem Keep3.put {a b c : Nat} {W : World} {l : Nat} {o : Obj} (ha : a ≠ l) (hb : b ≠ l) (hc : c ≠ l) : Keep3 a b c W (W.putObj l o) := ⟨World.putObj_heap_other ha, World.putObj_heap_other hb, World.putObj_heap_other hc⟩
/-- How the body of a round may be left. -/
def bodyC (B : Nat) (Kp : World → World → Prop) (I X : World → Prop) (W : World) : Exit → Act → World → Prop
  | .normal, _, W' => KeepsFrom B W W' ∧ Kp W W' ∧ I W'
  | .ret, _, W' => KeepsFrom B W W' ∧ X W'
  | _, _, _ => False
/-- What the iterator does with whatever body. -/
def IterC (P : Program) (n gf : Nat) (lb : Array Value) (encs : Str → Array Value) (sb : Nat) (Kp : World → World → Prop) (G S : List Str → Prop) (w : World) : Prop :=
  ∀ (l : Nat) (J : List Str → World → Prop) (Jx : World → Prop) (W : World), Below w.heap.size w W → (∀ s W, J s W → Env W) → (∀ s W v, J s W → J s (W.setCell ⟨sb, 0, none⟩ v)) →
    (∀ pre x W1, J pre W1 → G (pre ++ [x]) → YieldAt Fence.wide (n - 1) P l (encs x) W1 fun e W' => (e = .returned (.bool true) ∧ J (pre ++ [x]) W' ∧ Kp W1 W') ∨ (e = .returned (.bool false) ∧ Jx W')) →
    J [] W → CallsIn Fence.wide n P gf (#[.func (.yield l) #[] #[]] ++ lb) W fun e W' => (∃ v, e = .returned v) ∧ ((∃ xs, S xs ∧ J xs W') ∨ Jx W')
theorem own_put {I : World → Prop} {B : Nat} (hI : OwnFrom B fun (_ : Unit) W => I W) {W : World} {l : Nat} {o : Obj} (o' : Obj) (h : I W) (hB : B ≤ l) (hl : W.heap[l]? = some o) (ho : o.isCells = false) : I (W.putObj l o') := OwnFrom.putObj (s := ()) hI o' h hB hl ho

theorem wpIn_rangeC {P : Program} {n : Nat} {g : Operand} {ps : Array Tmp} {assign body : Code} {Q : Exit → Act → World → Prop} {a : Act} {w : World}
    (h1 : 1 ≤ n) {gf : Nat} {lb : Array Value} (hg : a.eval g = .func (.func gf) #[] lb) (eg : ∀ args w, (callFunc gf args).run P w = .ok (.enter gf args) w)
    {encs : Str → Array Value} (hps : ∀ x, (encs x).size = ps.size) {sb : Nat} {Kp : World → World → Prop} {G S : List Str → Prop} (hit : IterC P (n - 1) gf lb encs sb Kp G S w) (hsb : sb < w.heap.size)
    (hKt : ∀ {A B C : World}, Kp A B → Kp B C → Kp A C) (hKb : ∀ (W : World) (l : Nat) (o : Obj), w.heap.size ≤ l → Kp W (W.putObj l o))
    (I : List Str → World → Prop) (X : World → Prop) (hI : OwnFrom w.heap.size I) (hX : OwnFrom w.heap.size fun (_ : Unit) W => X W) (hIE : ∀ s W, I s W → Env W) (hIs : ∀ s W v, I s W → I s (W.setCell ⟨sb, 0, none⟩ v)) (h0 : I [] w) (a₁ : Str → Act)
    (hassign : ∀ (l : Nat) (x : Str) (W : World) (K : Act → World → Prop), K (a₁ x) W →
      assign.wpIn (Fence.wide.inRound l) (n - 1 - 1) P (Exit.then K (fun _ _ _ => False)) { tmps := (ps.zip (encs x)).foldl (fun t (p, v) => t.setIfInBounds p v) a.tmps, defers := [] } W)
    (hbody : ∀ (l : Nat) (pre : List Str) (x : Str) (W : World), I pre W → G (pre ++ [x]) → body.wpIn (Fence.wide.inRound l) (n - 1 - 1) P (bodyC w.heap.size Kp (I (pre ++ [x])) X W) (a₁ x) W)
    (hdone : ∀ (D : Nat) (xs : List Str) (W : World), w.heap.size ≤ D → S xs → I xs W → W.heap[D]? = some (.deferred (some [])) → Q .normal { a with defers := { target := .collected D, args := #[] } :: a.defers } W)
    (hstop : ∀ (D : Nat) (W : World), w.heap.size ≤ D → X W → W.heap[D]? = some (.deferred (some [])) → Code.ret.wpIn Fence.wide n P Q { a with defers := { target := .collected D, args := #[] } :: a.defers } W) :
    (Code.rangeFunc g ps assign body).wpIn Fence.wide n P Q a w := by
  refine wpIn_rangeFunc (fun fn hfn => ?_)
  generalize hrec : (fun (st : LoopState) (pe : Option Code) => ({ state := st, pending := pe, fn, tmps := a.tmps, params := ps, assign, body, defers := w.heap.size } : Loop)) = rec
  have hst : ∀ st pe, (rec st pe).state = st := fun st pe => by rw [← hrec]
  generalize hW1 : (w.alloc (.deferred (some []))).alloc (.loop (rec .ready none)) = W1
  have hL1 : W1.heap[w.heap.size + 1]? = some (.loop (rec .ready none)) := by
    have := World.alloc_heap_new (w.alloc (.deferred (some []))) (.loop (rec .ready none))
    rw [World.size_alloc, hW1] at this
    exact this
  have hK1 : W1.heap[w.heap.size]? = some (.deferred (some [])) := by
    rw [← hW1]
    exact (Below.heap_alloc _ _ _ (by simp)).trans (World.alloc_heap_new w _)
  have hI1 : I [] W1 := by
    rw [← hW1]
    exact hI.alloc _ (hI.alloc _ h0)
  have hB1 : Below w.heap.size w W1 := by
    rw [← hW1]
    exact ((Below.refl _ w).alloc (Nat.le_refl _) _).alloc (by simp) _
  refine ⟨w.heap.size + 1, [{ target := .collected w.heap.size, args := #[] }], W1, { target := .fn (.func gf) lb, args := #[.func (.yield (w.heap.size + 1)) #[] #[]] }, W1, gf,
    #[.func (.yield (w.heap.size + 1)) #[] #[]] ++ lb, W1, ?_, ?_, fun _ _ => trivial, ?_, fun _ => h1, ?_⟩
  · rw [← hW1, ← hrec]
    exact run_enterLoop_outer _ _ _ _ _
  · simp only [resolve, hg]
    simp [go_sem]
  · simp [invoke, go_sem, eg]
  · have put : ∀ {W : World} {o : Obj} (o' : Obj), W.heap[w.heap.size + 1]? = some o → (W.putObj (w.heap.size + 1) o').heap[w.heap.size + 1]? = some o' := fun o' h => World.putObj_heap_same (Array.getElem?_eq_some_iff.1 h).1
    have other : ∀ {W : World} (o' : Obj), W.heap[w.heap.size]? = some (.deferred (some [])) → (W.putObj (w.heap.size + 1) o').heap[w.heap.size]? = some (.deferred (some [])) := fun o' h => (World.putObj_heap_other (by omega)).trans h
    have cell : ∀ {W : World} (k : Nat) (v : Value), w.heap.size ≤ k → (W.setCell ⟨sb, 0, none⟩ v).heap[k]? = W.heap[k]? := fun k v hk => Below.heap_setCell _ ⟨sb, 0, none⟩ v k (by simp only; omega)
    refine (hit (w.heap.size + 1)
      (fun pre W => I pre W ∧ W.heap[w.heap.size + 1]? = some (.loop (rec .ready none)) ∧ W.heap[w.heap.size]? = some (.deferred (some [])))
      (fun W => X W ∧ W.heap[w.heap.size + 1]? = some (.loop (rec .done (some .ret))) ∧ W.heap[w.heap.size]? = some (.deferred (some [])))
      W1 hB1 (fun s W h => hIE s W h.1) (fun s W v h => ⟨hIs s W v h.1, (cell _ v (by omega)).trans h.2.1, (cell _ v (Nat.le_refl _)).trans h.2.2⟩) ?_ ⟨hI1, hL1, hK1⟩).mono ?_
    · rintro pre x W ⟨hi, hl, hk⟩ hGx
      have hy := run_yield (P := P) (args := encs x) hl (by rw [← hrec]; exact hps x)
      rw [← hrec] at hy
      refine ⟨fn, _, assign, body, hy, roundIn_of_wpIn hfn (hassign _ x W _ ⟨_, run_beginRound hl (hst _ _), ?_⟩)⟩
      generalize hbz : ({ rec .ready none with state := .busy } : Loop) = bz
      have hbr : bz = rec .busy none := by rw [← hbz, ← hrec]
      have hl2 := put (.loop bz) hl
      have hk2 := other (.loop bz) hk
      refine wpIn_mono (hbody _ pre x _ (hI.putObj _ hi (by omega) hl rfl) hGx) ?_
      have fin : ∀ (jump : Option Code) (W3 : World), KeepsFrom w.heap.size (W.putObj (w.heap.size + 1) (.loop bz)) W3 →
          (Instr.endRound (w.heap.size + 1) jump).run P W3 = .ok (.bool jump.isNone) (W3.putObj (w.heap.size + 1) (.loop (rec (if jump.isNone then .ready else .done) jump))) ∧ W3.heap[w.heap.size + 1]? = some (.loop bz) ∧ W3.heap[w.heap.size]? = some (.deferred (some [])) := fun jump W3 hk3 => by
        have hl3 := hk3.same _ _ (by omega) hl2 rfl
        have hr := run_endRound (P := P) jump hl3
        rw [hbr, ← hrec] at hr
        exact ⟨by rw [← hrec]; exact hr, hl3, hk3.same _ _ (Nat.le_refl _) hk2 rfl⟩
      rintro e a3 W3 hp
      cases e with
      | normal =>
        obtain ⟨hk3, hkp, hi3⟩ := hp
        obtain ⟨hr, hl3, hd3⟩ := fin none W3 hk3
        exact ⟨_, _, hr, .inl ⟨rfl, ⟨hI.putObj _ hi3 (by omega) hl3 rfl, put _ hl3, other _ hd3⟩, hKt (hKb _ _ _ (by omega)) (hKt hkp (hKb _ _ _ (by omega)))⟩⟩
      | ret =>
        obtain ⟨hk3, hx3⟩ := hp
        obtain ⟨hr, hl3, hd3⟩ := fin (some .ret) W3 hk3
        exact ⟨_, _, hr, .inr ⟨rfl, own_put hX _ hx3 (by omega) hl3 rfl, put _ hl3, other _ hd3⟩⟩
      | exit id => exact hp.elim
      | goto t => exact hp.elim
      | panic ch => exact hp.elim
      | outgrown => exact hp.elim
    · rintro e W2 ⟨⟨v, rfl⟩, h⟩
      rcases h with ⟨xs, hS, hi, hl, hk⟩ | ⟨hx, hl, hk⟩
      · have hr := run_endLoop (P := P) hl (by rw [hst]; simp)
        rw [← hrec] at hr
        exact ⟨none, _, hr, hdone _ xs _ (Nat.le_refl _) hS (hI.putObj _ hi (by omega) hl rfl) (other _ hk)⟩
      · have hr := run_endLoop (P := P) hl (by rw [hst]; simp)
        rw [← hrec] at hr
        exact ⟨some .ret, _, hr, hstop _ _ (Nat.le_refl _) (own_put hX _ hx (by omega) hl rfl) (other _ hk)⟩
end Go.Proofs.YtkobngipbhjfjaaDoor
