/-
  A region that draws its order, walked by a plan: reads are taken while no write that may come up ahead of them is left; a write is taken where nothing else may come up.
-/
import Derived.Test.YteppnjgfebcmjaaGreatM11
import Derived.Test.YteppnjgfebcmjaaGreatM6
import Derived.Test.YteppnjgfebcmjaaGreatRows
import Derived.StillTailTactics
import Derived.RegionTactic
import Derived.Laws.Rows
namespace Go.Proofs.YteppnjgfebcmjaaGreat

section
variable {P : Program} {ops : Array Oper} {md : Region.Mode} {loud pure_ : List Nat} {Q : Exit → Act → World → Prop}
/-- B: of each operation those that it waits for, as bits; each of them by one of its own edges. -/
def waitB (md : Region.Mode) (ops : Array Oper) (B : Array Nat) : Bool :=
  (List.range ops.size).all fun j => (List.range ops.size).all fun i => !(B.getD j 0).testBit i ||
    match ops[j]? with
    | some o => o.after.any fun e => Region.binds md e && decide (e.on < j) && (e.on == i || (B.getD e.on 0).testBit i)
    | none => false
def Closed (md : Region.Mode) (ops : Array Oper) (listed : Array Bool) : Prop :=
  ∀ j oj, ops[j]? = some oj → listed.getD j false = true → ∀ e ∈ oj.after, Region.binds md e = true → listed.getD e.on false = true
theorem Closed.set {i : Nat} {listed : Array Bool} (h : Closed md ops listed) (hi : i ∈ Region.ready md ops listed) : Closed md ops (listed.setIfInBounds i true) := by
  obtain ⟨_, oi, hoi, hall⟩ := mem_ready.1 hi
  intro j oj hj hl e he hb
  by_cases hij : i = j
  · subst hij
    obtain rfl : oj = oi := Option.some.inj (hj.symm.trans hoi)
    exact getD_set_true (hall e he hb)
  · rw [getD_set_ne false hij] at hl
    exact getD_set_true (h j oj hj hl e he hb)
theorem waits_listed {B : Array Nat} {listed : Array Bool} (hB : waitB md ops B = true) (closed : Closed md ops listed) :
    ∀ (d t : Nat), t ≤ d → ∀ o, ops[t]? = some o → (∀ e ∈ o.after, Region.binds md e = true → listed.getD e.on false = true) → ∀ i, i < ops.size → (B.getD t 0).testBit i = true → listed.getD i false = true := by
  intro d
  induction d with
  | zero =>
    intro t ht o ho hd i hi hb
    obtain rfl : t = 0 := by omega
    have h1 := List.all_eq_true.1 (List.all_eq_true.1 hB 0 (List.mem_range.2 (Array.getElem?_eq_some_iff.1 ho).1)) i (List.mem_range.2 hi)
    rw [hb, ho] at h1
    simp only [Bool.not_true, Bool.false_or] at h1
    obtain ⟨e, he, h2⟩ := Array.any_eq_true'.1 h1
    simp at h2
  | succ d ih =>
    intro t ht o ho hd i hi hb
    have h1 := List.all_eq_true.1 (List.all_eq_true.1 hB t (List.mem_range.2 (Array.getElem?_eq_some_iff.1 ho).1)) i (List.mem_range.2 hi)
    rw [hb, ho] at h1
    simp only [Bool.not_true, Bool.false_or] at h1
    obtain ⟨e, he, h2⟩ := Array.any_eq_true'.1 h1
    simp only [Bool.and_eq_true, Bool.or_eq_true, beq_iff_eq, decide_eq_true_eq] at h2
    obtain ⟨⟨hbd, hlt⟩, h3⟩ := h2
    have h4 := hd e he hbd
    rcases h3 with h3 | h3
    · rw [← h3]; exact h4
    · have hon : e.on < ops.size := by have := (Array.getElem?_eq_some_iff.1 ho).1; omega
      exact ih e.on (by omega) ops[e.on] (Array.getElem?_eq_getElem hon) (closed e.on _ (Array.getElem?_eq_getElem hon) h4) i hi h3

/-- As the kit's 'wpAny', but an operation that is not named in 'loud' leaves the world. -/
def wpX (P : Program) (md : Region.Mode) (ops : Array Oper) (loud : List Nat) (Q : Exit → Act → World → Prop) : Nat → Array Bool → Act → World → Prop
  | 0, listed, a, w => Region.ready md ops listed = [] ∧ Q .normal a w
  | f + 1, listed, a, w => (Region.ready md ops listed = [] → Q .normal a w) ∧ ∀ i ∈ Region.ready md ops listed,
      if i ∈ loud then wpOp P ops Q i (wpX P md ops loud Q f (listed.setIfInBounds i true)) a w
      else stOp P ops w i (fun a' => wpX P md ops loud Q f (listed.setIfInBounds i true) a' w) a
theorem wpX_any : ∀ (f : Nat) (listed : Array Bool) (a : Act) (w : World), wpX P md ops loud Q f listed a w → wpAny P md ops Q f listed a w
  | 0, _, _, _, h => h
  | f + 1, listed, a, w, h => ⟨h.1, fun i hi => by
      have h2 := h.2 i hi
      split at h2
      · exact wpOp_mono (fun a' w' h' => wpX_any f _ a' w' h') h2
      · exact wpOp_of_stOp (fun a' h' => wpX_any f _ a' w h') h2⟩

theorem ready_set_nil {i : Nat} {listed : Array Bool} {j : Nat} (h : Region.ready md ops (listed.setIfInBounds i true) = []) (hj : j ∈ Region.ready md ops listed) : j = i := by
  refine Classical.byContradiction fun hji => ?_
  have := ready_mono hj hji
  rw [h] at this
  cases this
theorem not_waiting {i : Nat} {oj : Oper} {listed : Array Bool} (hr : i ∈ Region.ready md ops listed) (hall : ∀ e ∈ oj.after, Region.binds md e = true → listed.getD e.on false = true) : ∀ e ∈ oj.after, Region.binds md e = true → e.on ≠ i := fun e he hb heq => by
  have h1 := hall e he hb
  rw [heq, getD_both (mem_ready.1 hr).1] at h1
  cases h1
theorem free_set {i j : Nat} {oi : Oper} {listed : Array Bool} (hfree : ∀ k ok, ops[k]? = some ok → k ≠ i → listed.getD k true = false → (∀ e ∈ ok.after, Region.binds md e = true → e.on ≠ i) → oi.apart ops ok = true) (hjun : listed.getD j true = false) :
    ∀ k ok, ops[k]? = some ok → k ≠ i → (listed.setIfInBounds j true).getD k true = false → (∀ e ∈ ok.after, Region.binds md e = true → e.on ≠ i) → oi.apart ops ok = true := fun k ok hk hki hkun hno => by
  refine hfree k ok hk hki ?_ hno
  by_cases hjk : j = k
  · subst hjk; exact hjun
  · rwa [getD_set_ne true hjk] at hkun

theorem getD_keep {listed : Array Bool} {j k : Nat} (h : listed.getD k true = true) : (listed.setIfInBounds j true).getD k true = true := by
  by_cases hjk : j = k
  · subst hjk
    simp only [Array.getD_eq_getD_getElem?, Array.getElem?_setIfInBounds_self]
    split <;> rfl
  · rw [getD_set_ne true hjk]
    exact h
/-- A read, where each write that is left waits for it. -/
theorem wpX_still {B : Array Nat} (hB : waitB md ops B = true) (hsel : ∀ (j : Nat) (o : Oper) cs b, ops[j]? = some o → o.op ≠ .select cs b) {i : Nat} {oi : Oper} {v : Value} (hi : ops[i]? = some oi) (hil : i ∉ loud) {w : World} :
    ∀ (f : Nat) (listed : Array Bool) (a : Act), (∀ j ∈ loud, (B.getD j 0).testBit i = true ∨ listed.getD j true = true) → Closed md ops listed →
      (∀ j oj, ops[j]? = some oj → j ≠ i → listed.getD j true = false → (∀ e ∈ oj.after, Region.binds md e = true → e.on ≠ i) → oi.apart ops oj = true) →
      i ∈ Region.ready md ops listed → YieldsAt P ops w oi v a →
      wpX P md ops loud Q f (listed.setIfInBounds i true) (a.put oi.dst v) w → wpX P md ops loud Q (f + 1) listed a w := by
  intro f
  induction f with
  | zero =>
    intro listed a _ hc hfree hr hy H
    refine ⟨fun h => (by rw [h] at hr; cases hr), fun j hj => ?_⟩
    obtain rfl := ready_set_nil H.1 hj
    rw [if_neg hil]
    exact hy.stOp hi H
  | succ f ih =>
    intro listed a hw hc hfree hr hy H
    refine ⟨fun h => (by rw [h] at hr; cases hr), fun j hj => ?_⟩
    by_cases hji : j = i
    · subst hji
      rw [if_neg hil]
      exact hy.stOp hi H
    · obtain ⟨hjun, oj, hoj, hall⟩ := mem_ready.1 hj
      have hjl : j ∉ loud := fun hjl => by
        rcases hw j hjl with h | h
        · have h2 := waits_listed hB hc j j (Nat.le_refl _) oj hoj hall i (Array.getElem?_eq_some_iff.1 hi).1 h
          rw [getD_both (mem_ready.1 hr).1] at h2
          cases h2
        · rw [hjun] at h
          cases h
      have h1 := H.2 j (ready_mono hj hji)
      rw [if_neg hjl] at h1 ⊢
      refine stOp_mono (fun a' h3 => ih (listed.setIfInBounds j true) a' (fun k hk => (hw k hk).imp id getD_keep) (hc.set hj) (free_set hfree hjun) (ready_mono hr (Ne.symm hji)) h3.1 ?_)
        (stOp_put hoj (hfree j oj hoj hji hjun (not_waiting hr hall)) (fun cs b => hsel i oi cs b hi) (fun cs b => hsel j oj cs b hoj) hy h1)
      rw [Array.setIfInBounds_comm _ _ hji]
      exact h3.2

theorem stOp_putY {j : Nat} {oi oj : Oper} {v : Value} {w : World} (hj : ops[j]? = some oj) (hap : oi.apart ops oj = true)
    (hsi : ∀ cs b, oi.op ≠ .select cs b) (hsj : ∀ cs b, oj.op ≠ .select cs b) {K : Act → Prop} {a : Act}
    (hy : Yields P ops oi v a) (h : stOp P ops w j K (a.put oi.dst v)) :
    stOp P ops w j (fun a' => Yields P ops oi v a' ∧ K (a'.put oi.dst v)) a := by
  obtain ⟨h1, h2, h3⟩ := Oper.apart_spec hap
  have keep : ∀ u, Yields P ops oi v (a.put oj.dst u) := fun u => hy.of_same (execOp_put oi hsi a oj.dst u h3) (wanted_put oi a oj.dst u h3)
  unfold stOp at *
  simp only [hj] at *
  rw [wanted_put oj a oi.dst v h1] at h
  split
  · rename_i hw
    simp only [hw, if_true] at h
    unfold Oper.still at *
    rw [execOp_put oj hsj a oi.dst v h1] at h
    generalize (execOp a.eval oj).run P w = r at *
    cases r with
    | ok n w' =>
      cases n <;> simp only [Oper.stillUpon] at h ⊢
      case value u => exact ⟨h.1, keep u, by rw [← Act.put_comm a v u h2]; exact h.2⟩
      case skip => exact ⟨h.1, keep _, by rw [← Act.put_comm a v undef h2]; exact h.2⟩
      case enter f args => obtain ⟨hw', u, hc, hn⟩ := h; exact ⟨hw', u, hc, keep u, by rw [← Act.put_comm a v u h2]; exact hn⟩
    | halt x w' => simp only [Oper.stillUpon] at h
  · rename_i hw
    simp only [hw] at h
    exact ⟨keep _, by rw [← Act.put_comm a v undef h2]; exact h⟩

/-- What yields the same in every world. -/
theorem wpX_pure (hsel : ∀ (j : Nat) (o : Oper) cs b, ops[j]? = some o → o.op ≠ .select cs b) {i : Nat} {oi : Oper} {v : Value} (hi : ops[i]? = some oi) (hil : i ∉ loud)
    (hQ : ∀ c a w d u, Q (.panic c) (a.put d u) w → Q (.panic c) a w) :
    ∀ (f : Nat) (listed : Array Bool) (a : Act) (w : World),
      (∀ j oj, ops[j]? = some oj → j ≠ i → listed.getD j true = false → (∀ e ∈ oj.after, Region.binds md e = true → e.on ≠ i) → oi.apart ops oj = true) →
      i ∈ Region.ready md ops listed → Yields P ops oi v a →
      wpX P md ops loud Q f (listed.setIfInBounds i true) (a.put oi.dst v) w → wpX P md ops loud Q (f + 1) listed a w := by
  have here : ∀ {K : Act → Prop} {a : Act} {w : World}, Yields P ops oi v a → K (a.put oi.dst v) → stOp P ops w i K a := fun {K a w} hy h => by
    unfold stOp
    simp only [hi]
    rcases hy with ⟨hw, hv⟩ | ⟨hw, rfl⟩
    · simp only [hw, if_true, Oper.still, hv w, Oper.stillUpon]; exact ⟨trivial, h⟩
    · simp only [hw, Bool.false_eq_true, if_false]; exact h
  intro f
  induction f with
  | zero =>
    intro listed a w hfree hr hy H
    refine ⟨fun h => (by rw [h] at hr; cases hr), fun j hj => ?_⟩
    obtain rfl := ready_set_nil H.1 hj
    rw [if_neg hil]
    exact here hy H
  | succ f ih =>
    intro listed a w hfree hr hy H
    refine ⟨fun h => (by rw [h] at hr; cases hr), fun j hj => ?_⟩
    by_cases hji : j = i
    · subst hji
      rw [if_neg hil]
      exact here hy H
    · obtain ⟨hjun, oj, hoj, hall⟩ := mem_ready.1 hj
      have h1 := H.2 j (ready_mono hj hji)
      split
      · rename_i hjl
        rw [if_pos hjl] at h1
        refine wpOp_mono (fun a' w' h3 => ih (listed.setIfInBounds j true) a' w' (free_set hfree hjun) (ready_mono hr (Ne.symm hji)) h3.1 ?_)
          (wpOp_put hoj (hfree j oj hoj hji hjun (not_waiting hr hall)) (fun cs b => hsel i oi cs b hi) (fun cs b => hsel j oj cs b hoj) (fun c a w h => hQ c a w _ _ h) hy h1)
        rw [Array.setIfInBounds_comm _ _ hji]
        exact h3.2
      · rename_i hjl
        rw [if_neg hjl] at h1
        refine stOp_mono (fun a' h3 => ih (listed.setIfInBounds j true) a' w (free_set hfree hjun) (ready_mono hr (Ne.symm hji)) h3.1 ?_)
          (stOp_putY hoj (hfree j oj hoj hji hjun (not_waiting hr hall)) (fun cs b => hsel i oi cs b hi) (fun cs b => hsel j oj cs b hoj) hy h1)
        rw [Array.setIfInBounds_comm _ _ hji]
        exact h3.2

def planOk (md : Region.Mode) (ops : Array Oper) (loud pure_ : List Nat) (B : Array Nat) : List Nat → Array Bool → Bool
  | [], listed => decide (Region.ready md ops listed = [])
  | i :: is, listed =>
    (if loud.contains i then decide (Region.ready md ops listed = [i])
     else (Region.ready md ops listed).contains i && Region.free md ops listed i && (pure_.contains i || loud.all fun j => (B.getD j 0).testBit i || listed.getD j true)) &&
    planOk md ops loud pure_ B is (listed.setIfInBounds i true)
def wpPlan (P : Program) (ops : Array Oper) (loud pure_ : List Nat) (Q : Exit → Act → World → Prop) : List Nat → Act → World → Prop
  | [], a, w => Q .normal a w
  | i :: is, a, w => if loud.contains i then wpOp P ops Q i (wpPlan P ops loud pure_ Q is) a w
    else if pure_.contains i then ∃ o v, ops[i]? = some o ∧ Yields P ops o v a ∧ wpPlan P ops loud pure_ Q is (a.put o.dst v) w
    else stOp P ops w i (fun a' => wpPlan P ops loud pure_ Q is a' w) a

theorem wpX_plan {B : Array Nat} (hB : waitB md ops B = true) (hs : Region.noSelect ops = true) (hQ : ∀ c a w d u, Q (.panic c) (a.put d u) w → Q (.panic c) a w) :
    ∀ (is : List Nat) (listed : Array Bool) (a : Act) (w : World), Closed md ops listed → planOk md ops loud pure_ B is listed = true → wpPlan P ops loud pure_ Q is a w → wpX P md ops loud Q is.length listed a w
  | [], listed, a, w, _, hp, h => ⟨by simpa [planOk] using hp, h⟩
  | i :: is, listed, a, w, hc, hp, h => by
    simp only [planOk, Bool.and_eq_true] at hp
    obtain ⟨h1, h2⟩ := hp
    unfold wpPlan at h
    by_cases hl : loud.contains i = true
    · rw [if_pos hl, decide_eq_true_eq] at h1
      rw [if_pos hl] at h
      have hr : i ∈ Region.ready md ops listed := by rw [h1]; simp
      refine ⟨fun h0 => (by rw [h0] at hr; cases hr), fun j hj => ?_⟩
      rw [h1] at hj
      obtain rfl : j = i := by simpa using hj
      rw [if_pos (by simpa using hl)]
      exact wpOp_mono (fun a' w' h' => wpX_plan hB hs hQ is _ a' w' (hc.set hr) h2 h') h
    · rw [if_neg hl] at h1 h
      simp only [Bool.and_eq_true, Bool.or_eq_true, List.all_eq_true] at h1
      obtain ⟨⟨hr, hf⟩, hw⟩ := h1
      have hr' : i ∈ Region.ready md ops listed := by simpa using hr
      have hil : i ∉ loud := by simpa using hl
      by_cases hpu : pure_.contains i = true
      · rw [if_pos hpu] at h
        obtain ⟨o, v, ho, hy, hk⟩ := h
        exact wpX_pure (Region.noSelect_spec hs) ho hil hQ is.length listed a w (Region.free_spec ho hf) hr' hy (wpX_plan hB hs hQ is _ _ w (hc.set hr') h2 hk)
      · rw [if_neg hpu] at h
        have hw' := hw.resolve_left hpu
        obtain ⟨_, o, ho, _⟩ := mem_ready.1 hr'
        obtain ⟨v, hy, hk⟩ := yieldsAt_of_stOp ho h
        exact wpX_still hB (Region.noSelect_spec hs) ho hil is.length listed a (fun j hj => by simpa using hw' j hj) hc (Region.free_spec ho hf) hr' hy (wpX_plan hB hs hQ is _ _ w (hc.set hr') h2 hk)

def planB (ops : Array Oper) (loud pure_ is : List Nat) : Bool :=
  Region.noSelect ops && waitB .any ops (Region.before ops) && decide (is.length = ops.size) && planOk .any ops loud pure_ (Region.before ops) is (Array.replicate ops.size false)
theorem wp_region_plan {id : Nat} {a : Act} {w : World} (loud pure_ is : List Nat) (hm : P.follows .mixedOrders = true) (hB : planB ops loud pure_ is = true)
    (hQ : ∀ c a w d u, Q (.panic c) (a.put d u) w → Q (.panic c) a w) (h : wpPlan P ops loud pure_ Q is a w.drew) : (Code.region id ops true).wp P Q a w := by
  simp only [planB, Bool.and_eq_true, decide_eq_true_eq] at hB
  obtain ⟨⟨⟨hs, hw⟩, hl⟩, hp⟩ := hB
  refine wp_region_any hm ?_
  have := wpX_any _ _ _ _ (wpX_plan (md := .any) hw hs hQ is _ a w.drew (fun j oj _ hl => by rw [getD_replicate_false] at hl; cases hl) hp h)
  rw [hl] at this
  exact this
theorem plan_still {i : Nat} {is : List Nat} {o : Oper} {a : Act} {w : World} (hl : (loud.contains i || pure_.contains i) = false) (ho : ops[i]? = some o)
    (h : ∀ K : Act → Prop, (∀ a', wpPlan P ops loud pure_ Q is a' w → K a') → if Region.wanted o (yielded ops a.tmps) then o.still P a w K else K (a.put o.dst undef)) : wpPlan P ops loud pure_ Q (i :: is) a w := by
  rw [Bool.or_eq_false_iff] at hl
  unfold wpPlan
  rw [if_neg (by simpa using hl.1), if_neg (by simpa using hl.2)]
  unfold stOp
  simp only [ho]
  exact h _ (fun a' h' => h')
theorem plan_pure {i : Nat} {is : List Nat} {o : Oper} {a : Act} {w : World} {v : Value} (hl : (!loud.contains i && pure_.contains i) = true) (ho : ops[i]? = some o) (hg : Region.wanted o (yielded ops a.tmps) = true)
    (hr : ∀ w, (execOp a.eval o).run P w = .ok (.value v) w) (h : wpPlan P ops loud pure_ Q is (a.put o.dst v) w) : wpPlan P ops loud pure_ Q (i :: is) a w := by
  rw [Bool.and_eq_true, Bool.not_eq_true'] at hl
  unfold wpPlan
  rw [if_neg (by simpa using hl.1), if_pos hl.2]
  exact ⟨o, v, ho, .inl ⟨hg, hr⟩, h⟩
theorem plan_loud {i : Nat} {is : List Nat} {o : Oper} {a : Act} {w : World} (hl : loud.contains i = true) (ho : ops[i]? = some o)
    (h : ∀ K : Act → World → Prop, (∀ a w, wpPlan P ops loud pure_ Q is a w → K a w) → if Region.wanted o (yielded ops a.tmps) = true then Oper.wp P o a w K Q else K (a.put o.dst undef) w) : wpPlan P ops loud pure_ Q (i :: is) a w := by
  unfold wpPlan
  rw [if_pos hl]
  exact wpOp_step ho (fun K hK => h K hK)
/-- A whole row read, as a step of a plan. -/
theorem plan_row {i : Nat} {is : List Nat} {o : Oper} {a : Act} {w : World} (hl : (loud.contains i || pure_.contains i) = false) (ho : ops[i]? = some o) (hgd : o.guard = none) (ty : TypeId) (x : Operand) (hop : o.op = .load ty x)
    (g : Nat) (hx : a.eval x = .pointer (some ⟨g, 0, none⟩)) (t : TypeId) (cs : Array Value) (d : TypeDesc) (hb : w.heap[g]? = some (.cells cs t (0, 0)))
    (hu : P.underlying ty = some d) (hd : (match d with | .struct _ | .array _ _ => true | _ => false) = true) (hi : (P.info? ty).map (·.size) = some cs.size)
    (h : wpPlan P ops loud pure_ Q is (a.put o.dst (.agg cs)) w) : wpPlan P ops loud pure_ Q (i :: is) a w := by
  refine plan_still hl ho (fun K hK => ?_)
  have hw : Region.wanted o (yielded ops a.tmps) = true := by simp [Region.wanted, hgd]
  rw [if_pos hw]
  unfold Oper.still execOp
  simp only [hop, hx, Instr.loadAt, Instr.sureAddr, Sem.run_bind, Sem.run_pure, Result.andThen_ok, run_loadVar_row w g t ty cs (0, 0) d hb hu hd hi]
  exact ⟨rfl, hK _ h⟩
theorem plan_done {a : Act} {w : World} (h : Q .normal a w) : wpPlan P ops loud pure_ Q [] a w := h
end
end Go.Proofs.YteppnjgfebcmjaaGreat

/-
  The reference's reader: Get of bits, of a Golomb number.
-/
namespace Go.Proofs.YteppnjgfebcmjaaGreat
open Go.RowKit

/-- A part of a row. -/
theorem BytesIn.seg {w : World} {r n c i j : Nat} {l : List UInt8} (h : BytesIn w (some ⟨r, 0, none⟩) n c l) (hi : i < j) (hj : j ≤ n) : BytesIn w (some ⟨r, i, none⟩) (j - i) (c - i) ((l.drop i).take (j - i)) := by
  obtain ⟨h1, h2, h3, h4⟩ := h
  refine ⟨by simp; omega, (fun h => by cases h), ⟨by simp [u8s]; omega, (fun h => by cases h), fun ad e k u hu => ?_⟩, fun h0 ad e => ?_⟩
  · injection e with e
    subst e
    have e3 : u8s ((l.drop i).take (j - i)) = ((u8s l).drop i).take (j - i) := by simp [u8s, List.map_drop, List.map_take]
    rw [e3, List.getElem?_take] at hu
    split at hu
    · rw [List.getElem?_drop] at hu
      have := h3.2.2 _ rfl _ _ hu
      rw [addr_add] at this
      rw [addr_add']
      exact this
    · cases hu
  · injection e with e
    subst e
    exact h4 (by omega) ⟨r, 0, none⟩ rfl

theorem RRd.step {w w1 : World} {g I j m c B : Nat} {A : Option Addr} {l : List UInt8} {u : Value} (hb : Blk w g 153 #[.slice A m c, .int .i64 (I : Int)]) (hr : Bytes w B (.slice A m c) (rowL l)) (hm : m = 8 * l.length) (hj : j ≤ m) (h1 : Mod (fun _ => False) w w1) (hu : u = .int .i64 (j : Int)) : RRd (w1.setCell ⟨g, 1, none⟩ u) g l j := by
  subst hu
  refine ⟨A, m, c, B, ((hb.keep h1 (fun h => h)).set_ 1 _), ?_, hj, hm⟩
  exact own_mod hr ((h1.mono (S' := (· = g)) (fun _ h => h.elim)).setCell (.inl rfl) _) (fun k hk e => own_ne_blk hr hb (by decide) (by rw [hk, show k = g from e]))
def RGetPost (w : World) (g : Nat) (l : List UInt8) (I n : Nat) (e : Ending) (w' : World) : Prop :=
  (8 * l.length < I + n ∧ e = .returned (.tuple #[.int .u64 0, .int .i64 11]) ∧ Mod (fun _ => False) w w') ∨
  (I + n ≤ 8 * l.length ∧ e = .returned (.tuple #[.int .u64 (numAt l I n : Int), .int .i64 0]) ∧ RRd w' g l (I + n) ∧ Mod (· = g) w w')

set_option maxRecDepth 100000 in
set_option maxHeartbeats 2000000 in
theorem refRGet (w : World) (g : Nat) (l : List UInt8) (I n : Nat) (h : RRd w g l I) (hll : l.length ≤ 1048576) (hn0 : 0 < n) (hn : n ≤ 64) : Calls Tryz.prog 47 #[.pointer (some ⟨g, 0, none⟩), .int .i64 (n : Int)] w (RGetPost w g l I n) := by
  obtain ⟨A, m, c, B, hb, hrow, hI, hm⟩ := h
  have c0 : w.cell? ⟨g, 0, none⟩ = some (.slice A m c) := hb.cell 0
  have c1 : w.cell? ⟨g, 1, none⟩ = some (.int .i64 (I : Int)) := hb.cell 1
  have f1 := hb.frozen 1
  have hgl := hb.lt
  have hcap := hrow.cap
  have hm8 : m ≤ 8388608 := by omega
  have HB := Lib.hid (And.intro hb hrow)
  have HM := Lib.hid hm
  clear hb hrow
  by_cases hlt : m < I + n
  · have d1 : decide ((m : Int) - (I : Int) < (n : Int)) = true := decide_eq_true (by omega)
    clear hm
    go_enter Tryz.func47, Tryz.ntmps47
    go_upto_region 3 with (fail)
    go_quiet (fail)
    go_wp2_with fail
    go_ret2
    exact .inl ⟨by rw [← HM.out]; exact hlt, rfl, (Mod.refl _ _).drewN _⟩
  · have d1 : decide ((m : Int) - (I : Int) < (n : Int)) = false := decide_eq_false (by omega)
    obtain ⟨r, hA, _⟩ := HB.out.2.some_ (by rw [rowL_length]; omega)
    subst hA
    have hrd : BytesIn w (some ⟨r, I, none⟩) (I + n - I) (c - I) (((rowL l).drop I).take (I + n - I)) := HB.out.2.in_.seg (by omega) (by omega)
    rw [Nat.add_sub_cancel_left] at hrd
    have hnum := numL_row l I n (by omega)
    have HN := Lib.hid (And.intro hrd hnum)
    obtain ⟨j, hj⟩ : ∃ j, j = I + n := ⟨_, rfl⟩
    have hw : IntKind.i64.wrap ((I : Int) + (n : Int)) = (j : Int) := by rw [hj, IntWalk.i64_in _ ⟨by omega, by omega⟩]; simp
    have j1 : I ≤ j := by omega
    have j2 : (j : Int) ≤ (c : Int) := by omega
    have j3 : j - I = n := by omega
    have j4 : ¬ c = I := by omega
    have j5 : (0 : Int) ≤ (j : Int) := by omega
    have HJ := Lib.hid hj
    clear hm hrd hnum hj
    go_enter Tryz.func47, Tryz.ntmps47
    go_upto_region 3 with (fail)
    go_quiet (fail)
    go_upto_region 5 with (fail)
    refine wp_region_plan [] [] [0, 1, 2, 3, 4, 5, 6, 7, 8, 9, 10, 11, 12, 13, 14, 15, 16] (by kernel_rfl) (by kernel_rfl) (fun _ _ _ d _ h => by cases d <;> exact h) ?_
    iterate 15 (refine plan_still rfl rfl (fun K hK => ?_); go_simp; refine hK _ ?_; clear hK K)
    refine plan_still rfl rfl (fun K hK => ?_)
    go_simp
    refine ⟨_, (refNumber _ _ n (c - I) _ (HN.out.1.quiet ((Mod.refl (fun _ => False) w).drewN _)) hn (fun b hb => rowL_bits l b (List.mem_of_mem_drop (List.mem_of_mem_take hb)))).mono (fun _ _ ⟨a, b⟩ => ⟨a, b.symm⟩), hK _ ?_⟩
    clear hK K
    rw [HN.out.2]
    refine plan_still rfl rfl (fun K hK => ?_); go_simp; refine hK _ ?_; clear hK K
    refine plan_done ?_
    go_wp2_with fail
    go_ret2
    have hmS : ∀ (v : Value), Mod (· = g) w (((w.drewN nq).drew).setCell ⟨g, 1, none⟩ v) := fun v => (((Mod.refl (· = g) w).drewN nq).drew).setCell (.inl rfl) v
    refine .inr ⟨by have := HM.out; omega, rfl, RRd.step HB.out.1 HB.out.2 HM.out (by have := HJ.out; omega) (((Mod.refl (fun _ => False) w).drewN nq).drew) ?_, hmS _⟩
    first | rfl | (have := HJ.out; congr 1; omega) | simp

def zeroTo (l : List UInt8) (a n : Nat) : Prop := numAt l a n = 0 ∧ a + n ≤ 8 * l.length
def ggRel (l : List UInt8) (I : Nat) (v : Value) : Prop := ∃ n : Nat, n ≤ 32 ∧ v = .int .i64 (n : Int) ∧ (n = 0 ∨ zeroTo l I n) ∧ gget l I n (32 - n) = gget l I 0 32
def GGetPost (w : World) (g : Nat) (l : List UInt8) (I : Nat) (e : Ending) (w' : World) : Prop :=
  (gget l I 0 32 = none ∧ ∃ er : Int, (er == 0) = false ∧ e = .returned (.tuple #[.int .u64 0, .int .i64 er]) ∧ Mod (fun _ => False) w w') ∨
  ∃ v J : Nat, gget l I 0 32 = some (v, J) ∧ e = .returned (.tuple #[.int .u64 (v : Int), .int .i64 0]) ∧ RRd w' g l J ∧ Mod (· = g) w w'
end Go.Proofs.YteppnjgfebcmjaaGreat

/-
  The reference's reader: Get of a Golomb number.
-/
namespace Go.Proofs.YteppnjgfebcmjaaGreat
open Go.RowKit

theorem gget_succ {l : List UInt8} {I n f : Nat} (h1 : I + n < 8 * l.length) (h2 : bitAt l (I + n) = 0) : gget l I n (f + 1) = gget l I (n + 1) f := by
  show (if _ then _ else _) = _
  rw [if_pos h1, if_pos h2]
theorem gget_out {l : List UInt8} {I n f : Nat} (h1 : ¬ I + n < 8 * l.length) : gget l I n (f + 1) = none := by
  show (if _ then _ else _) = _
  rw [if_neg h1]
theorem gget_one {l : List UInt8} {I n f : Nat} (h1 : I + n < 8 * l.length) (h2 : ¬ bitAt l (I + n) = 0) : gget l I n (f + 1) = if I + n + 1 + n ≤ 8 * l.length then some (2 ^ n + numAt l (I + n + 1) n - 1, I + n + 1 + n) else none := by
  show (if _ then _ else _) = _
  rw [if_pos h1, if_neg h2]
theorem num_gol {l : List UInt8} {I n : Nat} (h1 : n = 0 ∨ zeroTo l I n) (h2 : ¬ bitAt l (I + n) = 0) : numAt l I (2 * n + 1) = 2 ^ n + numAt l (I + n + 1) n := by
  have hz : numAt l I n = 0 := by
    rcases h1 with rfl | h1
    · rfl
    · exact h1.1
  have hb : bitAt l (I + n) = 1 := by have := bitAt_lt l (I + n); omega
  have e1 := numAt_add l I (n + 1) n
  have e2 : numAt l I (n + 1) = 1 := by
    show 2 * numAt l I n + bitAt l (I + n) = 1
    omega
  rw [show n + 1 + n = 2 * n + 1 by omega] at e1
  rw [e1, e2, Nat.mul_one]
  rfl
def GgW (w : World) (l : List UInt8) (I : Nat) (v : Value) (wr : World) : Prop := ggRel l I v ∧ Mod (fun _ => False) w wr

set_option maxRecDepth 100000 in
set_option maxHeartbeats 4000000 in
theorem refGGet (w : World) (g : Nat) (l : List UInt8) (I : Nat) (h : RRd w g l I) (hll : l.length ≤ 1048576) : Calls Tryz.prog 48 #[.pointer (some ⟨g, 0, none⟩)] w (GGetPost w g l I) := by
  obtain ⟨A, m, c, B, hb, hrow, hI, hm⟩ := h
  have hcap := hrow.cap
  have hm8 : m ≤ 8388608 := by omega
  have HB := Lib.hid (And.intro hb hrow)
  have HM := Lib.hid hm
  clear hb hrow hm
  go_enter Tryz.func48, Tryz.ntmps48
  go_wp2_with fail
  go_loopw [4] (GgW w l I) (fun i _ => 32 - (intOf i).toNat)
  case atStart => exact ⟨⟨0, by omega, rfl, .inl rfl, rfl⟩, Mod.refl _ _⟩
  case round =>
    obtain ⟨⟨n, hn, rfl, hz, hg⟩, hmod⟩ := hrel
    rename World => wr
    have hbr := HB.out.1.keep hmod (fun h => h)
    have c0 : wr.cell? ⟨g, 0, none⟩ = some (.slice A m c) := hbr.cell 0
    have c1 : wr.cell? ⟨g, 1, none⟩ = some (.int .i64 (I : Int)) := hbr.cell 1
    have hgl := hbr.lt
    have f1 := hbr.frozen 1
    have HH := Lib.hid (And.intro hz (And.intro hg (And.intro hmod hbr)))
    clear hz hg hmod hbr
    by_cases h32 : n = 32
    · subst h32
      clear c0 c1 hgl f1
      go_upto_region 2 with (fail)
      go_quiet (fail)
      go_wp2_with fail
      go_ret2
      exact .inl ⟨by rw [← HH.out.2.1]; rfl, 21, rfl, rfl, HH.out.2.2.1.drewN _⟩
    · have d1 : decide ((n : Int) < 32) = true := decide_eq_true (by omega)
      by_cases hin : I + n < m
      · have d2 : decide ((I : Int) + (n : Int) < (m : Int)) = true := decide_eq_true (by omega)
        obtain ⟨r, hA, hrc⟩ := HB.out.2.some_ (by rw [rowL_length, ← HM.out]; omega)
        subst hA
        have hrw := HB.out.2.quiet HH.out.2.2.1
        have hcell := hrw.cell (I + n) (by rw [rowL_length, ← HM.out]; exact hin)
        rw [rowL_get l (I + n) (by rw [← HM.out]; exact hin)] at hcell
        by_cases hbit : bitAt l (I + n) = 0
        · rw [hbit] at hcell
          have hg2 : gget l I (n + 1) (32 - (n + 1)) = gget l I 0 32 := by
            rw [← HH.out.2.1, show 32 - n = 32 - (n + 1) + 1 by omega, gget_succ (by rw [← HM.out]; exact hin) hbit]
          have hz2 : zeroTo l I (n + 1) := by
            refine ⟨?_, by rw [← HM.out]; omega⟩
            show 2 * numAt l I n + bitAt l (I + n) = 0
            have : numAt l I n = 0 := by
              rcases HH.out.1 with e | e
              · rw [e]; rfl
              · exact e.1
            omega
          have H2 := Lib.hid (And.intro hg2 hz2)
          clear hg2 hz2 hbit hrw
          go_upto_region 2 with (fail)
          go_quiet (fail)
          go_wp2_with fail
          exact ⟨⟨⟨n + 1, by omega, by go_num, .inr H2.out.2, H2.out.1⟩, HH.out.2.2.1.drewN _⟩, by simp [intOf]; omega⟩
        · have hb1 : bitAt l (I + n) = 1 := by have := bitAt_lt l (I + n); omega
          rw [hb1] at hcell
          have hg2 : gget l I 0 32 = if I + n + 1 + n ≤ 8 * l.length then some (2 ^ n + numAt l (I + n + 1) n - 1, I + n + 1 + n) else none := by
            rw [← HH.out.2.1, show 32 - n = 31 - n + 1 by omega, gget_one (by rw [← HM.out]; exact hin) hbit]
          have hnum := num_gol HH.out.1 hbit
          have d3 : ((n : Int) == 32) = false := by simp; omega
          by_cases hfit : I + n + 1 + n ≤ m
          · have d4 : decide ((m : Int) < (I : Int) + 2 * (n : Int) + 1) = false := decide_eq_false (by omega)
            rw [if_pos (by rw [← HM.out]; exact hfit), ← hnum] at hg2
            have hrd : BytesIn wr (some ⟨r, I, none⟩) (I + (2 * n + 1) - I) (c - I) (((rowL l).drop I).take (I + (2 * n + 1) - I)) := hrw.in_.seg (by omega) (by omega)
            rw [Nat.add_sub_cancel_left] at hrd
            have hnr := numL_row l I (2 * n + 1) (by rw [← HM.out]; omega)
            have hpos : 0 < numAt l I (2 * n + 1) := by rw [hnum]; have := Nat.pos_of_ne_zero (show 2 ^ n ≠ 0 by simp); omega
            have hlt63 : numAt l I (2 * n + 1) < 2 ^ 63 := Nat.lt_of_lt_of_le (numAt_lt l I _) (Nat.pow_le_pow_right (by omega) (by omega))
            simp only [Nat.reducePow] at hlt63
            obtain ⟨k, hk⟩ : ∃ k, k = 2 * n + 1 := ⟨_, rfl⟩
            rw [← hk] at hg2 hrd hnr hpos hlt63
            rw [show I + n + 1 + n = I + k by omega] at hg2
            obtain ⟨n2, hn2⟩ : ∃ n2, n2 = 2 * n := ⟨_, rfl⟩
            obtain ⟨p, hp⟩ : ∃ p, p = I + n2 := ⟨_, rfl⟩
            obtain ⟨j, hj⟩ : ∃ j, j = I + k := ⟨_, rfl⟩
            have hwa : IntKind.i64.wrap (2 * (n : Int)) = (n2 : Int) := by rw [hn2, IntWalk.i64_in _ ⟨by omega, by omega⟩]; simp
            have hwb : IntKind.i64.wrap ((I : Int) + (n2 : Int)) = (p : Int) := by rw [hp, IntWalk.i64_in _ ⟨by omega, by omega⟩]; simp
            have hwc : IntKind.i64.wrap ((p : Int) + 1) = (j : Int) := by rw [hj, IntWalk.i64_in _ ⟨by omega, by omega⟩]; omega
            have j1 : I ≤ j := by omega
            have j2 : (j : Int) ≤ (c : Int) := by omega
            have j3 : j - I = k := by omega
            have j4 : ¬ c = I := by omega
            have j5 : (0 : Int) ≤ (j : Int) := by omega
            have hk64 : k ≤ 64 := by omega
            have HJ := Lib.hid (And.intro hj (And.intro hk (And.intro hn2 (And.intro hp (show j ≤ m by omega)))))
            have H2 := Lib.hid (And.intro hg2 (And.intro hrd (And.intro hnr (And.intro hwa (And.intro hwb hwc)))))
            have HK1 := Lib.hid hk
            clear hg2 hbit hrw hnum hb1 hrd hnr hwa hwb hwc hj hk hn2 hp
            go_upto_region 2 with (fail)
            go_quiet (fail)
            go_upto_region 6 with (fail)
            go_quiet (fail)
            go_upto_region 8 with (fail)
            refine wp_region_plan [] [] [0, 1, 2, 3, 4, 5, 6, 7, 8, 9, 10, 11, 12, 13, 14, 15, 16, 17, 18] (by kernel_rfl) (by kernel_rfl) (fun _ _ _ d _ h => by cases d <;> exact h) ?_
            have hwa := H2.out.2.2.2.1
            have hwb := H2.out.2.2.2.2.1
            have hwc := H2.out.2.2.2.2.2
            iterate 17 (refine plan_still rfl rfl (fun K hK => ?_); go_simp; refine hK _ ?_; clear hK K)
            clear hwa hwb hwc
            refine plan_still rfl rfl (fun K hK => ?_)
            go_simp
            refine ⟨_, (refNumber _ _ k (c - I) _ (H2.out.2.1.quiet ((Mod.refl (fun _ => False) wr).drewN _)) hk64 (fun b hb => rowL_bits l b (List.mem_of_mem_drop (List.mem_of_mem_take hb)))).mono (fun _ _ ⟨a, b⟩ => ⟨a, b.symm⟩), hK _ ?_⟩
            clear hK K
            rw [H2.out.2.2.1]
            refine plan_still rfl rfl (fun K hK => ?_); go_simp; refine hK _ ?_; clear hK K
            refine plan_done ?_
            obtain ⟨v, hv⟩ : ∃ v, v = numAt l I k := ⟨_, rfl⟩
            rw [← hv] at hpos hlt63 ⊢
            have HV := Lib.hid hv
            clear hv
            go_wp2_with fail
            go_ret2
            have hH := HJ.out
            obtain ⟨hH1, hH2, hH3, hH4, hH5⟩ := hH
            refine .inr ⟨v - 1, j, by rw [H2.out.1, ← HV.out, ← hH1], by simp; omega, RRd.step (HB.out.1.keep HH.out.2.2.1 (fun h => h)) (HB.out.2.quiet HH.out.2.2.1) HM.out hH5 ((Mod.refl (fun _ => False) wr).drewN _) (by congr 1; omega), ((HH.out.2.2.1.mono (S' := (· = g)) (fun _ h => h.elim)).drewN _).setCell (.inl rfl) _⟩
          · have d4 : decide ((m : Int) < (I : Int) + 2 * (n : Int) + 1) = true := decide_eq_true (by omega)
            rw [if_neg (by rw [← HM.out]; exact hfit)] at hg2
            have H2 := Lib.hid hg2
            clear hg2 hbit hrw hnum hb1
            go_upto_region 2 with (fail)
            go_quiet (fail)
            go_upto_region 6 with (fail)
            go_quiet (fail)
            go_wp2_with fail
            go_ret2
            exact .inl ⟨H2.out, 11, rfl, rfl, (HH.out.2.2.1.drewN _).drewN _⟩
      · have d2 : decide ((I : Int) + (n : Int) < (m : Int)) = false := decide_eq_false (by omega)
        have d3 : ((n : Int) == 32) = false := by simp; omega
        have d4 : decide ((m : Int) < (I : Int) + 2 * (n : Int) + 1) = true := decide_eq_true (by omega)
        have hg2 : gget l I 0 32 = none := by
          rw [← HH.out.2.1, show 32 - n = 31 - n + 1 by omega, gget_out (by rw [← HM.out]; exact hin)]
        have H2 := Lib.hid hg2
        clear hg2
        go_upto_region 2 with (fail)
        go_quiet (fail)
        go_upto_region 6 with (fail)
        go_quiet (fail)
        go_wp2_with fail
        go_ret2
        exact .inl ⟨H2.out, 11, rfl, rfl, (HH.out.2.2.1.drewN _).drewN _⟩
end Go.Proofs.YteppnjgfebcmjaaGreat
