/-
  A region that draws its order, walked by a plan, where some reads may float past calls that make memory: they read the same in every world that meets S, and each write and call leaves S.
-/
import Derived.Test.YtkobngipbhjfjaaDoorPlan
import Derived.OrdersHeld
namespace Go.Proofs.YtkobngipbhjfjaaDoor

section
variable {P : Program} {ops : Array Oper} {md : Region.Mode} {loud pure_ : List Nat} {S : World → Prop} {Q : Exit → Act → World → Prop}
def wpY (P : Program) (md : Region.Mode) (ops : Array Oper) (loud : List Nat) (S : World → Prop) (Q : Exit → Act → World → Prop) : Nat → Array Bool → Act → World → Prop
  | 0, listed, a, w => Region.ready md ops listed = [] ∧ Q .normal a w
  | f + 1, listed, a, w => (Region.ready md ops listed = [] → Q .normal a w) ∧ ∀ i ∈ Region.ready md ops listed,
      if i ∈ loud then wpOp P ops Q i (fun a' w' => S w' ∧ wpY P md ops loud S Q f (listed.setIfInBounds i true) a' w') a w
      else stOp P ops w i (fun a' => wpY P md ops loud S Q f (listed.setIfInBounds i true) a' w) a
theorem wpY_any : ∀ (f : Nat) (listed : Array Bool) (a : Act) (w : World), wpY P md ops loud S Q f listed a w → wpAny P md ops Q f listed a w
  | 0, _, _, _, h => h
  | f + 1, listed, a, w, h => ⟨h.1, fun i hi => by
      have h2 := h.2 i hi
      split at h2
      · exact wpOp_mono (fun a' w' h' => wpY_any f _ a' w' h'.2) h2
      · exact wpOp_of_stOp (fun a' h' => wpY_any f _ a' w h') h2⟩

theorem wpY_still {B : Array Nat} (hB : waitB md ops B = true) (hsel : ∀ (j : Nat) (o : Oper) cs b, ops[j]? = some o → o.op ≠ .select cs b) {i : Nat} {oi : Oper} {v : Value} (hi : ops[i]? = some oi) (hil : i ∉ loud) {w : World} :
    ∀ (f : Nat) (listed : Array Bool) (a : Act), (∀ j ∈ loud, (B.getD j 0).testBit i = true ∨ listed.getD j true = true) → Closed md ops listed →
      (∀ j oj, ops[j]? = some oj → j ≠ i → listed.getD j true = false → (∀ e ∈ oj.after, Region.binds md e = true → e.on ≠ i) → oi.apart ops oj = true) →
      i ∈ Region.ready md ops listed → YieldsAt P ops w oi v a →
      wpY P md ops loud S Q f (listed.setIfInBounds i true) (a.put oi.dst v) w → wpY P md ops loud S Q (f + 1) listed a w := by
  intro f
  induction f with
  | zero =>
    intro listed a _ hc hfree hr hy H
    refine ⟨fun h => (by rw [h] at hr; cases hr), fun j hj => ?_⟩
    obtain rfl := ready_set_nil H.1 hj
    rw [if_neg hil]
    exact hy.stOp hi H
  | succ f ih =>
    intro listed a hw hc hfree hr hy H
    refine ⟨fun h => (by rw [h] at hr; cases hr), fun j hj => ?_⟩
    by_cases hji : j = i
    · subst hji
      rw [if_neg hil]
      exact hy.stOp hi H
    · obtain ⟨hjun, oj, hoj, hall⟩ := mem_ready.1 hj
      have hjl : j ∉ loud := fun hjl => by
        rcases hw j hjl with h | h
        · have h2 := waits_listed hB hc j j (Nat.le_refl _) oj hoj hall i (Array.getElem?_eq_some_iff.1 hi).1 h
          rw [getD_both (mem_ready.1 hr).1] at h2
          cases h2
        · rw [hjun] at h
          cases h
      have h1 := H.2 j (ready_mono hj hji)
      rw [if_neg hjl] at h1 ⊢
      refine stOp_mono (fun a' h3 => ih (listed.setIfInBounds j true) a' (fun k hk => (hw k hk).imp id getD_keep) (hc.set hj) (free_set hfree hjun) (ready_mono hr (Ne.symm hji)) h3.1 ?_)
        (stOp_put hoj (hfree j oj hoj hji hjun (not_waiting hr hall)) (fun cs b => hsel i oi cs b hi) (fun cs b => hsel j oj cs b hoj) hy h1)
      rw [Array.setIfInBounds_comm _ _ hji]
      exact h3.2

theorem stOp_putIf {j : Nat} {oi oj : Oper} {v : Value} {w : World} (hj : ops[j]? = some oj) (hap : oi.apart ops oj = true)
    (hsi : ∀ cs b, oi.op ≠ .select cs b) (hsj : ∀ cs b, oj.op ≠ .select cs b) {K : Act → Prop} {a : Act}
    (hy : YieldsIf P ops S oi v a) (h : stOp P ops w j K (a.put oi.dst v)) :
    stOp P ops w j (fun a' => YieldsIf P ops S oi v a' ∧ K (a'.put oi.dst v)) a := by
  obtain ⟨h1, h2, h3⟩ := Oper.apart_spec hap
  have keep : ∀ u, YieldsIf P ops S oi v (a.put oj.dst u) := fun u => hy.of_same (execOp_put oi hsi a oj.dst u h3) (wanted_put oi a oj.dst u h3)
  unfold stOp at *
  simp only [hj] at *
  rw [wanted_put oj a oi.dst v h1] at h
  split
  · rename_i hw
    simp only [hw, if_true] at h
    unfold Oper.still at *
    rw [execOp_put oj hsj a oi.dst v h1] at h
    generalize (execOp a.eval oj).run P w = r at *
    cases r with
    | ok n w' =>
      cases n <;> simp only [Oper.stillUpon] at h ⊢
      case value u => exact ⟨h.1, keep u, by rw [← Act.put_comm a v u h2]; exact h.2⟩
      case skip => exact ⟨h.1, keep _, by rw [← Act.put_comm a v undef h2]; exact h.2⟩
      case enter f args => obtain ⟨hw', u, hc, hn⟩ := h; exact ⟨hw', u, hc, keep u, by rw [← Act.put_comm a v u h2]; exact hn⟩
    | halt x w' => simp only [Oper.stillUpon] at h
  · rename_i hw
    simp only [hw] at h
    exact ⟨keep _, by rw [← Act.put_comm a v undef h2]; exact h⟩

/-- What yields the same in every world that meets S. -/
theorem wpY_if (hsel : ∀ (j : Nat) (o : Oper) cs b, ops[j]? = some o → o.op ≠ .select cs b) {i : Nat} {oi : Oper} {v : Value} (hi : ops[i]? = some oi) (hil : i ∉ loud)
    (hQ : ∀ c a w d u, Q (.panic c) (a.put d u) w → Q (.panic c) a w) :
    ∀ (f : Nat) (listed : Array Bool) (a : Act) (w : World), S w →
      (∀ j oj, ops[j]? = some oj → j ≠ i → listed.getD j true = false → (∀ e ∈ oj.after, Region.binds md e = true → e.on ≠ i) → oi.apart ops oj = true) →
      i ∈ Region.ready md ops listed → YieldsIf P ops S oi v a →
      wpY P md ops loud S Q f (listed.setIfInBounds i true) (a.put oi.dst v) w → wpY P md ops loud S Q (f + 1) listed a w := by
  have here : ∀ {K : Act → Prop} {a : Act} {w : World}, S w → YieldsIf P ops S oi v a → K (a.put oi.dst v) → stOp P ops w i K a := fun {K a w} hS hy h => by
    unfold stOp
    simp only [hi]
    rcases hy with ⟨hw, hv⟩ | ⟨hw, rfl⟩
    · simp only [hw, if_true, Oper.still, hv w hS, Oper.stillUpon]; exact ⟨trivial, h⟩
    · simp only [hw, Bool.false_eq_true, if_false]; exact h
  intro f
  induction f with
  | zero =>
    intro listed a w hS hfree hr hy H
    refine ⟨fun h => (by rw [h] at hr; cases hr), fun j hj => ?_⟩
    obtain rfl := ready_set_nil H.1 hj
    rw [if_neg hil]
    exact here hS hy H
  | succ f ih =>
    intro listed a w hS hfree hr hy H
    refine ⟨fun h => (by rw [h] at hr; cases hr), fun j hj => ?_⟩
    by_cases hji : j = i
    · subst hji
      rw [if_neg hil]
      exact here hS hy H
    · obtain ⟨hjun, oj, hoj, hall⟩ := mem_ready.1 hj
      have h1 := H.2 j (ready_mono hj hji)
      split
      · rename_i hjl
        rw [if_pos hjl] at h1
        refine wpOp_mono (fun a' w' h3 => ⟨h3.2.1, ih (listed.setIfInBounds j true) a' w' h3.2.1 (free_set hfree hjun) (ready_mono hr (Ne.symm hji)) h3.1 ?_⟩)
          (wpOp_putIf hoj (hfree j oj hoj hji hjun (not_waiting hr hall)) (fun cs b => hsel i oi cs b hi) (fun cs b => hsel j oj cs b hoj) (fun c a w h => hQ c a w _ _ h) hy h1)
        rw [Array.setIfInBounds_comm _ _ hji]
        exact h3.2.2
      · rename_i hjl
        rw [if_neg hjl] at h1
        refine stOp_mono (fun a' h3 => ih (listed.setIfInBounds j true) a' w hS (free_set hfree hjun) (ready_mono hr (Ne.symm hji)) h3.1 ?_)
          (stOp_putIf hoj (hfree j oj hoj hji hjun (not_waiting hr hall)) (fun cs b => hsel i oi cs b hi) (fun cs b => hsel j oj cs b hoj) hy h1)
        rw [Array.setIfInBounds_comm _ _ hji]
        exact h3.2

def wpPlanS (P : Program) (ops : Array Oper) (loud pure_ : List Nat) (S : World → Prop) (Q : Exit → Act → World → Prop) : List Nat → Act → World → Prop
  | [], a, w => Q .normal a w
  | i :: is, a, w => if loud.contains i then wpOp P ops Q i (fun a' w' => S w' ∧ wpPlanS P ops loud pure_ S Q is a' w') a w
    else if pure_.contains i then ∃ o v, ops[i]? = some o ∧ YieldsIf P ops S o v a ∧ wpPlanS P ops loud pure_ S Q is (a.put o.dst v) w
    else stOp P ops w i (fun a' => wpPlanS P ops loud pure_ S Q is a' w) a

theorem wpY_plan {B : Array Nat} (hB : waitB md ops B = true) (hs : Region.noSelect ops = true) (hQ : ∀ c a w d u, Q (.panic c) (a.put d u) w → Q (.panic c) a w) :
    ∀ (is : List Nat) (listed : Array Bool) (a : Act) (w : World), S w → Closed md ops listed → planOk md ops loud pure_ B is listed = true → wpPlanS P ops loud pure_ S Q is a w → wpY P md ops loud S Q is.length listed a w
  | [], listed, a, w, _, hc, hp, h => ⟨by simpa [planOk] using hp, h⟩
  | i :: is, listed, a, w, hS, hc, hp, h => by
    simp only [planOk, Bool.and_eq_true] at hp
    obtain ⟨h1, h2⟩ := hp
    unfold wpPlanS at h
    by_cases hl : loud.contains i = true
    · rw [if_pos hl, decide_eq_true_eq] at h1
      rw [if_pos hl] at h
      have hr : i ∈ Region.ready md ops listed := by rw [h1]; simp
      refine ⟨fun h0 => (by rw [h0] at hr; cases hr), fun j hj => ?_⟩
      rw [h1] at hj
      obtain rfl : j = i := by simpa using hj
      rw [if_pos (by simpa using hl)]
      exact wpOp_mono (fun a' w' h' => ⟨h'.1, wpY_plan hB hs hQ is _ a' w' h'.1 (hc.set hr) h2 h'.2⟩) h
    · rw [if_neg hl] at h1 h
      simp only [Bool.and_eq_true, Bool.or_eq_true, List.all_eq_true] at h1
      obtain ⟨⟨hr, hf⟩, hw⟩ := h1
      have hr' : i ∈ Region.ready md ops listed := by simpa using hr
      have hil : i ∉ loud := by simpa using hl
      by_cases hpu : pure_.contains i = true
      · rw [if_pos hpu] at h
        obtain ⟨o, v, ho, hy, hk⟩ := h
        exact wpY_if (Region.noSelect_spec hs) ho hil hQ is.length listed a w hS (Region.free_spec ho hf) hr' hy (wpY_plan hB hs hQ is _ _ w hS (hc.set hr') h2 hk)
      · rw [if_neg hpu] at h
        have hw' := hw.resolve_left hpu
        obtain ⟨_, o, ho, _⟩ := mem_ready.1 hr'
        obtain ⟨v, hy, hk⟩ := yieldsAt_of_stOp ho h
        exact wpY_still hB (Region.noSelect_spec hs) ho hil is.length listed a (fun j hj => by simpa using hw' j hj) hc (Region.free_spec ho hf) hr' hy (wpY_plan hB hs hQ is _ _ w hS (hc.set hr') h2 hk)

theorem wp_region_planS0 {id : Nat} {a : Act} {w : World} (loud pure_ is : List Nat) (S : World → Prop) (hm : P.follows .mixedOrders = true) (hB : planB ops loud pure_ is = true)
    (hQ : ∀ c a w d u, Q (.panic c) (a.put d u) w → Q (.panic c) a w) (hS : S w.drew) (h : wpPlanS P ops loud pure_ S Q is a w.drew) : (Code.region id ops true).wp P Q a w := by
  simp only [planB, Bool.and_eq_true, decide_eq_true_eq] at hB
  obtain ⟨⟨⟨hs, hw⟩, hl⟩, hp⟩ := hB
  refine wp_region_any hm ?_
  have := wpY_any _ _ _ _ (wpY_plan (md := .any) hw hs hQ is _ a w.drew hS (fun j oj _ hl => by rw [getD_replicate_false] at hl; cases hl) hp h)
  rw [hl] at this
  exact this
theorem planS0_still {i : Nat} {is : List Nat} {o : Oper} {a : Act} {w : World} (hl : (loud.contains i || pure_.contains i) = false) (ho : ops[i]? = some o)
    (h : ∀ K : Act → Prop, (∀ a', wpPlanS P ops loud pure_ S Q is a' w → K a') → if Region.wanted o (yielded ops a.tmps) then o.still P a w K else K (a.put o.dst undef)) : wpPlanS P ops loud pure_ S Q (i :: is) a w := by
  rw [Bool.or_eq_false_iff] at hl
  unfold wpPlanS
  rw [if_neg (by simpa using hl.1), if_neg (by simpa using hl.2)]
  unfold stOp
  simp only [ho]
  exact h _ (fun a' h' => h')
theorem planS0_pure {i : Nat} {is : List Nat} {o : Oper} {a : Act} {w : World} {v : Value} (hl : (!loud.contains i && pure_.contains i) = true) (ho : ops[i]? = some o) (hg : Region.wanted o (yielded ops a.tmps) = true)
    (hr : ∀ w, S w → (execOp a.eval o).run P w = .ok (.value v) w) (h : wpPlanS P ops loud pure_ S Q is (a.put o.dst v) w) : wpPlanS P ops loud pure_ S Q (i :: is) a w := by
  rw [Bool.and_eq_true, Bool.not_eq_true'] at hl
  unfold wpPlanS
  rw [if_neg (by simpa using hl.1), if_pos hl.2]
  exact ⟨o, v, ho, .inl ⟨hg, hr⟩, h⟩
/-- What is not wanted. -/
theorem planS0_not {i : Nat} {is : List Nat} {o : Oper} {a : Act} {w : World} (hl : (!loud.contains i && pure_.contains i) = true) (ho : ops[i]? = some o) (hg : Region.wanted o (yielded ops a.tmps) = false)
    (h : wpPlanS P ops loud pure_ S Q is (a.put o.dst undef) w) : wpPlanS P ops loud pure_ S Q (i :: is) a w := by
  rw [Bool.and_eq_true, Bool.not_eq_true'] at hl
  unfold wpPlanS
  rw [if_neg (by simpa using hl.1), if_pos hl.2]
  exact ⟨o, undef, ho, .inr ⟨hg, rfl⟩, h⟩
theorem planS0_loud {i : Nat} {is : List Nat} {o : Oper} {a : Act} {w : World} (hl : loud.contains i = true) (ho : ops[i]? = some o)
    (h : ∀ K : Act → World → Prop, (∀ a w, S w → wpPlanS P ops loud pure_ S Q is a w → K a w) → if Region.wanted o (yielded ops a.tmps) = true then Oper.wp P o a w K Q else K (a.put o.dst undef) w) : wpPlanS P ops loud pure_ S Q (i :: is) a w := by
  unfold wpPlanS
  rw [if_pos hl]
  exact wpOp_step ho (fun K hK => h K (fun a w h1 h2 => hK a w ⟨h1, h2⟩))
/-- A whole row read, as a step of a plan. -/
theorem planS0_row {i : Nat} {is : List Nat} {o : Oper} {a : Act} {w : World} (hl : (loud.contains i || pure_.contains i) = false) (ho : ops[i]? = some o) (ty : TypeId) (x : Operand) (hop : o.op = .load ty x) (hw : Region.wanted o (yielded ops a.tmps) = true)
    (g : Nat) (hx : a.eval x = .pointer (some ⟨g, 0, none⟩)) (t : TypeId) (cs : Array Value) (d : TypeDesc) (hb : w.heap[g]? = some (.cells cs t (0, 0)))
    (hu : P.underlying ty = some d) (hd : (match d with | .struct _ | .array _ _ => true | _ => false) = true) (hi : (P.info? ty).map (·.size) = some cs.size)
    (h : wpPlanS P ops loud pure_ S Q is (a.put o.dst (.agg cs)) w) : wpPlanS P ops loud pure_ S Q (i :: is) a w := by
  refine planS0_still hl ho (fun K hK => ?_)
  rw [if_pos hw]
  unfold Oper.still execOp
  simp only [hop, hx, Instr.loadAt, Instr.sureAddr, Sem.run_bind, Sem.run_pure, Result.andThen_ok, run_loadVar_row w g t ty cs (0, 0) d hb hu hd hi]
  exact ⟨rfl, hK _ h⟩
theorem planS0_done {a : Act} {w : World} (h : Q .normal a w) : wpPlanS P ops loud pure_ S Q [] a w := h

/-- A plan behind a name that nothing takes apart (an elaborator that looks for a hidden 'for all' would run through the plan). -/
structure PlanG (P : Program) (ops : Array Oper) (loud pure_ : List Nat) (S : World → Prop) (Q : Exit → Act → World → Prop) (is : List Nat) (a : Act) (w : World) : Prop where
  out : wpPlanS P ops loud pure_ S Q is a w
theorem wp_region_planS {id : Nat} {a : Act} {w : World} (loud pure_ is : List Nat) (S : World → Prop) (hm : P.follows .mixedOrders = true) (hB : planB ops loud pure_ is = true)
    (hQ : ∀ c a w d u, Q (.panic c) (a.put d u) w → Q (.panic c) a w) (hS : S w.drew) (h : PlanG P ops loud pure_ S Q is a w.drew) : (Code.region id ops true).wp P Q a w :=
  wp_region_planS0 loud pure_ is S hm hB hQ hS h.out
theorem planS_still {i : Nat} {is : List Nat} {o : Oper} {a : Act} {w : World} (hl : (loud.contains i || pure_.contains i) = false) (ho : ops[i]? = some o)
    (h : ∀ K : Act → Prop, (∀ a', PlanG P ops loud pure_ S Q is a' w → K a') → if Region.wanted o (yielded ops a.tmps) then o.still P a w K else K (a.put o.dst undef)) : PlanG P ops loud pure_ S Q (i :: is) a w :=
  ⟨planS0_still hl ho (fun K hK => h K (fun a' h' => hK a' h'.out))⟩
theorem planS_pure {i : Nat} {is : List Nat} {o : Oper} {a : Act} {w : World} {v : Value} (hl : (!loud.contains i && pure_.contains i) = true) (ho : ops[i]? = some o) (hg : Region.wanted o (yielded ops a.tmps) = true)
    (hr : ∀ w, S w → (execOp a.eval o).run P w = .ok (.value v) w) (h : PlanG P ops loud pure_ S Q is (a.put o.dst v) w) : PlanG P ops loud pure_ S Q (i :: is) a w :=
  ⟨planS0_pure hl ho hg hr h.out⟩
/-- What is not wanted. -/
theorem planS_not {i : Nat} {is : List Nat} {o : Oper} {a : Act} {w : World} (hl : (!loud.contains i && pure_.contains i) = true) (ho : ops[i]? = some o) (hg : Region.wanted o (yielded ops a.tmps) = false)
    (h : PlanG P ops loud pure_ S Q is (a.put o.dst undef) w) : PlanG P ops loud pure_ S Q (i :: is) a w :=
  ⟨planS0_not hl ho hg h.out⟩
theorem planS_loud {i : Nat} {is : List Nat} {o : Oper} {a : Act} {w : World} (hl : loud.contains i = true) (ho : ops[i]? = some o)
    (h : ∀ K : Act → World → Prop, (∀ a w, S w → PlanG P ops loud pure_ S Q is a w → K a w) → if Region.wanted o (yielded ops a.tmps) = true then Oper.wp P o a w K Q else K (a.put o.dst undef) w) : PlanG P ops loud pure_ S Q (i :: is) a w :=
  ⟨planS0_loud hl ho (fun K hK => h K (fun a w h1 h2 => hK a w h1 h2.out))⟩
/-- A whole row read, as a step of a plan. -/
theorem planS_row {i : Nat} {is : List Nat} {o : Oper} {a : Act} {w : World} (hl : (loud.contains i || pure_.contains i) = false) (ho : ops[i]? = some o) (ty : TypeId) (x : Operand) (hop : o.op = .load ty x) (hw : Region.wanted o (yielded ops a.tmps) = true)
    (g : Nat) (hx : a.eval x = .pointer (some ⟨g, 0, none⟩)) (t : TypeId) (cs : Array Value) (d : TypeDesc) (hb : w.heap[g]? = some (.cells cs t (0, 0)))
    (hu : P.underlying ty = some d) (hd : (match d with | .struct _ | .array _ _ => true | _ => false) = true) (hi : (P.info? ty).map (·.size) = some cs.size)
    (h : PlanG P ops loud pure_ S Q is (a.put o.dst (.agg cs)) w) : PlanG P ops loud pure_ S Q (i :: is) a w :=
  ⟨planS0_row hl ho ty x hop hw g hx t cs d hb hu hd hi h.out⟩
theorem planS_done {a : Act} {w : World} (h : Q .normal a w) : PlanG P ops loud pure_ S Q [] a w := ⟨planS0_done h⟩
end
end Go.Proofs.YtkobngipbhjfjaaDoor
