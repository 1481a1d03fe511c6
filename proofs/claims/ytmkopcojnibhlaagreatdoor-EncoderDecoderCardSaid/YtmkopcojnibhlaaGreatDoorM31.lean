/-
  As XPlanS; but behind a write or a call that waits for all the floating reads nothing need be said of S.
-/
import Derived.Test.YtmkopcojnibhlaaGreatDoorM22
import Derived.Test.YtmkopcojnibhlaaGreatDoorM21
import Derived.OrdersHeld
import Derived.Deep.MidRow
namespace Go.Proofs.YtmkopcojnibhlaaGreatDoor

section
variable {P : Program} {ops : Array Oper} {md : Region.Mode} {B : Array Nat} {loud pure_ : List Nat} {S : World → Prop} {Q : Exit → Act → World → Prop}
/-- A floating read may come behind operation j. -/
def Behind (B : Array Nat) (pure_ : List Nat) (j : Nat) : Prop := ∃ p ∈ pure_, (B.getD j 0).testBit p = false
def wpZ (P : Program) (md : Region.Mode) (ops : Array Oper) (B : Array Nat) (loud pure_ : List Nat) (S : World → Prop) (Q : Exit → Act → World → Prop) : Nat → Array Bool → Act → World → Prop
  | 0, listed, a, w => Region.ready md ops listed = [] ∧ Q .normal a w
  | f + 1, listed, a, w => (Region.ready md ops listed = [] → Q .normal a w) ∧ ∀ i ∈ Region.ready md ops listed,
      if i ∈ loud then wpOp P ops Q i (fun a' w' => (Behind B pure_ i → S w') ∧ wpZ P md ops B loud pure_ S Q f (listed.setIfInBounds i true) a' w') a w
      else stOp P ops w i (fun a' => wpZ P md ops B loud pure_ S Q f (listed.setIfInBounds i true) a' w) a
theorem wpZ_any : ∀ (f : Nat) (listed : Array Bool) (a : Act) (w : World), wpZ P md ops B loud pure_ S Q f listed a w → wpAny P md ops Q f listed a w
  | 0, _, _, _, h => h
  | f + 1, listed, a, w, h => ⟨h.1, fun i hi => by
      have h2 := h.2 i hi
      split at h2
      · exact wpOp_mono (fun a' w' h' => wpZ_any f _ a' w' h'.2) h2
      · exact wpOp_of_stOp (fun a' h' => wpZ_any f _ a' w h') h2⟩

theorem wpZ_still (hB : waitB md ops B = true) (hsel : ∀ (j : Nat) (o : Oper) cs b, ops[j]? = some o → o.op ≠ .select cs b) {i : Nat} {oi : Oper} {v : Value} (hi : ops[i]? = some oi) (hil : i ∉ loud) {w : World} :
    ∀ (f : Nat) (listed : Array Bool) (a : Act), (∀ j ∈ loud, (B.getD j 0).testBit i = true ∨ listed.getD j true = true) → Closed md ops listed →
      (∀ j oj, ops[j]? = some oj → j ≠ i → listed.getD j true = false → (∀ e ∈ oj.after, Region.binds md e = true → e.on ≠ i) → oi.apart ops oj = true) →
      i ∈ Region.ready md ops listed → YieldsAt P ops w oi v a →
      wpZ P md ops B loud pure_ S Q f (listed.setIfInBounds i true) (a.put oi.dst v) w → wpZ P md ops B loud pure_ S Q (f + 1) listed a w := by
  intro f
  induction f with
  | zero =>
    intro listed a _ hc hfree hr hy H
    refine ⟨fun h => (by rw [h] at hr; cases hr), fun j hj => ?_⟩
    obtain rfl := ready_set_nil H.1 hj
    rw [if_neg hil]
    exact hy.stOp hi H
  | succ f ih =>
    intro listed a hw hc hfree hr hy H
    refine ⟨fun h => (by rw [h] at hr; cases hr), fun j hj => ?_⟩
    by_cases hji : j = i
    · subst hji
      rw [if_neg hil]
      exact hy.stOp hi H
    · obtain ⟨hjun, oj, hoj, hall⟩ := mem_ready.1 hj
      have hjl : j ∉ loud := fun hjl => by
        rcases hw j hjl with h | h
        · have h2 := waits_listed hB hc j j (Nat.le_refl _) oj hoj hall i (Array.getElem?_eq_some_iff.1 hi).1 h
          rw [getD_both (mem_ready.1 hr).1] at h2
          cases h2
        · rw [hjun] at h
          cases h
      have h1 := H.2 j (ready_mono hj hji)
      rw [if_neg hjl] at h1 ⊢
      refine stOp_mono (fun a' h3 => ih (listed.setIfInBounds j true) a' (fun k hk => (hw k hk).imp id getD_keep) (hc.set hj) (free_set hfree hjun) (ready_mono hr (Ne.symm hji)) h3.1 ?_)
        (stOp_put hoj (hfree j oj hoj hji hjun (not_waiting hr hall)) (fun cs b => hsel i oi cs b hi) (fun cs b => hsel j oj cs b hoj) hy h1)
      rw [Array.setIfInBounds_comm _ _ hji]
      exact h3.2

/-- What yields the same in every world that meets S. -/
theorem wpZ_if (hB : waitB md ops B = true) (hsel : ∀ (j : Nat) (o : Oper) cs b, ops[j]? = some o → o.op ≠ .select cs b) {i : Nat} {oi : Oper} {v : Value} (hi : ops[i]? = some oi) (hil : i ∉ loud) (hip : i ∈ pure_)
    (hQ : ∀ c a w d u, Q (.panic c) (a.put d u) w → Q (.panic c) a w) :
    ∀ (f : Nat) (listed : Array Bool) (a : Act) (w : World), S w → Closed md ops listed →
      (∀ j oj, ops[j]? = some oj → j ≠ i → listed.getD j true = false → (∀ e ∈ oj.after, Region.binds md e = true → e.on ≠ i) → oi.apart ops oj = true) →
      i ∈ Region.ready md ops listed → YieldsIf P ops S oi v a →
      wpZ P md ops B loud pure_ S Q f (listed.setIfInBounds i true) (a.put oi.dst v) w → wpZ P md ops B loud pure_ S Q (f + 1) listed a w := by
  have here : ∀ {K : Act → Prop} {a : Act} {w : World}, S w → YieldsIf P ops S oi v a → K (a.put oi.dst v) → stOp P ops w i K a := fun {K a w} hS hy h => by
    unfold stOp
    simp only [hi]
    rcases hy with ⟨hw, hv⟩ | ⟨hw, rfl⟩
    · simp only [hw, if_true, Oper.still, hv w hS, Oper.stillUpon]; exact ⟨trivial, h⟩
    · simp only [hw, Bool.false_eq_true, if_false]; exact h
  intro f
  induction f with
  | zero =>
    intro listed a w hS hc hfree hr hy H
    refine ⟨fun h => (by rw [h] at hr; cases hr), fun j hj => ?_⟩
    obtain rfl := ready_set_nil H.1 hj
    rw [if_neg hil]
    exact here hS hy H
  | succ f ih =>
    intro listed a w hS hc hfree hr hy H
    refine ⟨fun h => (by rw [h] at hr; cases hr), fun j hj => ?_⟩
    by_cases hji : j = i
    · subst hji
      rw [if_neg hil]
      exact here hS hy H
    · obtain ⟨hjun, oj, hoj, hall⟩ := mem_ready.1 hj
      have h1 := H.2 j (ready_mono hj hji)
      split
      · rename_i hjl
        rw [if_pos hjl] at h1
        have hbh : Behind B pure_ j := ⟨i, hip, by
          cases ht : (B.getD j 0).testBit i with
          | false => rfl
          | true =>
            have h2 := waits_listed hB hc j j (Nat.le_refl _) oj hoj hall i (Array.getElem?_eq_some_iff.1 hi).1 ht
            rw [getD_both (mem_ready.1 hr).1] at h2
            cases h2⟩
        refine wpOp_mono (fun a' w' h3 => ⟨h3.2.1, ih (listed.setIfInBounds j true) a' w' (h3.2.1 hbh) (hc.set hj) (free_set hfree hjun) (ready_mono hr (Ne.symm hji)) h3.1 ?_⟩)
          (wpOp_putIf hoj (hfree j oj hoj hji hjun (not_waiting hr hall)) (fun cs b => hsel i oi cs b hi) (fun cs b => hsel j oj cs b hoj) (fun c a w h => hQ c a w _ _ h) hy h1)
        rw [Array.setIfInBounds_comm _ _ hji]
        exact h3.2.2
      · rename_i hjl
        rw [if_neg hjl] at h1
        refine stOp_mono (fun a' h3 => ih (listed.setIfInBounds j true) a' w hS (hc.set hj) (free_set hfree hjun) (ready_mono hr (Ne.symm hji)) h3.1 ?_)
          (stOp_putIf hoj (hfree j oj hoj hji hjun (not_waiting hr hall)) (fun cs b => hsel i oi cs b hi) (fun cs b => hsel j oj cs b hoj) hy h1)
        rw [Array.setIfInBounds_comm _ _ hji]
        exact h3.2

def wpPlanT (P : Program) (ops : Array Oper) (B : Array Nat) (loud pure_ : List Nat) (S : World → Prop) (Q : Exit → Act → World → Prop) : List Nat → Act → World → Prop
  | [], a, w => Q .normal a w
  | i :: is, a, w => if loud.contains i then wpOp P ops Q i (fun a' w' => (Behind B pure_ i → S w') ∧ wpPlanT P ops B loud pure_ S Q is a' w') a w
    else if pure_.contains i then ∃ o v, ops[i]? = some o ∧ YieldsIf P ops S o v a ∧ wpPlanT P ops B loud pure_ S Q is (a.put o.dst v) w
    else stOp P ops w i (fun a' => wpPlanT P ops B loud pure_ S Q is a' w) a

def tillB (B : Array Nat) (loud pure_ : List Nat) : List Nat → Bool
  | [] => true
  | i :: is => (!loud.contains i || !(is.any fun k => pure_.contains k) || pure_.any fun p => !(B.getD i 0).testBit p) && tillB B loud pure_ is
theorem wpZ_plan (hB : waitB md ops B = true) (hs : Region.noSelect ops = true) (hQ : ∀ c a w d u, Q (.panic c) (a.put d u) w → Q (.panic c) a w) :
    ∀ (is : List Nat) (listed : Array Bool) (a : Act) (w : World), ((is.any fun k => pure_.contains k) = true → S w) → Closed md ops listed → tillB B loud pure_ is = true → planOk md ops loud pure_ B is listed = true → wpPlanT P ops B loud pure_ S Q is a w → wpZ P md ops B loud pure_ S Q is.length listed a w
  | [], listed, a, w, _, hc, _, hp, h => ⟨by simpa [planOk] using hp, h⟩
  | i :: is, listed, a, w, hS, hc, ht, hp, h => by
    simp only [planOk, Bool.and_eq_true] at hp
    obtain ⟨h1, h2⟩ := hp
    rw [tillB, Bool.and_eq_true] at ht
    obtain ⟨ht1, ht2⟩ := ht
    have hS' : (is.any fun k => pure_.contains k) = true → S w := fun h => hS (by rw [List.any_cons, h, Bool.or_true])
    unfold wpPlanT at h
    by_cases hl : loud.contains i = true
    · rw [if_pos hl, decide_eq_true_eq] at h1
      rw [if_pos hl] at h
      have hr : i ∈ Region.ready md ops listed := by rw [h1]; simp
      refine ⟨fun h0 => (by rw [h0] at hr; cases hr), fun j hj => ?_⟩
      rw [h1] at hj
      obtain rfl : j = i := by simpa using hj
      rw [if_pos (by simpa using hl)]
      have hnext : ∀ w', (Behind B pure_ j → S w') → (is.any fun k => pure_.contains k) = true → S w' := fun w' hb ha => hb (by
        rw [hl, ha] at ht1
        simp only [Bool.not_true, Bool.false_or, List.any_eq_true, Bool.not_eq_true'] at ht1
        obtain ⟨p, hp, hq⟩ := ht1
        exact ⟨p, hp, hq⟩)
      exact wpOp_mono (fun a' w' h' => ⟨h'.1, wpZ_plan hB hs hQ is _ a' w' (hnext w' h'.1) (hc.set hr) ht2 h2 h'.2⟩) h
    · rw [if_neg hl] at h1 h
      simp only [Bool.and_eq_true, Bool.or_eq_true, List.all_eq_true] at h1
      obtain ⟨⟨hr, hf⟩, hw⟩ := h1
      have hr' : i ∈ Region.ready md ops listed := by simpa using hr
      have hil : i ∉ loud := by simpa using hl
      by_cases hpu : pure_.contains i = true
      · rw [if_pos hpu] at h
        obtain ⟨o, v, ho, hy, hk⟩ := h
        exact wpZ_if hB (Region.noSelect_spec hs) ho hil (by simpa using hpu) hQ is.length listed a w (hS (by rw [List.any_cons, hpu, Bool.true_or])) hc (Region.free_spec ho hf) hr' hy (wpZ_plan hB hs hQ is _ _ w hS' (hc.set hr') ht2 h2 hk)
      · rw [if_neg hpu] at h
        have hw' := hw.resolve_left hpu
        obtain ⟨_, o, ho, _⟩ := mem_ready.1 hr'
        obtain ⟨v, hy, hk⟩ := yieldsAt_of_stOp ho h
        exact wpZ_still hB (Region.noSelect_spec hs) ho hil is.length listed a (fun j hj => by simpa using hw' j hj) hc (Region.free_spec ho hf) hr' hy (wpZ_plan hB hs hQ is _ _ w hS' (hc.set hr') ht2 h2 hk)

theorem wp_region_planT0 {id : Nat} {a : Act} {w : World} (loud pure_ is : List Nat) (S : World → Prop) (hm : P.follows .mixedOrders = true) (hB : (planB ops loud pure_ is && tillB (Region.before ops) loud pure_ is) = true)
    (hQ : ∀ c a w d u, Q (.panic c) (a.put d u) w → Q (.panic c) a w) (hS : S w.drew) (h : wpPlanT P ops (Region.before ops) loud pure_ S Q is a w.drew) : (Code.region id ops true).wp P Q a w := by
  simp only [planB, Bool.and_eq_true, decide_eq_true_eq] at hB
  obtain ⟨⟨⟨⟨hs, hw⟩, hl⟩, hp⟩, ht⟩ := hB
  refine wp_region_any hm ?_
  have := wpZ_any _ _ _ _ (wpZ_plan (md := .any) hw hs hQ is _ a w.drew (fun _ => hS) (fun j oj _ hl => by rw [getD_replicate_false] at hl; cases hl) ht hp h)
  rw [hl] at this
  exact this
theorem planT0_still {i : Nat} {is : List Nat} {o : Oper} {a : Act} {w : World} (hl : (loud.contains i || pure_.contains i) = false) (ho : ops[i]? = some o)
    (h : ∀ K : Act → Prop, (∀ a', wpPlanT P ops B loud pure_ S Q is a' w → K a') → if Region.wanted o (yielded ops a.tmps) then o.still P a w K else K (a.put o.dst undef)) : wpPlanT P ops B loud pure_ S Q (i :: is) a w := by
  rw [Bool.or_eq_false_iff] at hl
  unfold wpPlanT
  rw [if_neg (by simpa using hl.1), if_neg (by simpa using hl.2)]
  unfold stOp
  simp only [ho]
  exact h _ (fun a' h' => h')
theorem planT0_pure {i : Nat} {is : List Nat} {o : Oper} {a : Act} {w : World} {v : Value} (hl : (!loud.contains i && pure_.contains i) = true) (ho : ops[i]? = some o) (hg : Region.wanted o (yielded ops a.tmps) = true)
    (hr : ∀ w, S w → (execOp a.eval o).run P w = .ok (.value v) w) (h : wpPlanT P ops B loud pure_ S Q is (a.put o.dst v) w) : wpPlanT P ops B loud pure_ S Q (i :: is) a w := by
  rw [Bool.and_eq_true, Bool.not_eq_true'] at hl
  unfold wpPlanT
  rw [if_neg (by simpa using hl.1), if_pos hl.2]
  exact ⟨o, v, ho, .inl ⟨hg, hr⟩, h⟩
/-- What is not wanted. -/
theorem planT0_not {i : Nat} {is : List Nat} {o : Oper} {a : Act} {w : World} (hl : (!loud.contains i && pure_.contains i) = true) (ho : ops[i]? = some o) (hg : Region.wanted o (yielded ops a.tmps) = false)
    (h : wpPlanT P ops B loud pure_ S Q is (a.put o.dst undef) w) : wpPlanT P ops B loud pure_ S Q (i :: is) a w := by
  rw [Bool.and_eq_true, Bool.not_eq_true'] at hl
  unfold wpPlanT
  rw [if_neg (by simpa using hl.1), if_pos hl.2]
  exact ⟨o, undef, ho, .inr ⟨hg, rfl⟩, h⟩
theorem planT0_loud {i : Nat} {is : List Nat} {o : Oper} {a : Act} {w : World} (hl : loud.contains i = true) (ho : ops[i]? = some o)
    (h : ∀ K : Act → World → Prop, (∀ a w, (Behind B pure_ i → S w) → wpPlanT P ops B loud pure_ S Q is a w → K a w) → if Region.wanted o (yielded ops a.tmps) = true then Oper.wp P o a w K Q else K (a.put o.dst undef) w) : wpPlanT P ops B loud pure_ S Q (i :: is) a w := by
  unfold wpPlanT
  rw [if_pos hl]
  exact wpOp_step ho (fun K hK => h K (fun a w h1 h2 => hK a w ⟨h1, h2⟩))
/-- A whole row read, as a step of a plan. -/
theorem planT0_row {i : Nat} {is : List Nat} {o : Oper} {a : Act} {w : World} (hl : (loud.contains i || pure_.contains i) = false) (ho : ops[i]? = some o) (ty : TypeId) (x : Operand) (hop : o.op = .load ty x) (hw : Region.wanted o (yielded ops a.tmps) = true)
    (g : Nat) (hx : a.eval x = .pointer (some ⟨g, 0, none⟩)) (t : TypeId) (cs : Array Value) (d : TypeDesc) (hb : w.heap[g]? = some (.cells cs t (0, 0)))
    (hu : P.underlying ty = some d) (hd : (match d with | .struct _ | .array _ _ => true | _ => false) = true) (hi : (P.info? ty).map (·.size) = some cs.size)
    (h : wpPlanT P ops B loud pure_ S Q is (a.put o.dst (.agg cs)) w) : wpPlanT P ops B loud pure_ S Q (i :: is) a w := by
  refine planT0_still hl ho (fun K hK => ?_)
  rw [if_pos hw]
  unfold Oper.still execOp
  simp only [hop, hx, Instr.loadAt, Instr.sureAddr, Sem.run_bind, Sem.run_pure, Result.andThen_ok, run_loadVar_row w g t ty cs (0, 0) d hb hu hd hi]
  exact ⟨rfl, hK _ h⟩
theorem planT0_done {a : Act} {w : World} (h : Q .normal a w) : wpPlanT P ops B loud pure_ S Q [] a w := h

/-- A plan behind a name that nothing takes apart (an elaborator that looks for a hidden 'for all' would run through the plan). -/
structure PlanH (P : Program) (ops : Array Oper) (loud pure_ : List Nat) (S : World → Prop) (Q : Exit → Act → World → Prop) (is : List Nat) (a : Act) (w : World) : Prop where
  out : wpPlanT P ops (Region.before ops) loud pure_ S Q is a w
theorem wp_region_planT {id : Nat} {a : Act} {w : World} (loud pure_ is : List Nat) (S : World → Prop) (hm : P.follows .mixedOrders = true) (hB : (planB ops loud pure_ is && tillB (Region.before ops) loud pure_ is) = true)
    (hQ : ∀ c a w d u, Q (.panic c) (a.put d u) w → Q (.panic c) a w) (hS : S w.drew) (h : PlanH P ops loud pure_ S Q is a w.drew) : (Code.region id ops true).wp P Q a w :=
  wp_region_planT0 loud pure_ is S hm hB hQ hS h.out
theorem planT_still {i : Nat} {is : List Nat} {o : Oper} {a : Act} {w : World} (hl : (loud.contains i || pure_.contains i) = false) (ho : ops[i]? = some o)
    (h : ∀ K : Act → Prop, (∀ a', PlanH P ops loud pure_ S Q is a' w → K a') → if Region.wanted o (yielded ops a.tmps) then o.still P a w K else K (a.put o.dst undef)) : PlanH P ops loud pure_ S Q (i :: is) a w :=
  ⟨planT0_still hl ho (fun K hK => h K (fun a' h' => hK a' h'.out))⟩
theorem planT_pure {i : Nat} {is : List Nat} {o : Oper} {a : Act} {w : World} {v : Value} (hl : (!loud.contains i && pure_.contains i) = true) (ho : ops[i]? = some o) (hg : Region.wanted o (yielded ops a.tmps) = true)
    (hr : ∀ w, S w → (execOp a.eval o).run P w = .ok (.value v) w) (h : PlanH P ops loud pure_ S Q is (a.put o.dst v) w) : PlanH P ops loud pure_ S Q (i :: is) a w :=
  ⟨planT0_pure hl ho hg hr h.out⟩
/-- The same, the frame laid open for the next step. -/
theorem planT_read {i : Nat} {is : List Nat} {o : Oper} {a : Act} {w : World} {v : Value} (hl : (!loud.contains i && pure_.contains i) = true) (ho : ops[i]? = some o) (hg : Region.wanted o (yielded ops a.tmps) = true)
    (hr : ∀ w, S w → (execOp a.eval o).run P w = .ok (.value v) w) (h : ∀ K : Act → Prop, (∀ a', PlanH P ops loud pure_ S Q is a' w → K a') → K (a.put o.dst v)) : PlanH P ops loud pure_ S Q (i :: is) a w :=
  planT_pure hl ho hg hr (h _ (fun _ h => h))
/-- What is not wanted. -/
theorem planT_not {i : Nat} {is : List Nat} {o : Oper} {a : Act} {w : World} (hl : (!loud.contains i && pure_.contains i) = true) (ho : ops[i]? = some o) (hg : Region.wanted o (yielded ops a.tmps) = false)
    (h : PlanH P ops loud pure_ S Q is (a.put o.dst undef) w) : PlanH P ops loud pure_ S Q (i :: is) a w :=
  ⟨planT0_not hl ho hg h.out⟩
theorem planT_loud {i : Nat} {is : List Nat} {o : Oper} {a : Act} {w : World} (hl : loud.contains i = true) (ho : ops[i]? = some o)
    (h : ∀ K : Act → World → Prop, (∀ a w, S w → PlanH P ops loud pure_ S Q is a w → K a w) → if Region.wanted o (yielded ops a.tmps) = true then Oper.wp P o a w K Q else K (a.put o.dst undef) w) : PlanH P ops loud pure_ S Q (i :: is) a w :=
  ⟨planT0_loud hl ho (fun K hK => h K (fun a w h1 h2 => hK a w (fun _ => h1) h2.out))⟩
/-- It waits for all that may float. -/
theorem planT_last {i : Nat} {is : List Nat} {o : Oper} {a : Act} {w : World} (hl : (loud.contains i && pure_.all fun p => ((Region.before ops).getD i 0).testBit p) = true) (ho : ops[i]? = some o)
    (h : ∀ K : Act → World → Prop, (∀ a w, PlanH P ops loud pure_ S Q is a w → K a w) → if Region.wanted o (yielded ops a.tmps) = true then Oper.wp P o a w K Q else K (a.put o.dst undef) w) : PlanH P ops loud pure_ S Q (i :: is) a w := by
  rw [Bool.and_eq_true, List.all_eq_true] at hl
  exact ⟨planT0_loud hl.1 ho (fun K hK => h K (fun a w h2 => hK a w (fun ⟨p, hp, hq⟩ => by rw [hl.2 p hp] at hq; cases hq) h2.out))⟩
/-- A whole row read, as a step of a plan. -/
theorem planT_row {i : Nat} {is : List Nat} {o : Oper} {a : Act} {w : World} (hl : (loud.contains i || pure_.contains i) = false) (ho : ops[i]? = some o) (ty : TypeId) (x : Operand) (hop : o.op = .load ty x) (hw : Region.wanted o (yielded ops a.tmps) = true)
    (g : Nat) (hx : a.eval x = .pointer (some ⟨g, 0, none⟩)) (t : TypeId) (cs : Array Value) (d : TypeDesc) (hb : w.heap[g]? = some (.cells cs t (0, 0)))
    (hu : P.underlying ty = some d) (hd : (match d with | .struct _ | .array _ _ => true | _ => false) = true) (hi : (P.info? ty).map (·.size) = some cs.size)
    (h : PlanH P ops loud pure_ S Q is (a.put o.dst (.agg cs)) w) : PlanH P ops loud pure_ S Q (i :: is) a w :=
  ⟨planT0_row hl ho ty x hop hw g hx t cs d hb hu hd hi h.out⟩
theorem planT_done {a : Act} {w : World} (h : Q .normal a w) : PlanH P ops loud pure_ S Q [] a w := ⟨planT0_done h⟩
end
end Go.Proofs.YtmkopcojnibhlaaGreatDoor

/-
  A struct read as a step of a plan, from the middle of a block.
-/
namespace Go.Proofs.YtmkopcojnibhlaaGreatDoor
open Go.RowKit

section
variable {P : Program} {ops : Array Oper} {loud pure_ : List Nat} {S : World → Prop} {Q : Exit → Act → World → Prop}
theorem planS_load {i : Nat} {is : List Nat} {op : Oper} {a : Act} {w : World} (hl : (!loud.contains i && pure_.contains i) = true) (ho : ops[i]? = some op) (ty : TypeId) (x : Operand) (hop : op.op = .load ty x) (hg : Region.wanted op (yielded ops a.tmps) = true)
    (b o : Nat) (hx : a.eval x = .pointer (some ⟨b, o, none⟩)) (cs : List Value) (d : TypeDesc) (hS : ∀ w, S w → w.rangeAt b o cs)
    (hu : P.underlying ty = some d) (hd : d.isRow = true) (hi : (P.info? ty).map (·.size) = some cs.length)
    (h : PlanG P ops loud pure_ S Q is (a.put op.dst (.agg cs.toArray)) w) : PlanG P ops loud pure_ S Q (i :: is) a w :=
  planS_pure hl ho hg (fun w' hS' => by
    unfold execOp
    simp only [hop, hx, Instr.loadAt, Instr.sureAddr, Sem.run_bind, Sem.run_pure, Result.andThen_ok, run_loadVar_mid w' b o ty cs d (hS w' hS') hu hd hi]) h
theorem planS_loadw {i : Nat} {is : List Nat} {op : Oper} {a : Act} {w : World} (hl : (loud.contains i || pure_.contains i) = false) (ho : ops[i]? = some op) (ty : TypeId) (x : Operand) (hop : op.op = .load ty x) (hg : Region.wanted op (yielded ops a.tmps) = true)
    (b o : Nat) (hx : a.eval x = .pointer (some ⟨b, o, none⟩)) (cs : List Value) (d : TypeDesc) (hc : w.rangeAt b o cs)
    (hu : P.underlying ty = some d) (hd : d.isRow = true) (hi : (P.info? ty).map (·.size) = some cs.length)
    (h : PlanG P ops loud pure_ S Q is (a.put op.dst (.agg cs.toArray)) w) : PlanG P ops loud pure_ S Q (i :: is) a w := by
  refine planS_still hl ho (fun K hK => ?_)
  rw [if_pos hg]
  unfold Oper.still execOp
  simp only [hop, hx, Instr.loadAt, Instr.sureAddr, Sem.run_bind, Sem.run_pure, Result.andThen_ok, run_loadVar_mid w b o ty cs d hc hu hd hi]
  exact ⟨rfl, hK _ h⟩
theorem run_loadVar_one (w : World) (a : Addr) (ty : TypeId) (v : Value) (d : TypeDesc) (hc : w.cell? a = some v) (hu : P.underlying ty = some d) (hd : d.isRow = false) : (loadVar ty a).run P w = .ok v w := by
  have hagg : (isAgg ty).run P w = .ok false w := by
    unfold isAgg
    rw [Sem.run_bind, run_underlying hu w]
    cases d <;> simp_all
  simp only [loadVar, Sem.run_bind, hagg, Result.andThen_ok, Bool.false_eq_true, if_false]
  rw [run_load, hc]
theorem planS_one {i : Nat} {is : List Nat} {op : Oper} {a : Act} {w : World} (hl : (!loud.contains i && pure_.contains i) = true) (ho : ops[i]? = some op) (ty : TypeId) (x : Operand) (hop : op.op = .load ty x) (hg : Region.wanted op (yielded ops a.tmps) = true)
    (b o : Nat) (hx : a.eval x = .pointer (some ⟨b, o, none⟩)) (v : Value) (d : TypeDesc) (hS : ∀ w, S w → w.cell? ⟨b, o, none⟩ = some v)
    (hu : P.underlying ty = some d) (hd : d.isRow = false)
    (h : PlanG P ops loud pure_ S Q is (a.put op.dst v) w) : PlanG P ops loud pure_ S Q (i :: is) a w :=
  planS_pure hl ho hg (fun w' hS' => by
    unfold execOp
    simp only [hop, hx, Instr.loadAt, Instr.sureAddr, Sem.run_bind, Sem.run_pure, Result.andThen_ok, run_loadVar_one w' _ ty v d (hS w' hS') hu hd]) h
/-- The values that are yielded, in their plain form. -/
theorem planS_norm {is : List Nat} {a a' : Act} {w : World} (e : a = a') (h : PlanG P ops loud pure_ S Q is a' w) : PlanG P ops loud pure_ S Q is a w := e ▸ h
/-- A field's cell read where S gives it. -/
theorem planS_cell {i : Nat} {is : List Nat} {op : Oper} {a : Act} {w : World} (hl : (!loud.contains i && pure_.contains i) = true) (ho : ops[i]? = some op) (hg : Region.wanted op (yielded ops a.tmps) = true)
    (v : Value) (hr : ∀ w, S w → (execOp a.eval op).run P w = .ok (.value v) w) (h : PlanG P ops loud pure_ S Q is (a.put op.dst v) w) : PlanG P ops loud pure_ S Q (i :: is) a w :=
  planS_pure hl ho hg hr h
end
theorem Blk.range {w : World} {g : Nat} {t : TypeId} {C : Array Value} (h : Blk w g t C) (o : Nat) (cs : List Value) (hc : (C.extract o (o + cs.length)).toList = cs) : w.rangeAt g o cs := by
  have := World.rangeAt_of_block h o cs.length
  rwa [hc] at this
/-- A place of six, in memory. -/
theorem pl_part (x y i : Nat) (hi : i < 6) : (((plL x y).toArray).extract (i * 3) (i * 3 + [Value.int .i64 (pcP i : Int), .int .i64 (pcX x i : Int), .int .i64 (pcY y i : Int)].length)).toList = [Value.int .i64 (pcP i : Int), .int .i64 (pcX x i : Int), .int .i64 (pcY y i : Int)] := by
  have h6 : i = 0 ∨ i = 1 ∨ i = 2 ∨ i = 3 ∨ i = 4 ∨ i = 5 := by omega
  rcases h6 with rfl | rfl | rfl | rfl | rfl | rfl <;> rfl
end Go.Proofs.YtmkopcojnibhlaaGreatDoor

/-
  A struct, or a cell, read as a floating step of a plan.
-/
namespace Go.Proofs.YtmkopcojnibhlaaGreatDoor
open Go.RowKit

section
variable {P : Program} {ops : Array Oper} {loud pure_ : List Nat} {S : World → Prop} {Q : Exit → Act → World → Prop}
theorem planT_load {i : Nat} {is : List Nat} {op : Oper} {a : Act} {w : World} (hl : (!loud.contains i && pure_.contains i) = true) (ho : ops[i]? = some op) (ty : TypeId) (x : Operand) (hop : op.op = .load ty x) (hg : Region.wanted op (yielded ops a.tmps) = true)
    (b o : Nat) (hx : a.eval x = .pointer (some ⟨b, o, none⟩)) (cs : List Value) (d : TypeDesc) (hS : ∀ w, S w → w.rangeAt b o cs)
    (hu : P.underlying ty = some d) (hd : d.isRow = true) (hi : (P.info? ty).map (·.size) = some cs.length)
    (h : ∀ K : Act → Prop, (∀ a', PlanH P ops loud pure_ S Q is a' w → K a') → K (a.put op.dst (.agg cs.toArray))) : PlanH P ops loud pure_ S Q (i :: is) a w :=
  planT_read hl ho hg (fun w' hS' => by
    unfold execOp
    simp only [hop, hx, Instr.loadAt, Instr.sureAddr, Sem.run_bind, Sem.run_pure, Result.andThen_ok, run_loadVar_mid w' b o ty cs d (hS w' hS') hu hd hi]) h
theorem planT_one {i : Nat} {is : List Nat} {op : Oper} {a : Act} {w : World} (hl : (!loud.contains i && pure_.contains i) = true) (ho : ops[i]? = some op) (ty : TypeId) (x : Operand) (hop : op.op = .load ty x) (hg : Region.wanted op (yielded ops a.tmps) = true)
    (b o : Nat) (hx : a.eval x = .pointer (some ⟨b, o, none⟩)) (v : Value) (d : TypeDesc) (hS : ∀ w, S w → w.cell? ⟨b, o, none⟩ = some v)
    (hu : P.underlying ty = some d) (hd : d.isRow = false)
    (h : ∀ K : Act → Prop, (∀ a', PlanH P ops loud pure_ S Q is a' w → K a') → K (a.put op.dst v)) : PlanH P ops loud pure_ S Q (i :: is) a w :=
  planT_read hl ho hg (fun w' hS' => by
    unfold execOp
    simp only [hop, hx, Instr.loadAt, Instr.sureAddr, Sem.run_bind, Sem.run_pure, Result.andThen_ok, run_loadVar_one w' _ ty v d (hS w' hS') hu hd]) h
theorem planT_idx {i : Nat} {is : List Nat} {op : Oper} {a : Act} {w : World} (hl : (!loud.contains i && pure_.contains i) = true) (ho : ops[i]? = some op) (t : TypeId) (x ix : Operand) (hop : op.op = .indexAddr t x ix) (hg : Region.wanted op (yielded ops a.tmps) = true)
    (X I v : Value) (hx : a.eval x = X) (hi : a.eval ix = I) (hr : ∀ w, (Instr.indexAt t X I).run P w = .ok v w)
    (h : ∀ K : Act → Prop, (∀ a', PlanH P ops loud pure_ S Q is a' w → K a') → K (a.put op.dst v)) : PlanH P ops loud pure_ S Q (i :: is) a w :=
  planT_read hl ho hg (fun w' _ => by
    unfold execOp
    simp only [hop, hx, hi, hr w', Sem.run_bind, Sem.run_pure, Result.andThen_ok]) h
end
end Go.Proofs.YtmkopcojnibhlaaGreatDoor
