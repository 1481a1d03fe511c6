/-
  A region that draws its order, walked by a plan: reads are taken while no write that may come up ahead of them is left; a write is taken where nothing else may come up.
-/
import Derived.Test.YthednemlahioeaaGreatDoorH1
import Derived.Test.YthednemlahioeaaGreatDoorRows
import Derived.StillTailTactics
import Derived.RegionTactic
import Derived.Laws.Rows
namespace Go.Proofs.YthednemlahioeaaGreatDoor
set_option maxRecDepth 100000
set_option maxHeartbeats 8000000
section
variable {P : Program} {ops : Array Oper} {md : Region.Mode} {loud pure_ : List Nat} {Q : Exit → Act → World → Prop}
def waitB (md:Region.Mode) (ops:Array Oper) (B:Array Nat):Bool:=
 (List.range ops.size).all fun j=>(List.range ops.size).all fun i=>!(B.getD j 0).testBit i ||
  match ops[j]? with
  | some o=>o.after.any fun e=>Region.binds md e && decide (e.on < j) && (e.on == i || (B.getD e.on 0).testBit i)
  | none=>false
def Closed (md:Region.Mode) (ops:Array Oper) (listed:Array Bool):Prop:=
 ∀ j oj,ops[j]? = some oj → listed.getD j false = true → ∀ e ∈ oj.after,Region.binds md e = true → listed.getD e.on false = true
theorem Closed.set {i:Nat} {listed:Array Bool} (h:Closed md ops listed) (hi:i ∈ Region.ready md ops listed):Closed md ops (listed.setIfInBounds i true):=by
 obtain ⟨_,oi,hoi,hall⟩:=mem_ready.1 hi
 intro j oj hj hl e he hb
 by_cases hij:i = j
 ·subst hij
  obtain rfl:oj = oi:=Option.some.inj (hj.symm.trans hoi)
  exact getD_set_true (hall e he hb)
 ·rw [getD_set_ne false hij] at hl
  exact getD_set_true (h j oj hj hl e he hb)
theorem waits_listed {B:Array Nat} {listed:Array Bool} (hB:waitB md ops B = true) (closed:Closed md ops listed) :
  ∀ (d t:Nat),t ≤ d → ∀ o,ops[t]? = some o → (∀ e ∈ o.after,Region.binds md e = true → listed.getD e.on false = true) → ∀ i,i < ops.size → (B.getD t 0).testBit i = true → listed.getD i false = true:=by
 intro d
 induction d with
 | zero=>
  intro t ht o ho hd i hi hb
  obtain rfl:t = 0:=by omega
  have h1:=List.all_eq_true.1 (List.all_eq_true.1 hB 0 (List.mem_range.2 (Array.getElem?_eq_some_iff.1 ho).1)) i (List.mem_range.2 hi)
  rw [hb,ho] at h1
  simp only [Bool.not_true,Bool.false_or] at h1
  obtain ⟨e,he,h2⟩:=Array.any_eq_true'.1 h1
  simp at h2
 | succ d ih=>
  intro t ht o ho hd i hi hb
  have h1:=List.all_eq_true.1 (List.all_eq_true.1 hB t (List.mem_range.2 (Array.getElem?_eq_some_iff.1 ho).1)) i (List.mem_range.2 hi)
  rw [hb,ho] at h1
  simp only [Bool.not_true,Bool.false_or] at h1
  obtain ⟨e,he,h2⟩:=Array.any_eq_true'.1 h1
  simp only [Bool.and_eq_true,Bool.or_eq_true,beq_iff_eq,decide_eq_true_eq] at h2
  obtain ⟨⟨hbd,hlt⟩,h3⟩:=h2
  have h4:=hd e he hbd
  rcases h3 with h3 | h3
  ·rw [← h3];exact h4
  ·have hon:e.on < ops.size:=by have:=(Array.getElem?_eq_some_iff.1 ho).1;omega
   exact ih e.on (by omega) ops[e.on] (Array.getElem?_eq_getElem hon) (closed e.on _ (Array.getElem?_eq_getElem hon) h4) i hi h3
def wpX (P:Program) (md:Region.Mode) (ops:Array Oper) (loud:List Nat) (Q:Exit → Act → World → Prop):Nat → Array Bool → Act → World → Prop
 | 0,listed,a,w=>Region.ready md ops listed = [] ∧ Q .normal a w
 | f + 1,listed,a,w=>(Region.ready md ops listed = [] → Q .normal a w) ∧ ∀ i ∈ Region.ready md ops listed,
   if i ∈ loud then wpOp P ops Q i (wpX P md ops loud Q f (listed.setIfInBounds i true)) a w
   else stOp P ops w i (fun a'=>wpX P md ops loud Q f (listed.setIfInBounds i true) a' w) a
theorem wpX_any:∀ (f:Nat) (listed:Array Bool) (a:Act) (w:World),wpX P md ops loud Q f listed a w → wpAny P md ops Q f listed a w
 | 0,_,_,_,h=>h
 | f + 1,listed,a,w,h=>⟨h.1,fun i hi=>by
   have h2:=h.2 i hi
   split at h2
   ·exact wpOp_mono (fun a' w' h'=>wpX_any f _ a' w' h') h2
   ·exact wpOp_of_stOp (fun a' h'=>wpX_any f _ a' w h') h2⟩
theorem ready_set_nil {i:Nat} {listed:Array Bool} {j:Nat} (h:Region.ready md ops (listed.setIfInBounds i true) = []) (hj:j ∈ Region.ready md ops listed):j = i:=by
 refine Classical.byContradiction fun hji=>?_
 have:=ready_mono hj hji
 rw [h] at this
 cases this
theorem not_waiting {i:Nat} {oj:Oper} {listed:Array Bool} (hr:i ∈ Region.ready md ops listed) (hall:∀ e ∈ oj.after,Region.binds md e = true → listed.getD e.on false = true):∀ e ∈ oj.after,Region.binds md e = true → e.on ≠ i:=fun e he hb heq=>by
 have h1:=hall e he hb
 rw [heq,getD_both (mem_ready.1 hr).1] at h1
 cases h1
theorem free_set {i j:Nat} {oi:Oper} {listed:Array Bool} (hfree:∀ k ok,ops[k]? = some ok → k ≠ i → listed.getD k true = false → (∀ e ∈ ok.after,Region.binds md e = true → e.on ≠ i) → oi.apart ops ok = true) (hjun:listed.getD j true = false) :
  ∀ k ok,ops[k]? = some ok → k ≠ i → (listed.setIfInBounds j true).getD k true = false → (∀ e ∈ ok.after,Region.binds md e = true → e.on ≠ i) → oi.apart ops ok = true:=fun k ok hk hki hkun hno=>by
 refine hfree k ok hk hki ?_ hno
 by_cases hjk:j = k
 ·subst hjk;exact hjun
 ·rwa [getD_set_ne true hjk] at hkun
theorem getD_keep {listed:Array Bool} {j k:Nat} (h:listed.getD k true = true):(listed.setIfInBounds j true).getD k true = true:=by
 by_cases hjk:j = k
 ·subst hjk
  simp only [Array.getD_eq_getD_getElem?,Array.getElem?_setIfInBounds_self]
  split <;> rfl
 ·rw [getD_set_ne true hjk]
  exact h
theorem wpX_still {B:Array Nat} (hB:waitB md ops B = true) (hsel:∀ (j:Nat) (o:Oper) cs b,ops[j]? = some o → o.op ≠ .select cs b) {i:Nat} {oi:Oper} {v:Value} (hi:ops[i]? = some oi) (hil:i ∉ loud) {w:World} :
  ∀ (f:Nat) (listed:Array Bool) (a:Act),(∀ j ∈ loud,(B.getD j 0).testBit i = true ∨ listed.getD j true = true) → Closed md ops listed →
   (∀ j oj,ops[j]? = some oj → j ≠ i → listed.getD j true = false → (∀ e ∈ oj.after,Region.binds md e = true → e.on ≠ i) → oi.apart ops oj = true) →
   i ∈ Region.ready md ops listed → YieldsAt P ops w oi v a →
   wpX P md ops loud Q f (listed.setIfInBounds i true) (a.put oi.dst v) w → wpX P md ops loud Q (f + 1) listed a w:=by
 intro f
 induction f with
 | zero=>
  intro listed a _ hc hfree hr hy H
  refine ⟨fun h=>(by rw [h] at hr;cases hr),fun j hj=>?_⟩
  obtain rfl:=ready_set_nil H.1 hj
  rw [if_neg hil]
  exact hy.stOp hi H
 | succ f ih=>
  intro listed a hw hc hfree hr hy H
  refine ⟨fun h=>(by rw [h] at hr;cases hr),fun j hj=>?_⟩
  by_cases hji:j = i
  ·subst hji
   rw [if_neg hil]
   exact hy.stOp hi H
  ·obtain ⟨hjun,oj,hoj,hall⟩:=mem_ready.1 hj
   have hjl:j ∉ loud:=fun hjl=>by
    rcases hw j hjl with h | h
    ·have h2:=waits_listed hB hc j j (Nat.le_refl _) oj hoj hall i (Array.getElem?_eq_some_iff.1 hi).1 h
     rw [getD_both (mem_ready.1 hr).1] at h2
     cases h2
    ·rw [hjun] at h
     cases h
   have h1:=H.2 j (ready_mono hj hji)
   rw [if_neg hjl] at h1 ⊢
   refine stOp_mono (fun a' h3=>ih (listed.setIfInBounds j true) a' (fun k hk=>(hw k hk).imp id getD_keep) (hc.set hj) (free_set hfree hjun) (ready_mono hr (Ne.symm hji)) h3.1 ?_)
    (stOp_put hoj (hfree j oj hoj hji hjun (not_waiting hr hall)) (fun cs b=>hsel i oi cs b hi) (fun cs b=>hsel j oj cs b hoj) hy h1)
   rw [Array.setIfInBounds_comm _ _ hji]
   exact h3.2
theorem stOp_putY {j:Nat} {oi oj:Oper} {v:Value} {w:World} (hj:ops[j]? = some oj) (hap:oi.apart ops oj = true)
  (hsi:∀ cs b,oi.op ≠ .select cs b) (hsj:∀ cs b,oj.op ≠ .select cs b) {K:Act → Prop} {a:Act}
  (hy:Yields P ops oi v a) (h:stOp P ops w j K (a.put oi.dst v)) :
  stOp P ops w j (fun a'=>Yields P ops oi v a' ∧ K (a'.put oi.dst v)) a:=by
 obtain ⟨h1,h2,h3⟩:=Oper.apart_spec hap
 have keep:∀ u,Yields P ops oi v (a.put oj.dst u):=fun u=>hy.of_same (execOp_put oi hsi a oj.dst u h3) (wanted_put oi a oj.dst u h3)
 unfold stOp at *
 simp only [hj] at *
 rw [wanted_put oj a oi.dst v h1] at h
 split
 ·rename_i hw
  simp only [hw,if_true] at h
  unfold Oper.still at *
  rw [execOp_put oj hsj a oi.dst v h1] at h
  generalize (execOp a.eval oj).run P w = r at *
  cases r with
  | ok n w'=>
   cases n <;> simp only [Oper.stillUpon] at h ⊢
   case value u=>exact ⟨h.1,keep u,by rw [← Act.put_comm a v u h2];exact h.2⟩
   case skip=>exact ⟨h.1,keep _,by rw [← Act.put_comm a v undef h2];exact h.2⟩
   case enter f args=>obtain ⟨hw',u,hc,hn⟩:=h;exact ⟨hw',u,hc,keep u,by rw [← Act.put_comm a v u h2];exact hn⟩
  | halt x w'=>simp only [Oper.stillUpon] at h
 ·rename_i hw
  simp only [hw] at h
  exact ⟨keep _,by rw [← Act.put_comm a v undef h2];exact h⟩
theorem wpX_pure (hsel:∀ (j:Nat) (o:Oper) cs b,ops[j]? = some o → o.op ≠ .select cs b) {i:Nat} {oi:Oper} {v:Value} (hi:ops[i]? = some oi) (hil:i ∉ loud)
  (hQ:∀ c a w d u,Q (.panic c) (a.put d u) w → Q (.panic c) a w) :
  ∀ (f:Nat) (listed:Array Bool) (a:Act) (w:World),
   (∀ j oj,ops[j]? = some oj → j ≠ i → listed.getD j true = false → (∀ e ∈ oj.after,Region.binds md e = true → e.on ≠ i) → oi.apart ops oj = true) →
   i ∈ Region.ready md ops listed → Yields P ops oi v a →
   wpX P md ops loud Q f (listed.setIfInBounds i true) (a.put oi.dst v) w → wpX P md ops loud Q (f + 1) listed a w:=by
 have here:∀ {K:Act → Prop} {a:Act} {w:World},Yields P ops oi v a → K (a.put oi.dst v) → stOp P ops w i K a:=fun {K a w} hy h=>by
  unfold stOp
  simp only [hi]
  rcases hy with ⟨hw,hv⟩ | ⟨hw,rfl⟩
  ·simp only [hw,if_true,Oper.still,hv w,Oper.stillUpon];exact ⟨trivial,h⟩
  ·simp only [hw,Bool.false_eq_true,if_false];exact h
 intro f
 induction f with
 | zero=>
  intro listed a w hfree hr hy H
  refine ⟨fun h=>(by rw [h] at hr;cases hr),fun j hj=>?_⟩
  obtain rfl:=ready_set_nil H.1 hj
  rw [if_neg hil]
  exact here hy H
 | succ f ih=>
  intro listed a w hfree hr hy H
  refine ⟨fun h=>(by rw [h] at hr;cases hr),fun j hj=>?_⟩
  by_cases hji:j = i
  ·subst hji
   rw [if_neg hil]
   exact here hy H
  ·obtain ⟨hjun,oj,hoj,hall⟩:=mem_ready.1 hj
   have h1:=H.2 j (ready_mono hj hji)
   split
   ·rename_i hjl
    rw [if_pos hjl] at h1
    refine wpOp_mono (fun a' w' h3=>ih (listed.setIfInBounds j true) a' w' (free_set hfree hjun) (ready_mono hr (Ne.symm hji)) h3.1 ?_)
     (wpOp_put hoj (hfree j oj hoj hji hjun (not_waiting hr hall)) (fun cs b=>hsel i oi cs b hi) (fun cs b=>hsel j oj cs b hoj) (fun c a w h=>hQ c a w _ _ h) hy h1)
    rw [Array.setIfInBounds_comm _ _ hji]
    exact h3.2
   ·rename_i hjl
    rw [if_neg hjl] at h1
    refine stOp_mono (fun a' h3=>ih (listed.setIfInBounds j true) a' w (free_set hfree hjun) (ready_mono hr (Ne.symm hji)) h3.1 ?_)
     (stOp_putY hoj (hfree j oj hoj hji hjun (not_waiting hr hall)) (fun cs b=>hsel i oi cs b hi) (fun cs b=>hsel j oj cs b hoj) hy h1)
    rw [Array.setIfInBounds_comm _ _ hji]
    exact h3.2
def planOk (md : Region.Mode) (ops : Array Oper) (loud pure_ : List Nat) (B : Array Nat) : List Nat → Array Bool → Bool
  | [], listed => decide (Region.ready md ops listed = [])
  | i :: is, listed =>
    (if loud.contains i then decide (Region.ready md ops listed = [i])
     else (Region.ready md ops listed).contains i && Region.free md ops listed i && (pure_.contains i || loud.all fun j => (B.getD j 0).testBit i || listed.getD j true)) &&
    planOk md ops loud pure_ B is (listed.setIfInBounds i true)
def wpPlan (P:Program) (ops:Array Oper) (loud pure_:List Nat) (Q:Exit → Act → World → Prop):List Nat → Act → World → Prop
 | [],a,w=>Q .normal a w
 | i :: is,a,w=>if loud.contains i then wpOp P ops Q i (wpPlan P ops loud pure_ Q is) a w
  else if pure_.contains i then ∃ o v,ops[i]? = some o ∧ Yields P ops o v a ∧ wpPlan P ops loud pure_ Q is (a.put o.dst v) w
  else stOp P ops w i (fun a'=>wpPlan P ops loud pure_ Q is a' w) a
theorem wpX_plan {B:Array Nat} (hB:waitB md ops B = true) (hs:Region.noSelect ops = true) (hQ:∀ c a w d u,Q (.panic c) (a.put d u) w → Q (.panic c) a w) :
  ∀ (is:List Nat) (listed:Array Bool) (a:Act) (w:World),Closed md ops listed → planOk md ops loud pure_ B is listed = true → wpPlan P ops loud pure_ Q is a w → wpX P md ops loud Q is.length listed a w
 | [],listed,a,w,_,hp,h=>⟨by simpa [planOk] using hp,h⟩
 | i :: is,listed,a,w,hc,hp,h=>by
  simp only [planOk,Bool.and_eq_true] at hp
  obtain ⟨h1,h2⟩:=hp
  unfold wpPlan at h
  by_cases hl:loud.contains i = true
  ·rw [if_pos hl,decide_eq_true_eq] at h1
   rw [if_pos hl] at h
   have hr:i ∈ Region.ready md ops listed:=by rw [h1];simp
   refine ⟨fun h0=>(by rw [h0] at hr;cases hr),fun j hj=>?_⟩
   rw [h1] at hj
   obtain rfl:j = i:=by simpa using hj
   rw [if_pos (by simpa using hl)]
   exact wpOp_mono (fun a' w' h'=>wpX_plan hB hs hQ is _ a' w' (hc.set hr) h2 h') h
  ·rw [if_neg hl] at h1 h
   simp only [Bool.and_eq_true,Bool.or_eq_true,List.all_eq_true] at h1
   obtain ⟨⟨hr,hf⟩,hw⟩:=h1
   have hr':i ∈ Region.ready md ops listed:=by simpa using hr
   have hil:i ∉ loud:=by simpa using hl
   by_cases hpu:pure_.contains i = true
   ·rw [if_pos hpu] at h
    obtain ⟨o,v,ho,hy,hk⟩:=h
    exact wpX_pure (Region.noSelect_spec hs) ho hil hQ is.length listed a w (Region.free_spec ho hf) hr' hy (wpX_plan hB hs hQ is _ _ w (hc.set hr') h2 hk)
   ·rw [if_neg hpu] at h
    have hw':=hw.resolve_left hpu
    obtain ⟨_,o,ho,_⟩:=mem_ready.1 hr'
    obtain ⟨v,hy,hk⟩:=yieldsAt_of_stOp ho h
    exact wpX_still hB (Region.noSelect_spec hs) ho hil is.length listed a (fun j hj=>by simpa using hw' j hj) hc (Region.free_spec ho hf) hr' hy (wpX_plan hB hs hQ is _ _ w (hc.set hr') h2 hk)
def planB (ops:Array Oper) (loud pure_ is:List Nat):Bool:=
 Region.noSelect ops && waitB .any ops (Region.before ops) && decide (is.length = ops.size) && planOk .any ops loud pure_ (Region.before ops) is (Array.replicate ops.size false)
theorem wp_region_plan {id:Nat} {a:Act} {w:World} (loud pure_ is:List Nat) (hm:P.follows .mixedOrders = true) (hB:planB ops loud pure_ is = true)
  (hQ:∀ c a w d u,Q (.panic c) (a.put d u) w → Q (.panic c) a w) (h:wpPlan P ops loud pure_ Q is a w.drew):(Code.region id ops true).wp P Q a w:=by
 simp only [planB,Bool.and_eq_true,decide_eq_true_eq] at hB
 obtain ⟨⟨⟨hs,hw⟩,hl⟩,hp⟩:=hB
 refine wp_region_any hm ?_
 have:=wpX_any _ _ _ _ (wpX_plan (md:=.any) hw hs hQ is _ a w.drew (fun j oj _ hl=>by rw [getD_replicate_false] at hl;cases hl) hp h)
 rw [hl] at this
 exact this
theorem plan_still {i:Nat} {is:List Nat} {o:Oper} {a:Act} {w:World} (hl:(loud.contains i || pure_.contains i) = false) (ho:ops[i]? = some o)
  (h:∀ K:Act → Prop,(∀ a',wpPlan P ops loud pure_ Q is a' w → K a') → if Region.wanted o (yielded ops a.tmps) then o.still P a w K else K (a.put o.dst undef)):wpPlan P ops loud pure_ Q (i :: is) a w:=by
 rw [Bool.or_eq_false_iff] at hl
 unfold wpPlan
 rw [if_neg (by simpa using hl.1),if_neg (by simpa using hl.2)]
 unfold stOp
 simp only [ho]
 exact h _ (fun a' h'=>h')
theorem plan_pure {i:Nat} {is:List Nat} {o:Oper} {a:Act} {w:World} {v:Value} (hl:(!loud.contains i && pure_.contains i) = true) (ho:ops[i]? = some o) (hg:Region.wanted o (yielded ops a.tmps) = true)
  (hr:∀ w,(execOp a.eval o).run P w = .ok (.value v) w) (h:wpPlan P ops loud pure_ Q is (a.put o.dst v) w):wpPlan P ops loud pure_ Q (i :: is) a w:=by
 rw [Bool.and_eq_true,Bool.not_eq_true'] at hl
 unfold wpPlan
 rw [if_neg (by simpa using hl.1),if_pos hl.2]
 exact ⟨o,v,ho,.inl ⟨hg,hr⟩,h⟩
theorem plan_loud {i:Nat} {is:List Nat} {o:Oper} {a:Act} {w:World} (hl:loud.contains i = true) (ho:ops[i]? = some o)
  (h:∀ K:Act → World → Prop,(∀ a w,wpPlan P ops loud pure_ Q is a w → K a w) → if Region.wanted o (yielded ops a.tmps) = true then Oper.wp P o a w K Q else K (a.put o.dst undef) w):wpPlan P ops loud pure_ Q (i :: is) a w:=by
 unfold wpPlan
 rw [if_pos hl]
 exact wpOp_step ho (fun K hK=>h K hK)
theorem plan_row {i:Nat} {is:List Nat} {o:Oper} {a:Act} {w:World} (hl:(loud.contains i || pure_.contains i) = false) (ho:ops[i]? = some o) (hgd:o.guard = none) (ty:TypeId) (x:Operand) (hop:o.op = .load ty x)
  (g:Nat) (hx:a.eval x = .pointer (some ⟨g,0,none⟩)) (t:TypeId) (cs:Array Value) (d:TypeDesc) (hb:w.heap[g]? = some (.cells cs t (0,0)))
  (hu:P.underlying ty = some d) (hd:(match d with | .struct _ | .array _ _=>true | _=>false) = true) (hi:(P.info? ty).map (·.size) = some cs.size)
  (h:wpPlan P ops loud pure_ Q is (a.put o.dst (.agg cs)) w):wpPlan P ops loud pure_ Q (i :: is) a w:=by
 refine plan_still hl ho (fun K hK=>?_)
 have hw:Region.wanted o (yielded ops a.tmps) = true:=by simp [Region.wanted,hgd]
 rw [if_pos hw]
 unfold Oper.still execOp
 simp only [hop,hx,Instr.loadAt,Instr.sureAddr,Sem.run_bind,Sem.run_pure,Result.andThen_ok,run_loadVar_row w g t ty cs (0,0) d hb hu hd hi]
 exact ⟨rfl,hK _ h⟩
theorem plan_done {a:Act} {w:World} (h:Q .normal a w):wpPlan P ops loud pure_ Q [] a w:=h
end
end Go.Proofs.YthednemlahioeaaGreatDoor
namespace Go.Proofs.YthednemlahioeaaGreatDoor
open Go.RowKit
set_option maxRecDepth 100000
set_option maxHeartbeats 8000000
def sideOf (n:Nat):Nat:=if n = 16 then 4 else if n = 64 then 8 else 0
theorem quantSide (w:World) (n:Nat) (hn:n ≤ 9223372036854775807):Calls Tryz.prog 402 #[.int .i64 (n:Int)] w fun e w'=>e = .returned (.int .i64 ((sideOf n:Nat):Int)) ∧ w = w':=by
 unfold sideOf
 by_cases h1:n = 16
 ·subst h1
  go_enter Tryz.func402,Tryz.ntmps402
  go_wp2_with fail
  go_ret
  exact ⟨rfl,rfl⟩
 ·by_cases h2:n = 64
  ·subst h2
   go_enter Tryz.func402,Tryz.ntmps402
   go_wp2_with fail
   go_ret
   exact ⟨rfl,rfl⟩
  ·rw [if_neg h1,if_neg h2]
   have e1:((n:Int) == 16) = false:=beq_eq_false_iff_ne.2 (by omega)
   have e2:((n:Int) == 64) = false:=beq_eq_false_iff_ne.2 (by omega)
   go_enter Tryz.func402,Tryz.ntmps402
   go_wp2_with fail
   go_ret
   exact ⟨rfl,rfl⟩
def stepOf (q x y:Int):Int:=(4 + q % 4) * 2 ^ (q / 4).toNat / 4 * (4 + x + y) / 4
def stepOk (q x y:Int):Bool:=decide (0 ≤ q ∧ q ≤ 31 ∧ 0 ≤ x ∧ x ≤ 7 ∧ 0 ≤ y ∧ y ≤ 7)
theorem may_any (w:World) (v m:Int):Calls Tryz.prog 343 #[.int .i64 v,.int .i64 m] w fun e w'=>e = .returned (.bool (decide (0 ≤ v ∧ v ≤ m))) ∧ w = w':=by
 by_cases h:0 ≤ v
 ·have e1:decide (0 ≤ v) = true:=by simpa using h
  rw [show decide (0 ≤ v ∧ v ≤ m) = decide (v ≤ m) by simp [h]]
  go_enter Tryz.func343,Tryz.ntmps343
  go_wp2_with fail
  go_ret
  exact ⟨rfl,rfl⟩
 ·have e1:decide (0 ≤ v) = false:=by simpa using h
  rw [show decide (0 ≤ v ∧ v ≤ m) = false by simp [h]]
  go_enter Tryz.func343,Tryz.ntmps343
  go_wp2_with fail
  go_ret
  exact ⟨rfl,rfl⟩
theorem quantValue (w:World) (v s:Int) (hs:1 ≤ s) (hv:-9223372036854775808 ≤ v * s ∧ v * s ≤ 9223372036854775807):Calls Tryz.prog 405 #[.int .i64 v,.int .i64 s] w fun e w'=>e = .returned (.int .i64 (v * s)) ∧ w = w':=by
 go_enter Tryz.func405,Tryz.ntmps405
 go_wp2_with fail
 go_ret
 exact ⟨rfl,rfl⟩
theorem quantWithin (w:World) (m:Int):Calls Tryz.prog 361 #[.int .i64 m] w fun e w'=>e = .returned (.func (.func 403) #[] #[.pointer (some ⟨w.heap.size,0,none⟩)]) ∧ Blk w' w.heap.size 3 #[.int .i64 m] ∧ Mod (fun _=>False) w w':=by
 go_enter Tryz.func361,Tryz.ntmps361
 go_wp2_with fail
 go_ret
 exact ⟨rfl,Blk.new _ _ _,(Mod.refl _ _).alloc _⟩
def inB (m v:Int):Bool:=decide (-m ≤ v ∧ v ≤ m)
theorem quantIn (w:World) (b:Nat) (m v:Int) (hm:0 ≤ m ∧ m ≤ 1099511627776) (hb:Blk w b 3 #[.int .i64 m]):Calls Tryz.prog 403 #[.int .i64 v,.pointer (some ⟨b,0,none⟩)] w fun e w'=>e = .returned (.bool (inB m v)) ∧ w = w':=by
 obtain ⟨hc,hf⟩:=hb.both
 unfold inB
 clear hb
 by_cases h:-m ≤ v
 ·have e1:decide (-m ≤ v) = true:=by simpa using h
  rw [show decide (-m ≤ v ∧ v ≤ m) = decide (v ≤ m) by simp [h]]
  go_enter Tryz.func403,Tryz.ntmps403
  go_wp2_with fail
  go_ret
  exact ⟨rfl,rfl⟩
 ·have e1:decide (-m ≤ v) = false:=by simpa using h
  rw [show decide (-m ≤ v ∧ v ≤ m) = false by simp [h]]
  go_enter Tryz.func403,Tryz.ntmps403
  go_wp2_with fail
  go_ret
  exact ⟨rfl,rfl⟩
theorem step_bd (q x y:Int) (h:stepOk q x y = true):(4 ≤ (4 + q % 4) * 2 ^ (q / 4).toNat ∧ (4 + q % 4) * 2 ^ (q / 4).toNat ≤ 896) ∧ 1 ≤ stepOf q x y ∧ stepOf q x y ≤ 1008 ∧ stepOf q x y = wrap64 (wrap64 ((4 + q % 4) * 2 ^ (q / 4).toNat) / 4 * (4 + x + y)) / 4:=by
 unfold stepOk at h
 simp only [decide_eq_true_eq] at h
 obtain ⟨q1,q2,x1,x2,y1,y2⟩:=h
 have hp:4 ≤ (4 + q % 4) * 2 ^ (q / 4).toNat ∧ (4 + q % 4) * 2 ^ (q / 4).toNat ≤ 896:=by
  have hk:(q / 4).toNat = 0 ∨ (q / 4).toNat = 1 ∨ (q / 4).toNat = 2 ∨ (q / 4).toNat = 3 ∨ (q / 4).toNat = 4 ∨ (q / 4).toNat = 5 ∨ (q / 4).toNat = 6 ∨ (q / 4).toNat = 7:=by omega
  rcases hk with e | e | e | e | e | e | e | e <;> rw [e] <;> simp only [Int.reducePow] <;> omega
 refine ⟨hp,?_⟩
 unfold stepOf
 generalize (4 + q % 4) * 2 ^ (q / 4).toNat = p at *
 rw [IntWalk.wrap64_in p ⟨by omega,by omega⟩]
 have h1:1 ≤ p / 4 ∧ p / 4 ≤ 224:=by omega
 generalize p / 4 = r at *
 have h2:4 ≤ r * (4 + x + y):=by
  have:=Int.mul_le_mul h1.1 (show 4 ≤ 4 + x + y by omega) (by omega) (by omega)
  omega
 have h3:r * (4 + x + y) ≤ 224 * 18:=Int.mul_le_mul h1.2 (show 4 + x + y ≤ 18 by omega) (by omega) (by omega)
 generalize r * (4 + x + y) = m at *
 rw [IntWalk.wrap64_in m ⟨by omega,by omega⟩]
 omega
theorem quantStep_yes (w:World) (q x y:Int) (h:stepOk q x y = true):Calls Tryz.prog 287 #[.int .i64 q,.int .i64 x,.int .i64 y] w fun e w'=>e = .returned (.tuple #[.int .i64 (stepOf q x y),.int .i64 0]) ∧ w = w':=by
 have HS:=Lib.hid (step_bd q x y h).2.2.2
 unfold stepOk at h
 simp only [decide_eq_true_eq] at h
 obtain ⟨q1,q2,x1,x2,y1,y2⟩:=h
 have d1:decide (0 ≤ q ∧ q ≤ 31) = true:=by simp;omega
 have d2:decide (0 ≤ x ∧ x ≤ 7) = true:=by simp;omega
 have d3:decide (0 ≤ y ∧ y ≤ 7) = true:=by simp;omega
 go_enter Tryz.func287,Tryz.ntmps287
 go_wp2_with fail
 refine (may_any _ q 31).mono ?_
 rintro e w1 ⟨rfl,rfl⟩
 rw [d1]
 go_wp2_with fail
 refine (may_any _ x 7).mono ?_
 rintro e w1 ⟨rfl,rfl⟩
 rw [d2]
 go_wp2_with fail
 refine (may_any _ y 7).mono ?_
 rintro e w1 ⟨rfl,rfl⟩
 rw [d3]
 clear d1 d2 d3
 go_wp2_with fail
 go_ret2
 exact ⟨by rw [HS.out];rfl,rfl⟩
theorem quantStep_no (w:World) (q x y:Int) (h:stepOk q x y = false):Calls Tryz.prog 287 #[.int .i64 q,.int .i64 x,.int .i64 y] w fun e w'=>e = .returned (.tuple #[.int .i64 0,.int .i64 1]) ∧ w = w':=by
 unfold stepOk at h
 simp only [decide_eq_false_iff_not] at h
 go_enter Tryz.func287,Tryz.ntmps287
 go_wp2_with fail
 refine (may_any _ q 31).mono ?_
 rintro e w1 ⟨rfl,rfl⟩
 by_cases d1:0 ≤ q ∧ q ≤ 31
 ·rw [decide_eq_true d1]
  go_wp2_with fail
  refine (may_any _ x 7).mono ?_
  rintro e w1 ⟨rfl,rfl⟩
  by_cases d2:0 ≤ x ∧ x ≤ 7
  ·rw [decide_eq_true d2]
   go_wp2_with fail
   refine (may_any _ y 7).mono ?_
   rintro e w1 ⟨rfl,rfl⟩
   rw [decide_eq_false (show ¬ (0 ≤ y ∧ y ≤ 7) by omega)]
   go_wp2_with fail
   go_ret2
   exact ⟨rfl,rfl⟩
  ·rw [decide_eq_false d2]
   go_wp2_with fail
   go_ret2
   exact ⟨rfl,rfl⟩
 ·rw [decide_eq_false d1]
  go_wp2_with fail
  go_ret2
  exact ⟨rfl,rfl⟩
def allB (m:Int) (l:List Int):Bool:=decide (sideOf l.length ≠ 0) && l.all (inB m)
theorem allB_yes {m:Int} {l:List Int} (h1:sideOf l.length ≠ 0) (h2:∀ j < l.length,inB m (l.getD j 0) = true):allB m l = true:=by
 unfold allB
 rw [Bool.and_eq_true,decide_eq_true_eq,List.all_eq_true]
 refine ⟨h1,fun x hx=>?_⟩
 obtain ⟨j,hj,rfl⟩:=List.getElem_of_mem hx
 have:=h2 j hj
 rwa [List.getD_eq_getElem?_getD,List.getElem?_eq_getElem hj] at this
theorem allB_no {m:Int} {l:List Int} (j:Nat) (hj:j < l.length) (h2:inB m (l.getD j 0) = false):allB m l = false:=by
 unfold allB
 rw [Bool.and_eq_false_iff]
 right
 rw [List.all_eq_false]
 refine ⟨l[j],List.getElem_mem hj,?_⟩
 rw [List.getD_eq_getElem?_getD,List.getElem?_eq_getElem hj] at h2
 have h3:inB m l[j] = false:=h2
 rw [h3]
 decide
theorem quantAll (w:World) (A:Option Addr) (n c bb:Nat) (l:List Int) (m:Int) (hin:IntsIn w A n c l) (hn:n ≤ 1048576) (hm:0 ≤ m ∧ m ≤ 1099511627776) (hb:Blk w bb 3 #[.int .i64 m]) :
  Calls Tryz.prog 360 #[.slice A n c,.func (.func 403) #[] #[.pointer (some ⟨bb,0,none⟩)]] w fun e w'=>e = .returned (.bool (allB m l)) ∧ w = w':=by
 obtain rfl:l.length = n:=hin.1
 by_cases hs:sideOf l.length = 0
 ·have HA:Hid (allB m l = false):=by show _ = _;unfold allB;rw [hs];rfl
  go_enter Tryz.func360,Tryz.ntmps360
  go_wp2_with fail
  refine (quantSide _ l.length (by omega)).mono ?_
  rintro e w1 ⟨rfl,rfl⟩
  rw [hs]
  clear hs
  go_wp2_with fail
  go_ret
  exact ⟨by rw [HA.out];rfl,rfl⟩
 ·have hs1:(((sideOf l.length:Nat):Int) == 0) = false:=beq_eq_false_iff_ne.2 (by omega)
  have h0:0 < l.length:=by
   rcases Nat.eq_zero_or_pos l.length with e | e
   ·rw [e] at hs;exact absurd rfl hs
   ·exact e
  obtain ⟨b,off,rfl,_,hc⟩:=hin.place h0
  have HC:=Lib.hid hc
  have HS:=Lib.hid hs
  clear hin hc hs
  go_enter Tryz.func360,Tryz.ntmps360
  go_wp2_with fail
  refine (quantSide _ l.length (by omega)).mono ?_
  rintro e w1 ⟨rfl,rfl⟩
  generalize ((sideOf l.length:Nat):Int) = sd at *
  go_wp2_with fail
  go_loop [13] (fun i=>∃ k:Nat,k ≤ l.length ∧ i = .int .i64 k ∧ ∀ j < k,inB m (l.getD j 0) = true) (fun i=>l.length - (intOf i).toNat)
  case atStart=>exact ⟨0,by omega,rfl,fun j hj=>by omega⟩
  case round=>
   obtain ⟨k,hk,rfl,hall⟩:=hrel
   have HL:=Lib.hid hall
   clear hall
   by_cases hlt:k < l.length
   ·have hck:=HC.out k hlt
    have i1:(0:Int) ≤ (k:Int):=by omega
    have i2:(k:Int) < (l.length:Int):=by omega
    cases hv:inB m (l.getD k 0) with
    | true=>
     generalize hx:l.getD k 0 = x at *
     have HX:=Lib.hid (And.intro hx hv)
     clear hx
     go_wp2_with fail
     refine (quantIn _ bb m x hm hb).mono ?_
     rintro e w1 ⟨rfl,rfl⟩
     rw [hv]
     clear hv
     go_wp2_with fail
     go_round
     case rel=>exact ⟨k + 1,by omega,by go_num,fun j hj=>by
      by_cases e:j = k
      ·subst e;rw [HX.out.1];exact HX.out.2
      ·exact HL.out j (by omega)⟩
     case measure=>simp [intOf];omega
    | false=>
     have HA:Hid (allB m l = false):=allB_no k hlt hv
     generalize hx:l.getD k 0 = x at *
     clear hx
     go_wp2_with fail
     refine (quantIn _ bb m x hm hb).mono ?_
     rintro e w1 ⟨rfl,rfl⟩
     rw [hv]
     clear hv
     go_wp2_with fail
     go_ret
     exact ⟨by rw [HA.out];rfl,rfl⟩
   ·have HA:Hid (allB m l = true):=allB_yes HS.out (fun j hj=>HL.out j (by omega))
    go_wp2_with fail
    go_ret
    exact ⟨by rw [HA.out];rfl,rfl⟩
theorem liftSide (w:World) (n:Nat) (hn:n ≤ 9223372036854775807):Calls Tryz.prog 400 #[.int .i64 (n:Int)] w fun e w'=>e = .returned (.int .i64 ((sideOf n:Nat):Int)) ∧ w = w':=by
 unfold sideOf
 by_cases h1:n = 16
 ·subst h1
  go_enter Tryz.func400,Tryz.ntmps400
  go_wp2_with fail
  go_ret
  exact ⟨rfl,rfl⟩
 ·by_cases h2:n = 64
  ·subst h2
   go_enter Tryz.func400,Tryz.ntmps400
   go_wp2_with fail
   go_ret
   exact ⟨rfl,rfl⟩
  ·rw [if_neg h1,if_neg h2]
   have e1:((n:Int) == 16) = false:=beq_eq_false_iff_ne.2 (by omega)
   have e2:((n:Int) == 64) = false:=beq_eq_false_iff_ne.2 (by omega)
   go_enter Tryz.func400,Tryz.ntmps400
   go_wp2_with fail
   go_ret
   exact ⟨rfl,rfl⟩
theorem liftWithin (w:World) (m:Int):Calls Tryz.prog 353 #[.int .i64 m] w fun e w'=>e = .returned (.func (.func 401) #[] #[.pointer (some ⟨w.heap.size,0,none⟩)]) ∧ Blk w' w.heap.size 3 #[.int .i64 m] ∧ Mod (fun _=>False) w w':=by
 go_enter Tryz.func353,Tryz.ntmps353
 go_wp2_with fail
 go_ret
 exact ⟨rfl,Blk.new _ _ _,(Mod.refl _ _).alloc _⟩
theorem liftIn (w:World) (b:Nat) (m v:Int) (hm:0 ≤ m ∧ m ≤ 1099511627776) (hb:Blk w b 3 #[.int .i64 m]):Calls Tryz.prog 401 #[.int .i64 v,.pointer (some ⟨b,0,none⟩)] w fun e w'=>e = .returned (.bool (inB m v)) ∧ w = w':=by
 obtain ⟨hc,hf⟩:=hb.both
 unfold inB
 clear hb
 by_cases h:-m ≤ v
 ·have e1:decide (-m ≤ v) = true:=by simpa using h
  rw [show decide (-m ≤ v ∧ v ≤ m) = decide (v ≤ m) by simp [h]]
  go_enter Tryz.func401,Tryz.ntmps401
  go_wp2_with fail
  go_ret
  exact ⟨rfl,rfl⟩
 ·have e1:decide (-m ≤ v) = false:=by simpa using h
  rw [show decide (-m ≤ v ∧ v ≤ m) = false by simp [h]]
  go_enter Tryz.func401,Tryz.ntmps401
  go_wp2_with fail
  go_ret
  exact ⟨rfl,rfl⟩
def BlockPost (w:World) (m:Int) (l:List Int) (e:Ending) (w':World):Prop:=
 Mod (fun _=>False) w w' ∧ ((allB m l = false ∧ e = .returned (.tuple #[.slice none 0 0,.int .i64 0,.int .i64 1])) ∨ ∃ v,allB m l = true ∧ e = .returned (.tuple #[v,.int .i64 ((sideOf l.length:Nat):Int),.int .i64 0]) ∧ IntsOwn w' w.heap.size v l)
theorem liftBlock (w:World) (A:Option Addr) (n c bb:Nat) (l:List Int) (m:Int) (hin:IntsIn w A n c l) (hn:n ≤ 1048576) (hm:0 ≤ m ∧ m ≤ 1099511627776) (hb:Blk w bb 3 #[.int .i64 m]) :
  Calls Tryz.prog 352 #[.slice A n c,.func (.func 401) #[] #[.pointer (some ⟨bb,0,none⟩)]] w (BlockPost w m l):=by
 obtain ⟨i0,hi0,hz0,hz1,hz2⟩:=info_parts int_info
 obtain rfl:l.length = n:=hin.1
 by_cases hs:sideOf l.length = 0
 ·have HA:Hid (allB m l = false):=by show _ = _;unfold allB;rw [hs];rfl
  go_enter Tryz.func352,Tryz.ntmps352
  go_wp2_with fail
  refine (liftSide _ l.length (by omega)).mono ?_
  rintro e w1 ⟨rfl,rfl⟩
  rw [hs]
  clear hs
  go_wp2_with fail
  go_ret3
  exact ⟨Mod.refl _ _,.inl ⟨HA.out,rfl⟩⟩
 ·have hs1:(((sideOf l.length:Nat):Int) == 0) = false:=beq_eq_false_iff_ne.2 (by omega)
  have h0:0 < l.length:=by
   rcases Nat.eq_zero_or_pos l.length with e | e
   ·rw [e] at hs;exact absurd rfl hs
   ·exact e
  have HIN:=Lib.hid hin
  obtain ⟨b,off,rfl,_,hc⟩:=hin.place h0
  have HC:=Lib.hid hc
  have HS:=Lib.hid hs
  clear hin hc hs
  go_enter Tryz.func352,Tryz.ntmps352
  go_wp2_with fail
  refine (liftSide _ l.length (by omega)).mono ?_
  rintro e w1 ⟨rfl,rfl⟩
  obtain ⟨sd,hsd⟩:∃ sd,sd = ((sideOf l.length:Nat):Int):=⟨_,rfl⟩
  rw [← hsd] at hs1 ⊢
  have HSD:=Lib.hid hsd
  clear hsd
  go_wp2_with fail
  go_loop [17] (fun i=>∃ k:Nat,k ≤ l.length ∧ i = .int .i64 k ∧ ∀ j < k,inB m (l.getD j 0) = true) (fun i=>l.length - (intOf i).toNat)
  case atStart=>exact ⟨0,by omega,rfl,fun j hj=>by omega⟩
  case round=>
   obtain ⟨k,hk,rfl,hall⟩:=hrel
   have HL:=Lib.hid hall
   clear hall
   by_cases hlt:k < l.length
   ·have hck:=HC.out k hlt
    have i1:(0:Int) ≤ (k:Int):=by omega
    have i2:(k:Int) < (l.length:Int):=by omega
    cases hv:inB m (l.getD k 0) with
    | true=>
     generalize hx:l.getD k 0 = x at *
     have HX:=Lib.hid (And.intro hx hv)
     clear hx
     go_wp2_with fail
     refine (liftIn _ bb m x hm hb).mono ?_
     rintro e w1 ⟨rfl,rfl⟩
     rw [hv]
     clear hv
     go_wp2_with fail
     go_round
     case rel=>exact ⟨k + 1,by omega,by go_num,fun j hj=>by
      by_cases e:j = k
      ·subst e;rw [HX.out.1];exact HX.out.2
      ·exact HL.out j (by omega)⟩
     case measure=>simp [intOf];omega
    | false=>
     have HA:Hid (allB m l = false):=allB_no k hlt hv
     generalize hx:l.getD k 0 = x at *
     clear hx
     go_wp2_with fail
     refine (liftIn _ bb m x hm hb).mono ?_
     rintro e w1 ⟨rfl,rfl⟩
     rw [hv]
     clear hv
     go_wp2_with fail
     go_ret3
     exact ⟨Mod.refl _ _,.inl ⟨HA.out,rfl⟩⟩
   ·have HA:Hid (allB m l = true):=allB_yes HS.out (fun j hj=>HL.out j (by omega))
    have x1:0 + l.length ≤ maxLen:=by unfold maxLen;omega
    have x2:(0 + l.length) * 8 ≤ 140737488355328:=by omega
    have HX:=Lib.hid (And.intro x1 x2)
    clear x1 x2
    go_wp2_with (at_builtin;have _t:=HX;refine wpList_append_src _ rfl (.const (.slice none 0 0)) (.tmp 26) _ rfl w.heap.size 3 i0 _ 1 8 Tryz.underlying63 hi0 hz0 hz1 hz2 rfl (by omega) (.slice none 0 0) 0 [] rfl (World.ownsRow_nil _ _ _ _) (some ⟨b,off,none⟩) l.length c (i64s l) rfl HIN.out.2.2.1 (fun h=>by cases h) (i64s_one l) HX.out.1 HX.out.2 (Nat.le_refl _) ?_;intro v4 w4 hown4 hg4 hat4;have HO:=Lib.hid (And.intro hown4 hg4);clear HX _t hown4 hg4 hat4)
    go_ret3
    refine ⟨(Mod.refl _ _).grown HO.out.2 (fun k hk=>by simp [Value.ownBlock] at hk),.inr ⟨_,HA.out,by rw [← HSD.out];rfl,?_⟩⟩
    have:=HO.out.1
    unfold IntsOwn
    simpa using this
end Go.Proofs.YthednemlahioeaaGreatDoor

