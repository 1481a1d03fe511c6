/-
  As XPlanS; but behind a write or a call that waits for all the floating reads nothing need be said of S.
-/
import Derived.Test.YthednemlahioeaaGreatDoorM11
import Derived.Deep.MidRow
namespace Go.Proofs.YthednemlahioeaaGreatDoor
open Go.RowKit
open Region renaming Mode→Wv,ready→Zj,binds→WX,noSelect_spec→XQ,free_spec→WY,before→Yo,wanted→ZH
open Nat renaming le_refl→ZY
open Bool renaming false_eq_true→TI,and_eq_true→ZT,not_eq_true'→Xy
open Sem renaming run_bind→Xm,run_pure→Wi
open Result renaming andThen_ok→Yj
open And renaming intro→Z9
open Lib renaming hid→Z7
open Go.Proofs.Tryz
set_option maxRecDepth 100000
set_option maxHeartbeats 8000000
section
variable {P : Program} {ops : Array Oper} {md : Wv} {B : Array Nat} {loud ZO : List Nat} {S : World → Prop} {Q : Exit → Act → World → Prop}
def Behind(B:Array Nat)(ZO:List Nat)(j:Nat):Prop:=∃p∈ZO,(B.getD j 0).testBit p=false
def pM(P:Program)(md:Wv)(ops:Array Oper)(B:Array Nat)(loud ZO:List Nat)(S:World->Prop)(Q:Exit->Act->World->Prop):Nat->Array Bool->Act->World->Prop
 | 0,listed,a,w=>Zj md ops listed=[]/\Q .normal a w
 | f+1,listed,a,w=>(Zj md ops listed=[]->Q .normal a w)/\∀i∈Zj md ops listed,
   if i∈loud then wpOp P ops Q i (fun a' w'=>(Behind B ZO i->S w')/\pM P md ops B loud ZO S Q f (listed.setIfInBounds i true) a' w') a w
   else stOp P ops w i (fun a'=>pM P md ops B loud ZO S Q f (listed.setIfInBounds i true) a' w) a
theorem IQ:∀(f:Nat)(listed:Array Bool)(a:Act)(w:World),pM P md ops B loud ZO S Q f listed a w->wpAny P md ops Q f listed a w
 | 0,_,_,_,h=>h
 | f+1,listed,a,w,h=>⟨h.1,fun i hi=>by
   have h2:=h.2 i hi;split at h2
   ·exact wpOp_mono (fun a' w' h'=>IQ f _ a' w' h'.2) h2
   ·exact wpOp_of_stOp (fun a' h'=>IQ f _ a' w h') h2⟩
theorem GG(hB:N7 md ops B=true)(Ow:∀(j:Nat) (o:Oper) cs b,ops[j]?=some o->o.op≠.select cs b){i:Nat}{oi:Oper}{v:Value}(hi:ops[i]?=some oi)(JC:i ∉ loud){w:World}:
  ∀(f:Nat) (listed:Array Bool) (a:Act),(∀j∈loud,(B.getD j 0).testBit i=true\/listed.getD j true=true)->Closed md ops listed ->
   (∀j oj,ops[j]?=some oj->j≠i->listed.getD j true=false->(∀e∈oj.after,WX md e=true->e.on≠i)->oi.apart ops oj=true) ->
   i∈Zj md ops listed->YieldsAt P ops w oi v a ->
   pM P md ops B loud ZO S Q f (listed.setIfInBounds i true) (a.put oi.dst v) w->pM P md ops B loud ZO S Q (f+1) listed a w:=by
 intro f
 induction f with
 | zero=>
  intro listed a _ hc U9 hr hy H;refine⟨fun h=>(by rw [h]at hr;cases hr),fun j hj=>?_⟩;obtain rfl:=Tj H.1 hj;rw [if_neg JC];exact hy.stOp hi H
 | succ f ih=>
  intro listed a hw hc U9 hr hy H;refine⟨fun h=>(by rw [h]at hr;cases hr),fun j hj=>?_⟩;by_cases OG:j=i
  ·subst OG;rw [if_neg JC];exact hy.stOp hi H
  ·obtain⟨QM,oj,hoj,hall⟩:=mem_ready.1 hj
   have GL:j ∉ loud:=fun GL=>by
    rcases hw j GL with h|h
    ·have h2:=Q0 hB hc j j (ZY _) oj hoj hall i (Array.getElem?_eq_some_iff.1 hi).1 h;rw [getD_both (mem_ready.1 hr).1]at h2;cases h2
    ·rw [QM]at h;cases h
   have h1:=H.2 j (ready_mono hj OG);rw [if_neg GL]at h1 ⊢
   refine stOp_mono (fun a' h3=>ih (listed.setIfInBounds j true) a' (fun k hk=>(hw k hk).imp id Gi) (hc.set hj) (QT U9 QM) (ready_mono hr (Ne.symm OG)) h3.1 ?_)
    (stOp_put hoj (U9 j oj hoj OG QM (UH hr hall)) (fun cs b=>Ow i oi cs b hi) (fun cs b=>Ow j oj cs b hoj) hy h1)
   rw [Array.setIfInBounds_comm _ _ OG];exact h3.2
theorem vg(hB:N7 md ops B=true)(Ow:∀(j:Nat) (o:Oper) cs b,ops[j]?=some o->o.op≠.select cs b){i:Nat}{oi:Oper}{v:Value}(hi:ops[i]?=some oi)(JC:i ∉ loud)(hip:i∈ZO)
  (hQ:∀c a w d u,Q (.panic c) (a.put d u) w->Q (.panic c) a w):
  ∀(f:Nat) (listed:Array Bool) (a:Act) (w:World),S w->Closed md ops listed ->
   (∀j oj,ops[j]?=some oj->j≠i->listed.getD j true=false->(∀e∈oj.after,WX md e=true->e.on≠i)->oi.apart ops oj=true) ->
   i∈Zj md ops listed->YieldsIf P ops S oi v a ->
   pM P md ops B loud ZO S Q f (listed.setIfInBounds i true) (a.put oi.dst v) w->pM P md ops B loud ZO S Q (f+1) listed a w:=by
 have here:∀ {K:Act->Prop} {a:Act} {w:World},S w->YieldsIf P ops S oi v a->K (a.put oi.dst v)->stOp P ops w i K a:=fun {K a w} hS hy h=>by
  unfold stOp;simp only [hi];rcases hy with⟨hw,hv⟩|⟨hw,rfl⟩
  ·simp only [hw,if_true,Oper.still,hv w hS,Oper.stillUpon];exact⟨trivial,h⟩
  ·simp only [hw,TI,if_false];exact h
 intro f
 induction f with
 | zero=>
  intro listed a w hS hc U9 hr hy H;refine⟨fun h=>(by rw [h]at hr;cases hr),fun j hj=>?_⟩;obtain rfl:=Tj H.1 hj;rw [if_neg JC];exact here hS hy H
 | succ f ih=>
  intro listed a w hS hc U9 hr hy H;refine⟨fun h=>(by rw [h]at hr;cases hr),fun j hj=>?_⟩;by_cases OG:j=i
  ·subst OG;rw [if_neg JC];exact here hS hy H
  ·obtain⟨QM,oj,hoj,hall⟩:=mem_ready.1 hj;have h1:=H.2 j (ready_mono hj OG);split
   ·rename_i GL;rw [if_pos GL]at h1
    have hbh:Behind B ZO j:=⟨i,hip,by
     cases ht:(B.getD j 0).testBit i with
     | false=>rfl
     | true=>
      have h2:=Q0 hB hc j j (ZY _) oj hoj hall i (Array.getElem?_eq_some_iff.1 hi).1 ht;rw [getD_both (mem_ready.1 hr).1]at h2;cases h2⟩
    refine wpOp_mono (fun a' w' h3=>⟨h3.2.1,ih (listed.setIfInBounds j true) a' w' (h3.2.1 hbh) (hc.set hj) (QT U9 QM) (ready_mono hr (Ne.symm OG)) h3.1 ?_⟩)
     (wpOp_putIf hoj (U9 j oj hoj OG QM (UH hr hall)) (fun cs b=>Ow i oi cs b hi) (fun cs b=>Ow j oj cs b hoj) (fun c a w h=>hQ c a w _ _ h) hy h1)
    rw [Array.setIfInBounds_comm _ _ OG];exact h3.2.2
   ·rename_i GL;rw [if_neg GL]at h1
    refine stOp_mono (fun a' h3=>ih (listed.setIfInBounds j true) a' w hS (hc.set hj) (QT U9 QM) (ready_mono hr (Ne.symm OG)) h3.1 ?_)
     (Er hoj (U9 j oj hoj OG QM (UH hr hall)) (fun cs b=>Ow i oi cs b hi) (fun cs b=>Ow j oj cs b hoj) hy h1)
    rw [Array.setIfInBounds_comm _ _ OG];exact h3.2
def UM(P:Program)(ops:Array Oper)(B:Array Nat)(loud ZO:List Nat)(S:World->Prop)(Q:Exit->Act->World->Prop):List Nat->Act->World->Prop
 | [],a,w=>Q .normal a w
 | i :: is,a,w=>if loud.contains i then wpOp P ops Q i (fun a' w'=>(Behind B ZO i->S w')/\UM P ops B loud ZO S Q is a' w') a w
  else if ZO.contains i then ∃o v,ops[i]?=some o/\YieldsIf P ops S o v a/\UM P ops B loud ZO S Q is (a.put o.dst v) w
  else stOp P ops w i (fun a'=>UM P ops B loud ZO S Q is a' w) a
def yo(B:Array Nat)(loud ZO:List Nat):List Nat->Bool
 | []=>true
 | i :: is=>(!loud.contains i || !(is.any fun k=>ZO.contains k) || ZO.any fun p=>!(B.getD i 0).testBit p)&&yo B loud ZO is
theorem IU(hB:N7 md ops B=true)(hs:Region.noSelect ops=true)(hQ:∀c a w d u,Q (.panic c) (a.put d u) w->Q (.panic c) a w):
  ∀(is:List Nat) (listed:Array Bool) (a:Act) (w:World),((is.any fun k=>ZO.contains k)=true->S w)->Closed md ops listed->yo B loud ZO is=true->Oz md ops loud ZO B is listed=true->UM P ops B loud ZO S Q is a w->pM P md ops B loud ZO S Q is.length listed a w
 | [],listed,a,w,_,hc,_,hp,h=>⟨by simpa [Oz]using hp,h⟩
 | i :: is,listed,a,w,hS,hc,ht,hp,h=>by
  simp only [Oz,ZT]at hp;obtain⟨h1,h2⟩:=hp;rw [yo,ZT]at ht;obtain⟨uL,DJ⟩:=ht;have ES:(is.any fun k=>ZO.contains k)=true->S w:=fun h=>hS (by rw [List.any_cons,h,Bool.or_true]);unfold UM at h;by_cases hl:loud.contains i=true
  ·rw [if_pos hl,decide_eq_true_eq]at h1;rw [if_pos hl]at h;have hr:i∈Zj md ops listed:=by rw [h1];simp
   refine⟨fun h0=>(by rw [h0]at hr;cases hr),fun j hj=>?_⟩;rw [h1]at hj;obtain rfl:j=i:=by simpa using hj
   rw [if_pos (by simpa using hl)]
   have aiz:∀w',(Behind B ZO j->S w')->(is.any fun k=>ZO.contains k)=true->S w':=fun w' hb ha=>hb (by
    rw [hl,ha]at uL;simp only [Bool.not_true,Bool.false_or,List.any_eq_true,Xy]at uL;obtain⟨p,hp,hq⟩:=uL;exact⟨p,hp,hq⟩)
   exact wpOp_mono (fun a' w' h'=>⟨h'.1,IU hB hs hQ is _ a' w' (aiz w' h'.1) (hc.set hr) DJ h2 h'.2⟩) h
  ·rw [if_neg hl]at h1 h;simp only [ZT,Bool.or_eq_true,List.all_eq_true]at h1;obtain⟨⟨hr,hf⟩,hw⟩:=h1;have Lp:i∈Zj md ops listed:=by simpa using hr
   have JC:i ∉ loud:=by simpa using hl
   by_cases EW:ZO.contains i=true
   ·rw [if_pos EW]at h;obtain⟨o,v,ho,hy,hk⟩:=h;exact vg hB (XQ hs) ho JC (by simpa using EW) hQ is.length listed a w (hS (by rw [List.any_cons,EW,Bool.true_or])) hc (WY ho hf) Lp hy (IU hB hs hQ is _ _ w ES (hc.set Lp) DJ h2 hk)
   ·rw [if_neg EW]at h;have hw':=hw.resolve_left EW;obtain⟨_,o,ho,_⟩:=mem_ready.1 Lp;obtain⟨v,hy,hk⟩:=yieldsAt_of_stOp ho h;exact GG hB (XQ hs) ho JC is.length listed a (fun j hj=>by simpa using hw' j hj) hc (WY ho hf) Lp hy (IU hB hs hQ is _ _ w ES (hc.set Lp) DJ h2 hk)
theorem aab{id:Nat}{a:Act}{w:World}(loud ZO is:List Nat)(S:World->Prop)(hm:P.follows .mixedOrders=true)(hB:(FH ops loud ZO is&&yo (Yo ops) loud ZO is)=true)
  (hQ:∀c a w d u,Q (.panic c) (a.put d u) w->Q (.panic c) a w)(hS:S w.drew)(h:UM P ops (Yo ops) loud ZO S Q is a w.drew):(Code.region id ops true).wp P Q a w:=by
 simp only [FH,ZT,decide_eq_true_eq]at hB;obtain⟨⟨⟨⟨hs,hw⟩,hl⟩,hp⟩,ht⟩:=hB;refine wp_region_any hm ?_;have:=IQ _ _ _ _ (IU (md:=.any) hw hs hQ is _ a w.drew (fun _=>hS) (fun j oj _ hl=>by rw [getD_replicate_false]at hl;cases hl) ht hp h);rw [hl]at this;exact this
theorem aas{i:Nat}{is:List Nat}{o:Oper}{a:Act}{w:World}(hl:(loud.contains i || ZO.contains i)=false)(ho:ops[i]?=some o)
  (h:∀K:Act->Prop,(∀a',UM P ops B loud ZO S Q is a' w->K a')->if ZH o (yielded ops a.tmps)then o.still P a w K else K (a.put o.dst undef)):UM P ops B loud ZO S Q (i :: is) a w:=by
 rw [Bool.or_eq_false_iff]at hl;unfold UM;rw [if_neg (by simpa using hl.1),if_neg (by simpa using hl.2)];unfold stOp;simp only [ho];exact h _ (fun a' h'=>h')
theorem aaS{i:Nat}{is:List Nat}{o:Oper}{a:Act}{w:World}{v:Value}(hl:(!loud.contains i&&ZO.contains i)=true)(ho:ops[i]?=some o)(hg:ZH o (yielded ops a.tmps)=true)
  (hr:∀w,S w->(execOp a.eval o).run P w=.ok (.value v) w)(h:UM P ops B loud ZO S Q is (a.put o.dst v) w):UM P ops B loud ZO S Q (i :: is) a w:=by
 rw [ZT,Xy]at hl;unfold UM;rw [if_neg (by simpa using hl.1),if_pos hl.2];exact⟨o,v,ho,.inl ⟨hg,hr⟩,h⟩
theorem FI{i:Nat}{is:List Nat}{o:Oper}{a:Act}{w:World}(hl:loud.contains i=true)(ho:ops[i]?=some o)
  (h:∀K:Act->World->Prop,(∀a w,(Behind B ZO i->S w)->UM P ops B loud ZO S Q is a w->K a w)->if ZH o (yielded ops a.tmps)=true then Oper.wp P o a w K Q else K (a.put o.dst undef) w):UM P ops B loud ZO S Q (i :: is) a w:=by
 unfold UM;rw [if_pos hl];exact wpOp_step ho (fun K hK=>h K (fun a w h1 h2=>hK a w ⟨h1,h2⟩))
theorem aaT{a:Act}{w:World}(h:Q .normal a w):UM P ops B loud ZO S Q [] a w:=h
structure R9(P:Program)(ops:Array Oper)(loud ZO:List Nat)(S:World->Prop)(Q:Exit->Act->World->Prop)(is:List Nat)(a:Act)(w:World):Prop where
 out:UM P ops (Yo ops) loud ZO S Q is a w
theorem XE{id:Nat}{a:Act}{w:World}(loud ZO is:List Nat)(S:World->Prop)(hm:P.follows .mixedOrders=true)(hB:(FH ops loud ZO is&&yo (Yo ops) loud ZO is)=true)
  (hQ:∀c a w d u,Q (.panic c) (a.put d u) w->Q (.panic c) a w)(hS:S w.drew)(h:R9 P ops loud ZO S Q is a w.drew):(Code.region id ops true).wp P Q a w:=
 aab loud ZO is S hm hB hQ hS h.out
theorem aaR{i:Nat}{is:List Nat}{o:Oper}{a:Act}{w:World}(hl:(loud.contains i || ZO.contains i)=false)(ho:ops[i]?=some o)
  (h:∀K:Act->Prop,(∀a',R9 P ops loud ZO S Q is a' w->K a')->if ZH o (yielded ops a.tmps)then o.still P a w K else K (a.put o.dst undef)):R9 P ops loud ZO S Q (i :: is) a w:=
 ⟨aas hl ho (fun K hK=>h K (fun a' h'=>hK a' h'.out))⟩
theorem abp{i:Nat}{is:List Nat}{o:Oper}{a:Act}{w:World}{v:Value}(hl:(!loud.contains i&&ZO.contains i)=true)(ho:ops[i]?=some o)(hg:ZH o (yielded ops a.tmps)=true)
  (hr:∀w,S w->(execOp a.eval o).run P w=.ok (.value v) w)(h:R9 P ops loud ZO S Q is (a.put o.dst v) w):R9 P ops loud ZO S Q (i :: is) a w:=
 ⟨aaS hl ho hg hr h.out⟩
theorem QB{i:Nat}{is:List Nat}{o:Oper}{a:Act}{w:World}{v:Value}(hl:(!loud.contains i&&ZO.contains i)=true)(ho:ops[i]?=some o)(hg:ZH o (yielded ops a.tmps)=true)
  (hr:∀w,S w->(execOp a.eval o).run P w=.ok (.value v) w)(h:∀K:Act->Prop,(∀a',R9 P ops loud ZO S Q is a' w->K a')->K (a.put o.dst v)):R9 P ops loud ZO S Q (i :: is) a w:=
 abp hl ho hg hr (h _ (fun _ h=>h))
theorem TT{i:Nat}{is:List Nat}{o:Oper}{a:Act}{w:World}(hl:loud.contains i=true)(ho:ops[i]?=some o)
  (h:∀K:Act->World->Prop,(∀a w,S w->R9 P ops loud ZO S Q is a w->K a w)->if ZH o (yielded ops a.tmps)=true then Oper.wp P o a w K Q else K (a.put o.dst undef) w):R9 P ops loud ZO S Q (i :: is) a w:=
 ⟨FI hl ho (fun K hK=>h K (fun a w h1 h2=>hK a w (fun _=>h1) h2.out))⟩
theorem VA{i:Nat}{is:List Nat}{o:Oper}{a:Act}{w:World}(hl:(loud.contains i&&ZO.all fun p=>((Yo ops).getD i 0).testBit p)=true)(ho:ops[i]?=some o)
  (h:∀K:Act->World->Prop,(∀a w,R9 P ops loud ZO S Q is a w->K a w)->if ZH o (yielded ops a.tmps)=true then Oper.wp P o a w K Q else K (a.put o.dst undef) w):R9 P ops loud ZO S Q (i :: is) a w:=by
 rw [ZT,List.all_eq_true]at hl;exact⟨FI hl.1 ho (fun K hK=>h K (fun a w h2=>hK a w (fun⟨p,hp,hq⟩=>by rw [hl.2 p hp]at hq;cases hq) h2.out))⟩
theorem RJ{i:Nat}{is:List Nat}{o:Oper}{a a':Act}{w:World}(h:R9 P ops loud ZO S Q is a' w)(hl:(loud.contains i || ZO.contains i)=false:=by exact rfl)(ho:ops[i]?=some o:=by exact rfl)
  (hs:∀K:Act->Prop,K a'->if ZH o (yielded ops a.tmps)then o.still P a w K else K (a.put o.dst undef):=by intro K hK;go_simp;exact hK):R9 P ops loud ZO S Q (i :: is) a w:=
 aaR hl ho (fun K hK=>hs K (hK _ h))
theorem Zk{i:Nat}{is:List Nat}{o:Oper}{a a':Act}{w:World}{v:Value}(h:R9 P ops loud ZO S Q is a' w)(hl:(!loud.contains i&&ZO.contains i)=true:=by exact rfl)(ho:ops[i]?=some o:=by exact rfl)(hg:ZH o (yielded ops a.tmps)=true:=by exact rfl)
  (hr:∀w,S w->(execOp a.eval o).run P w=.ok (.value v) w:=by exact fun _ _=>rfl)(hk:∀K:Act->Prop,K a'->K (a.put o.dst v):=by intro K hK;go_simp;exact hK):R9 P ops loud ZO S Q (i :: is) a w:=
 QB hl ho hg hr (fun K hK=>hk K (hK _ h))
theorem Vz{a:Act}{w:World}(h:Q .normal a w):R9 P ops loud ZO S Q [] a w:=⟨aaT h⟩
end
section
variable {P : Program} {ops : Array Oper} {loud ZO : List Nat} {S : World → Prop} {Q : Exit → Act → World → Prop}
theorem PD(w:World)(a:Addr)(ty:TypeId)(v:Value)(d:TypeDesc)(hc:w.cell? a=some v)(hu:P.underlying ty=some d)(hd:d.isRow=false):(loadVar ty a).run P w=.ok v w:=by
 have hagg:(isAgg ty).run P w=.ok false w:=by
  unfold isAgg;rw [Xm,run_underlying hu w];cases d<;>simp_all
 simp only [loadVar,Xm,hagg,Yj,TI,if_false];rw [run_load,hc]
end
theorem ZI.range{w:World}{g:Nat}{t:TypeId}{C:Array Value}(h:ZI w g t C)(o:Nat)(cs:List Value)(hc:(C.extract o (o+cs.length)).toList=cs):w.rangeAt g o cs:=by
 have:=World.rangeAt_of_block h o cs.length;rwa [hc]at this
theorem NN(x y i:Nat)(hi:i<6):(((plL x y).toArray).extract (i*3) (i*3+[Value.int .i64 (U5 i:Int),↑(QO x i),↑(QP y i)].length)).toList=[Value.int .i64 (U5 i:Int),↑(QO x i),↑(QP y i)]:=by
 have h6:i=0\/i=1\/i=2\/i=3\/i=4\/i=5:=Z8;rcases h6 with rfl|rfl|rfl|rfl|rfl|rfl<;>rfl
section
variable {P : Program} {ops : Array Oper} {loud ZO : List Nat} {S : World → Prop} {Q : Exit → Act → World → Prop}
theorem Yh{i:Nat}{is:List Nat}{op:Oper}{a:Act}{w:World}(hl:(!loud.contains i&&ZO.contains i)=true)(ho:ops[i]?=some op)(ty:TypeId)(x:Operand)(hop:op.op=.load ty x)(hg:ZH op (yielded ops a.tmps)=true)
  (b o:Nat)(hx:a.eval x=↑(ZC b o))(cs:List Value)(d:TypeDesc)(hS:∀w,S w->w.rangeAt b o cs)
  (hu:P.underlying ty=some d)(hd:d.isRow=true)(hi:(P.info? ty).map (·.size)=some cs.length)
  (h:∀K:Act->Prop,(∀a',R9 P ops loud ZO S Q is a' w->K a')->K (a.put op.dst (.agg cs.toArray))):R9 P ops loud ZO S Q (i :: is) a w:=
 QB hl ho hg (fun w' ES=>by
  unfold execOp;simp only [hop,hx,Instr.loadAt,Instr.sureAddr,Xm,Wi,Yj,run_loadVar_mid w' b o ty cs d (hS w' ES) hu hd hi]) h
theorem OJ{i:Nat}{is:List Nat}{op:Oper}{a:Act}{w:World}(hl:(!loud.contains i&&ZO.contains i)=true)(ho:ops[i]?=some op)(ty:TypeId)(x:Operand)(hop:op.op=.load ty x)(hg:ZH op (yielded ops a.tmps)=true)
  (b o:Nat)(hx:a.eval x=↑(ZC b o))(v:Value)(d:TypeDesc)(hS:∀w,S w->w.cell? ⟨b,o,none⟩=some v)
  (hu:P.underlying ty=some d)(hd:d.isRow=false)
  (h:∀K:Act->Prop,(∀a',R9 P ops loud ZO S Q is a' w->K a')->K (a.put op.dst v)):R9 P ops loud ZO S Q (i :: is) a w:=
 QB hl ho hg (fun w' ES=>by
  unfold execOp;simp only [hop,hx,Instr.loadAt,Instr.sureAddr,Xm,Wi,Yj,PD w' _ ty v d (hS w' ES) hu hd]) h
theorem VY{i:Nat}{is:List Nat}{op:Oper}{a:Act}{w:World}(hl:(!loud.contains i&&ZO.contains i)=true)(ho:ops[i]?=some op)(t:TypeId)(x ix:Operand)(hop:op.op=.indexAddr t x ix)(hg:ZH op (yielded ops a.tmps)=true)
  (X I v:Value)(hx:a.eval x=X)(hi:a.eval ix=I)(hr:∀w,(Instr.indexAt t X I).run P w=.ok v w)
  (h:∀K:Act->Prop,(∀a',R9 P ops loud ZO S Q is a' w->K a')->K (a.put op.dst v)):R9 P ops loud ZO S Q (i :: is) a w:=
 QB hl ho hg (fun w' _=>by
  unfold execOp;simp only [hop,hx,hi,hr w',Xm,Wi,Yj]) h
end
def okT(t:TypeId):Prop:=t≠335/\t≠337/\t≠5
def KV(w w':World):Prop:=∀k t cs,okT t->ZI w k t cs->ZI w' k t cs
theorem KV.DX{w w':World}(hm:Mod ↑ZW w w'):KV w w':=fun _ _ _ _ hb=>hb.keep hm (fun h=>h)
theorem KV.quiet{w w1 w2:World}(h:KV w w1)(hm:Mod ↑ZW w1 w2):KV w w2:=fun k t cs ht hb=>(h k t cs ht hb).keep hm (fun h=>h)
theorem KV.puts{w w1 w2:World}{bk g:Nat}{v:Value}{s:Es}(h:KV w w1)(he:Od w1 bk g v s)(hm:Mod (fun j=>j=g\/j=bk\/v.ownBlock=some j) w1 w2):KV w w2:=fun k t cs ht hb=>(h k t cs ht hb).keep hm (by
 rintro(e|e|e)
 ·exact(h k t cs ht hb).SL he.enc.blk ht.2.1 e
 ·exact(h k t cs ht hb).SL he.Ju ht.1 e
 ·exact SH he.enc.own (h k t cs ht hb) (fun e=>ht.2.2 e.symm) e)
theorem KV.lay{w w1 w2:World}{q:Nat}{cq:Array Value}(h:KV w w1)(hq:ZI w1 q 5 cq)(hm:Mod (·=q) w1 w2):KV w w2:=fun k t cs ht hb=>(h k t cs ht hb).keep hm (fun e=>(h k t cs ht hb).SL hq ht.2.2 e)
theorem KV.trans{w w1 w2:World}(h:KV w w1)(h2:KV w1 w2):KV w w2:=fun k t cs ht hb=>h2 k t cs ht (h k t cs ht hb)
def yK(w0 wi:World)(cb bk g:Nat)(K:Bool)(Q:Int)(d:Yz)(fl al:List Value)(gy gu gv:Nat)(r:Yy × Es)(e:Ending)(w':World):Prop:=
 e=.returned (.tuple #[])/\(∃v',CW w0 w' cb bk g v' K Q d fl al gy gu gv r.1 r.2)/\KV wi w'
theorem gT{C:Array Value}{o:Nat}{a b c:Value}(h1:C[o]?=some a)(h2:C[o+1]?=some b)(h3:C[o+2]?=some c):(C.extract o (o+[a,b,c].length)).toList=[a,b,c]:=by
 obtain⟨k1,rfl⟩:=Array.getElem?_eq_some_iff.1 h1;obtain⟨k2,rfl⟩:=Array.getElem?_eq_some_iff.1 h2;obtain⟨k3,rfl⟩:=Array.getElem?_eq_some_iff.1 h3;apply List.ext_getElem
 ·simp;omega
 ·intro i i1 i2;have h:i=0\/i=1\/i=2:=by simp at i2;omega
  rcases h with rfl|rfl|rfl<;>simp
theorem ix3(cb b pl o:Nat)(hp:pl<3)(ho:b+pl*3=o):∀w,(Instr.indexAt 251 ↑(ZC cb b) ↑pl).run prog w=.ok ↑(ZC cb o) w:=by
 subst ho;have h3:pl=0\/pl=1\/pl=2:=Z8;rcases h3 with rfl|rfl|rfl<;>intro w<;>kernel_rfl
theorem adf{w:World}{B n c:Nat}{A:Option Addr}{l:List Int}(h:Zx w B (.slice A n c) l)(h0:0<l.length):∃r,A=some ⟨r,0,none⟩/\B<=r:=by
 obtain⟨r,cap,tl,hv,_,_,hB,_⟩:=D5 h h0;injection hv with hv _ _;exact⟨r,hv,hB⟩
theorem CW.vec{w0 w w':World}{cb bk g:Nat}{v:Value}{K:Bool}{Q:Int}{d:Yz}{fl al:List Value}{gy gu gv:Nat}{f:Yy}{s:Es}{k:Nat}{cs:Array Value}(h:CW w0 w cb bk g v K Q d fl al gy gu gv f s)(hb:ZI w k 273 cs)(hk:w0.heap.size<=k)(hm:Mod (·=k) w w'):
  CW w0 w' cb bk g v K Q d fl al gy gu gv f s:=by
 have hy:=h.fa.Ff.SL hb ZU;have hu:=h.fa.bu.SL hb ZU;have hv:=h.fa.bv.SL hb ZU
 exact⟨h.mod.into hm (fun j e=>.inr (e▸hk)),⟨h.eb.Ju.keep hm (h.eb.Ju.SL hb ZU),h.eb.len,h.eb.ok,h.eb.enc.blk.keep hm (h.eb.enc.blk.SL hb ZU),XT h.eb.enc.own hm (fun j e e2=>SH h.eb.enc.own hb ZU (by rw [e];exact congrArg some e2)),h.eb.enc.four,h.eb.enc.lo,h.eb.enc.hi⟩,
  h.Q4.keep hm (h.Q4.SL hb ZU),h.fa.mod hm (fun e=>hy e) (fun e=>hu e) (fun e=>hv e),h.nc,h.nb,h.ng,h.ny,h.nu,h.nv,h.no⟩
def aj3(w0 w:World)(vb cb bk g:Nat)(v:Value)(K:Bool)(Q:Int)(d:Yz)(fl al:List Value)(gy gu gv:Nat)(f:Yy)(s:Es)(tp:Nat)(hx hy:Int)(g1:Nat)(b:List UInt8)(v16:Value)(wx:World):Prop:=
 v16=↑tp/\CW w0 wx cb bk g v K Q d fl al gy gu gv f s/\Sat ↑ZW w wx [⟨vb,273,#[↑hx,↑hy]⟩] []/\BytesIn wx (some ↑g1) 64 64 b
def jU(w0 wi w:World)(cb bk g:Nat)(v:Value)(K:Bool)(Q:Int)(d:Yz)(fl al:List Value)(gy gu gv:Nat)(f:Yy)(s5:Es)(gs:List UInt8)(g5 g1:Nat)(b:List UInt8)(s:Es)(r:Yy × Es)(pl W x y:Nat):Prop:=
 CW w0 w cb bk g v K Q d fl al gy gu gv f s5/\BytesIn w (some ↑g5) 64 64 gs/\BytesIn w (some ↑g1) 64 64 b/\gs.length=64/\(s5.code.length<=s.code.length+2/\¬(g5=g\/g5=bk\/v.ownBlock=some g5)) /\
 r=(f.set pl (Uw W x y (Qu gs (RA b gs Q) Q) (f.get pl) 8),Lj (if 0<pl then 4 else 2) (RA b gs Q) s5)/\KV wi w
theorem agU(w0 w:World)(cb bk g:Nat)(v:Value)(K:Bool)(Q:Int)(d:Yz)(fl:List Value)(fr:Yy)(al:List Value)(Y7:Yy)(gy gu gv:Nat)(f:Yy)(s:Es)(ho:Old w0 d K Q fl fr al Y7)(h:CW w0 w cb bk g v K Q d fl al gy gu gv f s)
  (i sx sy:Nat)(hi:i<6)(vQ:16*sx+16<=d.W)(vR:16*sy+16<=d.H)(kind:Nat)(hk:kind<3)(hK:K=true->kind=2)(vx vy:Int)(Im:-128<=vx/\vx<=128)(xH:-128<=vy/\vy<=128)(hv0:kind=0->vx=0/\vy=0)(hl:s.code.length+2830<=1048575):
  Calls prog 215 #[↑(ZC cb 0),↑i,↑sx,↑sy,↑kind,.agg #[↑vx,↑vy]] w (yK w0 w cb bk g K Q d fl al gy gu gv (PU d fr Y7 kind Q (U5 i) (QO (16*sx) i) (QP (16*sy) i) vx vy f s)):=by
 obtain⟨_,_,hW,_,hH,_⟩:=YB ho.ok.sides;obtain⟨p1,p2,p3⟩:=tu ho.ok hi vQ vR;have hS1:=dA (w.alloc (.cells #[↑vx,↑vy] 273)) (ho.env.quiet (h.mod.alloc _)) i sx sy hi Z8 Z8;have hv:=(Sat.nil ↑ZW w).alloc 273 #[↑vx,↑vy] rfl;generalize U5 i=pl at *;generalize QO (16*sx) i=x at *;generalize QP (16*sy) i=y at *;obtain⟨W,iA⟩:=ZL (d.T9 pl);obtain⟨H,ig⟩:=ZL (d.MN pl);obtain⟨n,hne⟩:=ZL (d.FE pl);obtain⟨Il,Na⟩:=ho.ok.FE pl;rw [<-iA]at p2;rw [<-ig]at p3;rw [<-iA,<-ig]at Il Na;rw [<-hne]at Na;have H0:=Z5 ho (Z9 (h.quiet hv.mod) (Z9 iA (Z9 ig (Z9 hne (Z9 Il (Z9 Na hv))))));obtain⟨_,hW2,hW3,qi,hH3,_⟩:=YB Il;have hw0:w0.heap.size<=w.heap.size:=h.mod.size;clear ho h hv iA ig hne Il Na;go_enter func215,ntmps215;go_wp2_with fail;refine hS1.mono ?_;clear hS1;rintro e w1 ⟨rfl,Y6⟩;have hv:=Sat.after Y6 H0.out.2.2.2.2.2.2.2;have hcw:=H0.out.2.1.quiet Y6;obtain⟨o2,eo2⟩:∃o2,2+pl*3=o2:=⟨_,rfl⟩
 obtain⟨A,c,c2,c3,c4,YZ⟩:=hcw.frame H0.out.1 pl p1 o2 eo2;rw [<-H0.out.2.2.1]at c2;rw [<-H0.out.2.2.2.1]at c3;rw [<-H0.out.2.2.2.2.1]at c4 YZ;have H1:=Z5 hcw (Z9 hv YZ);clear Y6 hv hcw YZ;have j0:(0:Int)<=(pl:Int):=Z8;have j1:(pl:Int)<3:=Z8;go_upto_region 2 with(fail)
 go_wp2_with fail;refine(Aa _ W H A n c (fr.get pl) H0.out.2.2.2.2.2.1 H0.out.2.2.2.2.2.2.1 (by have:=H1.out.2.2;rwa [H0.out.2.2.2.2.2.2.1]at this) x y 8 Z8 Z8 Z8 64 rfl).mono ?_;rintro e w2 ⟨g1,rfl,hb1,hg1,Y3⟩;obtain⟨b,hb⟩:=ZL (Pv W (fr.get pl) x y 8);rw [<-hb]at hb1;have hbl:b.length=64:=by rw [hb,VB]
 have dX:=UF hb1 hbl Z8;have H2:=Z5 (H1.out.1.quiet Y3) (Z9 (Sat.after Y3 H1.out.2.1) (Z9 dX (Z9 hb hbl)));have eH:w.heap.size<g1:=by
  have:=(H1.out.2.1.ZX 0 rfl).lt;dsimp only at this;omega
 clear hb1 hg1 Y3 hb hbl dX H1 c2 c3 c4;obtain⟨tp,htp⟩:=ZL (if 0<pl then 4 else 2);obtain⟨hx,hhx⟩:=ZL (if 0<pl then vx/2 else vx);obtain⟨hy,hhy⟩:=ZL (if 0<pl then vy/2 else vy);have HT:=Z5 htp (Z9 hhx hhy);clear htp hhx hhy;go_upto_if 45 with(fail)
 go_cut [16] (fun v16 wx=>aj3 w0 w w.heap.size cb bk g v K Q d fl al gy gu gv f s tp hx hy g1 b v16 wx)
 case first=>
  by_cases h0:pl=0
  ·have d1:((pl:Int) != 0)=false:=by simp;omega
   go_wp2_with fail;go_meet;obtain⟨t1,t2,t3⟩:=HT.out;rw [Xb]at t1 t2 t3;exact⟨by rw [t1];rfl,H2.out.1,by rw [t2,t3];exact H2.out.2.1,H2.out.2.2.1⟩
  ·have d1:((pl:Int) != 0)=true:=by simp;omega
   obtain⟨vc,vf⟩:=(H2.out.2.1.ZX 0 rfl).both;have vl:=(H2.out.2.1.ZX 0 rfl).lt;dsimp only at vc vf vl;go_wp2_with fail;refine YX (aeH w2 vx vy ⟨Z8,Z8⟩ ⟨Z8,Z8⟩) fun w3 X7=>?_;have hs3:=Sat.after X7 H2.out.2.1;obtain⟨vc3,vf3⟩:=(hs3.ZX 0 rfl).both;have vl3:=(hs3.ZX 0 rfl).lt;dsimp only at vc3 vf3 vl3;have H3:=Z5 (H2.out.1.quiet X7) (Z9 hs3 (H2.out.2.2.1.quiet X7));clear X7 hs3 vc vf vl;go_wp2_with fail;go_meet;obtain⟨t1,t2,t3⟩:=HT.out;rw [VI]at t1 t2 t3;have Xl:Mod (·=w.heap.size) w3 ((w3.setCell ↑w.heap.size (.int .i64 (vx/2))).setCell ⟨w.heap.size,1,none⟩ (.int .i64 (vy/2))):=((Mod.refl (·=w.heap.size) w3).setCell (.inl rfl) _).setCell (.inl rfl) _;refine⟨by rw [t1];rfl,H3.out.1.vec (H3.out.2.1.ZX 0 rfl) hw0 Xl,?_,H3.out.2.2.mod Xl (by intro _ ad e;injection e with e;subst e;dsimp only;omega)⟩;rw [t2,t3];exact(H3.out.2.1.put (.here rfl)).put (.here rfl)
 case rest=>
  have HB:=Z5 H2.out.2.2.2.1 H2.out.2.2.2.2;clear H2;obtain⟨rfl,hcw,yE,dX⟩:=hcut;rename World=>w3
  have HKV:=Z7 (KV.DX yE.mod);have hk3:kind=0\/kind=1\/kind=2:=Z8;have hw3:w.heap.size<w3.heap.size:=(yE.ZX 0 rfl).lt;have zH:=H0.out.2.1.eb.free (ob:=g1) (by simp;omega);have HFR:=Z7 zH;clear zH;rcases hk3 with rfl|hk3
  ·have hKf:K=false:=by
    cases K
    ·rfl
    ·exact absurd (hK rfl) ZU
   have HV0:Hid (vx=0/\vy=0):=hv0 rfl;clear hv0 hK hk;subst hKf;obtain⟨o3,eo3⟩:∃o3,11+pl*3=o3:=⟨_,rfl⟩
   obtain⟨o4,eo4⟩:∃o4,20+pl*3=o4:=⟨_,rfl⟩
   obtain⟨A3,pY,a1,a2,a3,rA⟩:=hcw.ahead H0.out.1 pl p1 o3 eo3;obtain⟨b1,b2,b3,bq,bql⟩:=hcw.built H0.out.1 pl p1 o4 eo4;rw [<-H0.out.2.2.1]at a1 b1;rw [<-H0.out.2.2.2.1]at a2 b2;rw [<-H0.out.2.2.2.2.1]at a3 b3 rA bql;obtain⟨gq,jJ⟩:=ZL (dM gy gu gv pl);rw [<-jJ]at b3 bq;have hR3:∀w':World,ZI w' cb 258 (Li false Q fl al (YF d gy gu gv) bk g)->w'.rangeAt cb o3 [↑W,↑H,.slice A3 n pY]:=fun w' hb=>hb.range o3 _ (gT ((hcw.Q4.cell o3).symm.trans a1) ((hcw.Q4.cell (o3+1)).symm.trans a2) ((hcw.Q4.cell (o3+2)).symm.trans a3));have hR4:∀w':World,ZI w' cb 258 (Li false Q fl al (YF d gy gu gv) bk g)->w'.rangeAt cb o4 [↑W,↑H,↑(ZZ gq n n)]:=fun w' hb=>hb.range o4 _ (gT ((hcw.Q4.cell o4).symm.trans b1) ((hcw.Q4.cell (o4+1)).symm.trans b2) ((hcw.Q4.cell (o4+2)).symm.trans b3));have HR:=Z5 hR3 hR4;have HG:=Z7 jJ;have HAN:=Z5 rA (Z9 bq bql);have HC:=Z5 hcw yE;have hS0:Hid (ZI w3.drew cb 258 (Li false Q fl al (YF d gy gu gv) bk g)):=hcw.Q4.drew;clear hR3 hR4 rA bq bql jJ hcw yE dX a1 a2 a3 b1 b2 b3;go_upto_region 13 with(fail)
   refine XE [17,18] [0,1,2,3,4,5,6,7,8,9,10,11,12,13,14,15] (0 :: 1 :: 2 :: 3 :: 4 :: 5 :: 6 :: 7 :: 8 :: 9 :: 10 :: 11 :: 12 :: 13 :: 14 :: 15 :: 16 :: 17 :: 18 :: []) (fun w'=>ZI w' cb 258 (Li false Q fl al (YF d gy gu gv) bk g)) ZR ZR Xc hS0.out ?_;refine Zk (v:=↑(ZC cb 0)) ?_;refine Zk (v:=↑pl) ?_;refine Zk (v:=↑(ZC cb 0)) ?_;refine Zk (v:=↑(ZC cb 20)) ?_;refine VY rfl rfl _ _ _ rfl rfl ↑(ZC cb 20) ↑pl ↑(ZC cb o4) rfl rfl (ix3 cb 20 pl o4 p1 eo4) (Yp ?_);refine Yh rfl rfl _ _ rfl rfl cb o4 rfl [↑W,↑H,↑(ZZ gq n n)] _ (fun w' hS=>HR.out.2 w' hS) underlying56 rfl ZR (Yp ?_);refine Zk (v:=↑x) ?_;refine Zk (v:=↑y) ?_;refine Zk (v:=↑(ZC cb 0)) ?_;refine Zk (v:=↑pl) ?_;refine Zk (v:=↑(ZC cb 0)) ?_;refine Zk (v:=↑(ZC cb 11)) ?_;refine VY rfl rfl _ _ _ rfl rfl ↑(ZC cb 11) ↑pl ↑(ZC cb o3) rfl rfl (ix3 cb 11 pl o3 p1 eo3) (Yp ?_);refine Yh rfl rfl _ _ rfl rfl cb o3 rfl [↑W,↑H,.slice A3 n pY] _ (fun w' hS=>HR.out.1 w' hS) underlying56 rfl ZR (Yp ?_);refine Zk (v:=↑x) ?_;refine Zk (v:=↑y) ?_;refine RJ ?_;refine TT rfl rfl (fun K hK=>?_);go_simp;have Rc:Mod ↑ZW w3 w3.drew:=(Mod.refl _ w3).drew;refine(zW _ W H A3 n pY (Y7.get pl) H0.out.2.2.2.2.2.1 H0.out.2.2.2.2.2.2.1 (by have:=HAN.out.1.quiet Rc;rwa [H0.out.2.2.2.2.2.2.1]at this) x y 0 0 8 ⟨Z8,Z8⟩ ⟨Z8,Z8⟩ ⟨Z8,Z8⟩ ⟨Z8,Z8⟩ ⟨Z8,Z8⟩).mono ?_;rintro e w4 ⟨g4,N,hN,rfl,hb4,hg4,Xl⟩;obtain rfl:N=64:=hN;have Ig:=Rc.trans Xl;have uC:=HC.out.1.quiet Ig;have KO:=HAN.out.2.1.lt;have HH4:=Z5 uC (Z9 (HAN.out.2.1.keep Ig (fun h=>h)) (UF hb4 (SG _ _ _ _ _ _ _ _) Z8));have aku:g4≠gq:=by
    have h3:w3.heap.size<=g4:=hg4;omega
   have ahp:=Z7 (HKV.out.quiet Ig);clear hb4 hg4 Xl Rc Ig;dsimp only [];refine hK _ _ uC.Q4 ?_;clear hK K uC;refine VA rfl rfl (fun K hK=>?_);go_simp;refine(ajn _ W H n gq (f.get pl) H0.out.2.2.2.2.2.1 H0.out.2.2.2.2.2.2.1 HH4.out.2.1 HAN.out.2.2 x y p2 p3 (some ⟨g4,0,none⟩) 64 _ HH4.out.2.2 Z8 (by intro ad e;injection e with e;subst e;exact aku)).mono ?_;rintro e w5 ⟨rfl,Ut,UR⟩;have hlen:(Uw W x y (xP W H (Y7.get pl) (x:Int) (y:Int) 8 0 0) (f.get pl) 8).length=n:=(QU p2 p3 (HAN.out.2.2.trans H0.out.2.2.2.2.2.2.1) (SG _ _ _ _ _ _ _ _) 8 (ZY _)).trans H0.out.2.2.2.2.2.2.1.symm;have ak8:=Z7 (ahp.out.lay HH4.out.2.1 UR);rw [HG.out]at Ut UR;have HF:=Z7 (HH4.out.1.lay p1 Ut (by rw [hlen];exact H0.out.2.2.2.2.1) UR);clear Ut UR hlen;dsimp only [];refine hK _ _ ?_;clear hK K;refine Vz ?_;go_wp2_with fail;go_end0
   refine⟨rfl,⟨v,?_⟩,ak8.out⟩;have hR:PU d fr Y7 0 Q pl x y vx vy f s=(f.set pl (Uw W x y (xP W H (Y7.get pl) (x:Int) (y:Int) 8 0 0) (f.get pl) 8),s):=by
    obtain⟨v1,v2⟩:=HV0.out;unfold PU ze QE;rw [H0.out.2.2.1,H0.out.2.2.2.1,v1,v2];simp
   rw [hR];exact HF.out
  ·have HK:=Z5 hK hv0;clear hK hv0 hk;rcases hk3 with rfl|rfl
   case' inl=>
    have hKf:K=false:=by
     cases K
     ·rfl
     ·exact absurd (HK.out.1 rfl) ZU
    subst hKf;obtain⟨o3,eo3⟩:∃o3,11+pl*3=o3:=⟨_,rfl⟩
    obtain⟨A3,pY,a1,a2,a3,rA⟩:=hcw.ahead H0.out.1 pl p1 o3 eo3;rw [<-H0.out.2.2.1]at a1;rw [<-H0.out.2.2.2.1]at a2;rw [<-H0.out.2.2.2.2.1]at a3 rA;obtain⟨vc,vf⟩:=(yE.ZX 0 rfl).both;dsimp only at vc;have hxb:-1048576<=hx/\hx<=1048576:=by rw [HT.out.2.1];split<;>omega
    have hyb:-1048576<=hy/\hy<=1048576:=by rw [HT.out.2.2];split<;>omega
    have HC:=Z5 hcw (Z9 dX rA);clear hcw yE dX rA;go_upto_region 15 with(fail)
    refine YK [9] [] [0,1,2,3,4,5,6,7,8,9,10] ZR ZR Xc ?_;iterate 9 (refine Yd ?_)
    refine XJ rfl rfl (fun K hK=>?_);go_simp;have Rc:Mod ↑ZW w3 w3.drew:=(Mod.refl _ w3).drew;refine(zW _ W H A3 n pY (Y7.get pl) H0.out.2.2.2.2.2.1 H0.out.2.2.2.2.2.2.1 (by have:=HC.out.2.2.quiet Rc;rwa [H0.out.2.2.2.2.2.2.1]at this) x y hx hy 8 ⟨Z8,Z8⟩ ⟨Z8,Z8⟩ hxb hyb ⟨Z8,Z8⟩).mono ?_;rintro e w5 ⟨g5,N,hN,rfl,hb4,hg4,Xl⟩;obtain rfl:N=64:=hN;have Ig:=Rc.trans Xl;obtain⟨gs,hgs⟩:=ZL (xP W H (Y7.get pl) (x:Int) (y:Int) 8 hx hy);rw [<-hgs]at hb4;have KO:gs.length=64:=by rw [hgs,SG]
    have hX5:jU w0 w w5 cb bk g v false Q d fl al gy gu gv f s gs g5 g1 b s (PU d fr Y7 1 Q pl x y vx vy f s) pl W x y:=by
     refine⟨HC.out.1.quiet Ig,UF hb4 KO Z8,HC.out.2.1.quiet Ig,KO,⟨Z8,H0.out.2.1.eb.free (ob:=g5) (by have h3:w3.heap.size<=g5:=hg4;simp;omega)⟩,?_,HKV.out.quiet Ig⟩;unfold PU ze QE;rw [<-H0.out.2.2.1,<-H0.out.2.2.2.1,<-HB.out.1,hgs,HT.out.2.1,HT.out.2.2];rfl
    obtain⟨s5,hs5⟩:=ZL (s);have hX6:jU w0 w w5 cb bk g v false Q d fl al gy gu gv f s5 gs g5 g1 b s (PU d fr Y7 1 Q pl x y vx vy f s) pl W x y:=by rw [hs5];exact hX5
    have HX:=Z7 hX6;clear hX5 hX6 hs5 hb4 hg4 Xl Ig Rc a1 a2 a3 vc vf;dsimp only [];refine hK _ _ ?_;clear hK K;refine Yd ?_;refine XD ?_
   case' inr=>
    obtain⟨o4,eo4⟩:∃o4,20+pl*3=o4:=⟨_,rfl⟩
    obtain⟨b1,b2,b3,bq,bql⟩:=hcw.built H0.out.1 pl p1 o4 eo4;rw [<-H0.out.2.2.1]at b1;rw [<-H0.out.2.2.2.1]at b2;rw [<-H0.out.2.2.2.2.1]at b3 bql;obtain⟨gq,jJ⟩:=ZL (dM gy gu gv pl);rw [<-jJ]at b3 bq;have ai:n<=16777216:=by rw [H0.out.2.2.2.2.2.2.1];exact(YB H0.out.2.2.2.2.2.1).1
    have HC:=Z5 hcw (Z9 dX (UF bq bql ai));clear hcw yE dX bq bql jJ;go_wp2_with fail;refine(aeO _ W H (some ⟨gq,0,none⟩) n n (f.get pl) H0.out.2.2.2.2.2.1 H0.out.2.2.2.2.2.2.1 HC.out.2.2 (ZY _) x y p2 p3 (some ↑g1) 64 b HC.out.2.1).mono ?_;rintro e w4 ⟨g5,rfl,hb4,hg4,Xl⟩;have o9:w.heap.size<g5:=Z8;have xy:=JY W (f.get pl) x y b;obtain⟨m,hm⟩:=ZL (QS W (f.get pl) x y b);rw [<-hm]at hb4 xy ⊢;obtain⟨gs,hgs⟩:=ZL (TQ W (f.get pl) x y m);rw [<-hgs]at hb4;have KO:gs.length=64:=by rw [hgs,Qh]
    have HM:=Z5 hm hgs;have JB:=HC.out.1.quiet Xl;have q9:=Qd (K:=K) (Q:=Q) (fl:=fl) (al:=al) (bl:=YF d gy gu gv) (bk:=bk) (g:=g) H0.out.1.qd.len H0.out.1.EP rfl;have d9:w4.cell? ⟨cb,29,none⟩=some ↑(ZC bk 0):=(JB.Q4.cell 29).trans q9.1;have d10:w4.cell? ⟨cb,30,none⟩=some ↑(ZC g 0):=(JB.Q4.cell 30).trans q9.2;have jr:=Z5 JB (Z9 (HC.out.2.1.quiet Xl) (UF hb4 KO Z8));have ahp:=Z7 (HKV.out.quiet Xl);clear hm hgs hb4 hg4 Xl JB q9 HC b1 b2 b3 eo4;go_upto_region 10 with(fail)
    refine YK [9] [] [0,1,2,3,4,5,6,7,8,9] ZR ZR Xc ?_;iterate 9 (refine Yd ?_)
    refine XJ rfl rfl (fun K1 ER=>?_);go_simp;have Rc:Mod ↑ZW w4 w4.drew:=(Mod.refl _ w4).drew;have ED:=jr.out.1.quiet Rc;refine(dB _ bk g v s 0 4 m Z8 (.inr rfl) xy ED.eb Z8).mono ?_;rintro e w5 hp;have RO:Mod (fun j=>j=g\/j=bk\/v.ownBlock=some j) w4.drew w5:=by obtain⟨_,_,_,_,h⟩:=hp;exact h
    have mi:=H0.out.2.1.eb.free (ob:=g5) (by simp;omega);have Fx:=Kw 0 m 2 0 0 s;have alN:g5<w4.heap.size:=(jr.out.2.2.2.2.2 Z8 _ rfl)
    have hown:∃v5,e=.returned ↑Z0/\CW w0 w5 cb bk g v5 K Q d fl al gy gu gv f (Qv 0 m 2 0 0 s)/\¬v5.ownBlock=some g5:=by
     obtain⟨v5,h1,h2,h3,h4⟩:=hp;obtain⟨v6,_,h6⟩:=ED.puts ⟨v5,h1,h2,h3,h4⟩;have jb:v5=v6:=by
      have e1:=h2.enc.blk.cell 0;have e2:=h6.eb.enc.blk.cell 0;rw [e1]at e2;simpa using e2
     subst jb;refine⟨v5,h1,h6,fun e2=>?_⟩;rcases h3 g5 e2 with h7|h7
     ·exact mi (.inr (.inr h7))
     ·have:w4.heap.size<=g5:=h7;omega
    obtain⟨v5,rfl,sj,aie⟩:=hown;have hX5:jU w0 w w5 cb bk g v5 K Q d fl al gy gu gv f (Qv 0 m 2 0 0 s) gs g5 g1 b s (PU d fr Y7 2 Q pl x y vx vy f s) pl W x y:=by
     refine⟨sj,(jr.out.2.2.quiet Rc).mod RO (by intro _ ad e;injection e with e;subst e;exact mi),(jr.out.2.1.quiet Rc).mod RO (by intro _ ad e;injection e with e;subst e;exact HFR.out),KO,⟨Z8,fun h=>by rcases h with h|h|h;exact mi (.inl h);exact mi (.inr (.inl h));exact aie h⟩,?_,(ahp.out.quiet Rc).puts ED.eb RO⟩;unfold PU ze;rw [<-H0.out.2.2.1,<-H0.out.2.2.2.1,<-HB.out.1,HM.out.2,HM.out.1];rfl
    have HX:=Z7 hX5;clear hX5 RO mi Fx sj aie hp ED Rc d9 d10 jr;generalize Qv 0 m 2 0 0 s=s5 at *;generalize v5=v at *;dsimp only [];refine ER _ _ ?_;clear ER K1;refine XD ?_
   all_goals
    go_wp2_with fail;refine(fF _ (some ↑g1) 64 64 b (some ↑g5) 64 gs HX.out.2.2.1 HX.out.2.1 Z8 Z8).mono ?_;rintro e6 w6 ⟨ob,rfl,hbr,hor,Xt⟩;have Lr:(Ve b gs).length=64:=by rw [QW];exact HB.out.2
    have hF:=KH (gs:=gs) HB.out.2;have hE:=wM (gs:=gs) HB.out.2 H0.out.1.q;have ib:=ND (gs:=gs) HB.out.2 Q;have hEq:RA b gs Q=V5 (KF (Ve b gs)) Q:=rfl;have hBs:=Kt (gs:=gs) HB.out.2 HX.out.2.2.2.1 H0.out.1.q;have hBl:=Jw (gs:=gs) HB.out.2 HX.out.2.2.2.1 H0.out.1.q;have hcs:=aa9 hF.1 H0.out.1.q hF.2;have HE:=Z5 hE (Z9 ib (Z9 hEq (Z9 hBs (Z9 hBl (Z9 hcs (Z9 hF (Ug (m:=1048576) (by rw [Lr];decide) (fun i=>by have:=Mj b gs i;omega))))))));have HK6:=Z7 (HX.out.2.2.2.2.2.2.quiet Xt);have H6:=Z5 (HX.out.1.quiet Xt) (Z9 (HX.out.2.1.quiet Xt) (abE hbr Lr));clear hbr hor Xt Lr hF hE ib hEq hBs hBl hcs;go_wp2_with fail;refine(aa1 _ (some ↑ob) 64 (Ve b gs) H6.out.2.2).mono ?_;rintro e7 w7 ⟨Sn,⟨h1,rfl⟩|⟨nv,h1,rfl,h2⟩⟩
    ·exact absurd h1 (by rw [HE.out.2.2.2.2.2.2.2];decide)
    obtain⟨A7,c7,hnv⟩:=ZG h2;subst hnv;have Cq:=h2.RU;rw [HE.out.2.2.2.2.2.2.1.1]at Cq ⊢;have H7:=Z5 (H6.out.1.quiet Sn) (Z9 (H6.out.2.1.quiet Sn) Cq);have hq7:w7.cell? ↑cb=some ↑Q:=(H6.out.1.quiet Sn).Q4.cell 0;have HK7:=Z7 (HK6.out.quiet Sn);clear Sn h1 h2 Cq;go_wp2_with fail;refine(aaQ _ A7 64 c7 (KF (Ve b gs)) Q H7.out.2.2 Z8).mono ?_;rintro e8 w8 ⟨KS,⟨h1,rfl⟩|⟨lv,h1,rfl,h2⟩⟩
    ·exact absurd h1 (by rw [HE.out.2.2.2.2.2.1];intro h;cases h)
    obtain⟨A8,c8,hlv⟩:=ZG h2;subst hlv;have Du:=h2.RU;rw [<-HE.out.2.2.1]at Du ⊢;rw [HE.out.2.1]at Du ⊢;have uA:=H7.out.1.quiet KS;have d9:w8.cell? ⟨cb,29,none⟩=some ↑(ZC bk 0):=(uA.Q4.cell 29).trans (Qd H0.out.1.qd.len H0.out.1.EP rfl).1;have d10:w8.cell? ⟨cb,30,none⟩=some ↑(ZC g 0):=(uA.Q4.cell 30).trans (Qd H0.out.1.qd.len H0.out.1.EP rfl).2;have htp:=HT.out.1;have aih:tp<15:=by rw [htp];split<;>omega
    have H8:=Z5 uA (Z9 (H7.out.2.1.quiet KS) (Z9 Du (Z9 h2 H7.out.1)));have HK8:=Z7 (HK7.out.quiet KS);clear uA KS h1 h2 Du htp hq7;go_upto_region 18 with(fail)
    refine YK [10] [] [0,1,2,3,4,5,6,7,8,9,10] ZR ZR Xc ?_;iterate 10 (refine Yd ?_)
    refine XJ rfl rfl (fun K1 ER=>?_);go_simp;have Rc:Mod ↑ZW w8 w8.drew:=(Mod.refl _ w8).drew;have ED:=H8.out.1.quiet Rc;refine(akf _ bk g _ s5 tp aih A8 c8 (RA b gs Q) (H8.out.2.2.1.quiet Rc) HE.out.1 ED.eb (by have:=HX.out.2.2.2.2.1.1;omega)).mono ?_;rintro e9 w9 hp;have CE:Mod (fun j=>j=g\/j=bk\/v.ownBlock=some j) w8.drew w9:=by obtain⟨_,_,_,_,h⟩:=hp;exact h
    obtain⟨v9,rfl,hc9⟩:=ED.puts hp;have aiL:=(H8.out.2.1.quiet Rc).mod CE (by intro _ ad e;injection e with e;subst e;exact HX.out.2.2.2.2.1.2);have aiG:IntsIn w9 A8 64 c8 (RA b gs Q):=by
     obtain⟨r,hv,hBr⟩:=adf H8.out.2.2.2.1 (by rw [<-HE.out.2.2.1,HE.out.2.1];omega);exact(H8.out.2.2.1.quiet Rc).mod CE (by intro _ ad e;rw [hv]at e;injection e with e;subst e;exact H8.out.2.2.2.2.eb.free hBr)
    have HK9:=Z7 ((HK8.out.quiet Rc).puts ED.eb CE);have H9:=Z5 hc9 (Z9 aiL aiG);have EF:w9.cell? ↑cb=some ↑Q:=hc9.Q4.cell 0;clear hp CE hc9 aiL aiG ED Rc d9 d10 H8 H7;dsimp only [];refine ER _ _ ?_;clear ER K1;refine XD ?_;go_wp2_with fail;refine(adJ _ (some ↑g5) 64 64 gs A8 64 c8 (RA b gs Q) Q H9.out.2.1 H9.out.2.2 Z8 Z8).mono ?_;rintro e10 Le ⟨TR,⟨h1,rfl⟩|⟨bv,bs,h1,rfl,Pw⟩⟩
    ·exact absurd h1 (by rw [HE.out.2.2.2.1];intro h;cases h)
    obtain rfl:bs=Qu gs (RA b gs Q) Q:=by
     have h2:=HE.out.2.2.2.1;rw [h1]at h2;exact Option.some.inj h2
    obtain⟨g10,c10,rfl,gY⟩:∃g4 c4,bv=↑(ZZ g4 ((Qu gs (RA b gs Q) Q).length) c4)/\w9.heap.size<=g4:=by
     rcases Pw.2 with⟨_,h0⟩|⟨g4,c4,cur,h1,h2,_⟩
     ·rw [HE.out.2.2.2.2.1]at h0;omega
     ·exact⟨g4,c4,h1,h2⟩
    have KL:=Bytes.cap Pw;have mD:=Pw.RU;rw [HE.out.2.2.2.2.1]at KL mD ⊢;have agr:=H9.out.1.quiet TR;obtain⟨o5,eo5⟩:∃o5,20+pl*3=o5:=⟨_,rfl⟩
    obtain⟨f1,f2,f3,fq,fql⟩:=agr.built H0.out.1 pl p1 o5 eo5;rw [<-H0.out.2.2.1]at f1;rw [<-H0.out.2.2.2.1]at f2;rw [<-H0.out.2.2.2.2.1]at f3 fql;obtain⟨gp,sF⟩:=ZL (dM gy gu gv pl);rw [<-sF]at f3 fq;have alA:gp<w9.heap.size:=by
     rw [sF];unfold dM;split
     ·exact H9.out.1.fa.Ff.lt
     ·split
      ·exact H9.out.1.fa.bu.lt
      ·exact H9.out.1.fa.bv.lt
    have aiA:g10≠gp:=Z8;have HP:=Z5 sF (Z9 fq fql);have PI:=Z5 agr mD;have ala:=Z7 (HK9.out.quiet TR);clear TR h1 Pw agr mD EF fq fql sF;go_wp2_with fail;refine(ajn _ W H n gp (f.get pl) H0.out.2.2.2.2.2.1 H0.out.2.2.2.2.2.2.1 HP.out.2.1 HP.out.2.2 x y p2 p3 (some ↑g10) c10 _ PI.out.2 KL (by intro ad e;injection e with e;subst e;exact aiA)).mono ?_;rintro e11 LM ⟨rfl,Tw,Xk⟩;have hlen:(Uw W x y (Qu gs (RA b gs Q) Q) (f.get pl) 8).length=n:=(QU p2 p3 (HP.out.2.2.trans H0.out.2.2.2.2.2.2.1) HE.out.2.2.2.2.1 8 (ZY _)).trans H0.out.2.2.2.2.2.2.1.symm;have ak9:=Z7 (ala.out.lay HP.out.2.1 Xk);rw [HP.out.1]at Tw Xk;have mG:(Uw W x y (Qu gs (RA b gs Q) Q) (f.get pl) 8).length=d.FE pl:=hlen.trans H0.out.2.2.2.2.1;obtain⟨L,hL⟩:=ZL (Uw W x y (Qu gs (RA b gs Q) Q) (f.get pl) 8);rw [<-hL]at Tw mG;have hF:=PI.out.1.lay p1 Tw mG Xk;have HF:=Z5 hL hF;clear hL hF mG;clear Tw Xk hlen f1 f2 f3;go_wp2_with fail;go_end0
    refine⟨rfl,⟨v9,?_⟩,ak9.out⟩;rw [HX.out.2.2.2.2.2.1];dsimp only;rw [<-HT.out.1,<-HF.out.1];exact HF.out.2
end Go.Proofs.YthednemlahioeaaGreatDoor
