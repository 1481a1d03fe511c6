/-
  A pool whose values are rows of their own: what a step leaves.
-/
import Derived.Test.YthednemlahioeaaGreatDoorM34
namespace Go.Proofs.YthednemlahioeaaGreatDoor
open Go.RowKit
open Nat renaming le_refl→ZY,one_mul→Ym,zero_add→WW,add_mul→Y5
open Region renaming before→Yo,wanted→ZH
open Bool renaming and_false→ZE
open Classical renaming byContradiction→Yf
open And renaming intro→Z9
open Int renaming tdiv_eq_ediv_of_nonneg→ZK
open Sat renaming nil→YT,after→Zw,grew→UD
open Lib renaming hid→Z7
open Ya renaming zero→YL,Ox→VS,Nv→Qm
open Go.Proofs.Tryz
set_option maxRecDepth 100000
set_option maxHeartbeats 8000000
structure PJ(wq:World)(js:List Nat)(EC:Nat->Nat)(yH:Nat->Option Nat)(R:Nat->Value->World->Prop)(vals:Nat->Option Value)(w:World):Prop where
 mod:Mod ↑ZW wq w
 dom:∀i,vals i≠none->i∈js
 cl:∀i j,yH j=some i->vals i≠none->vals j≠none
 live:∀i v,vals i=some v->(∀k,yH i=some k->vals k=none)->R i v w
 lt:∀i v g,vals i=some v->v.ownBlock=some g->wq.heap.size<=g/\g<w.heap.size
 ap:∀i j v u g,EC i≠EC j->vals i=some v->vals j=some u->v.ownBlock=some g->u.ownBlock≠some g
section
variable {wq w w' : World} {js : List Nat} {EC : Nat → Nat} {yH : Nat → Option Nat} {R : Nat → Value → World → Prop} {vals : Nat → Option Value}
theorem PJ.start(wq:World):PJ wq js EC yH R (fun _=>none) wq:=
 ⟨Mod.refl _ _,fun _ h=>absurd rfl h,fun _ _ _ h=>absurd rfl h,fun _ _ h=>(by cases h),fun _ _ _ h=>(by cases h),fun _ _ _ _ _ _ h=>(by cases h)⟩
theorem OL{i:Nat}{v:Value}:QZ vals i v i=some v:=by simp [QZ]
theorem Pb{i j:Nat}{v:Value}(h:j≠i):QZ vals i v j=vals j:=by unfold QZ;rw [if_neg h]
theorem PJ.step(hR:∀(i:Nat) (v:Value) (w w':World) (S:Nat->Prop),R i v w->Mod S w w'->(∀g,v.ownBlock=some g->¬S g)->R i v w')(h:PJ wq js EC yH R vals w){i:Nat}{v':Value}{S:Nat->Prop}(hi:i∈js)(hm:Mod S w w')
  (SB:∀j,yH j=some i->vals j≠none)(xm:∀k u,vals k=some u->(∀m,yH k=some m->vals m=none)->EC k=EC i->k≠i->yH k=some i)
  (hS:∀g,S g->∃j u,EC j=EC i/\vals j=some u/\u.ownBlock=some g)
  (hown:∀g,v'.ownBlock=some g->g<w'.heap.size/\(w.heap.size<=g\/∃j u,EC j=EC i/\vals j=some u/\u.ownBlock=some g))(dW:R i v' w'):PJ wq js EC yH R (QZ vals i v') w':=by
 have hsz:=hm.size;have hsq:=h.mod.size;refine⟨h.mod.into hm (fun g hg=>?_),fun k hk=>?_,fun a j hn ha=>?_,fun k u hk hl=>?_,fun k u g hk hg=>?_,fun k j u t g hne hk hj hg=>?_⟩
 ·obtain⟨j,u,_,hu,hg⟩:=hS g hg;exact .inr (h.lt j u g hu hg).1
 ·by_cases e:k=i
  ·rw [e];exact hi
  ·rw [Pb e]at hk;exact h.dom k hk
 ·by_cases e:j=i
  ·rw [e,OL];exact fun h=>by cases h
  ·rw [Pb e];by_cases e2:a=i
   ·exact SB j (by rw [<-e2];exact hn)
   ·rw [Pb e2]at ha;exact h.cl a j hn ha
 ·by_cases e:k=i
  ·subst e;rw [OL]at hk;injection hk with hk;rw [<-hk];exact dW
  ·rw [Pb e]at hk
   have hl2:∀m,yH k=some m->m≠i/\vals m=none:=fun m Y3=>by
    have h1:=hl m Y3;by_cases e2:m=i
    ·rw [e2,OL]at h1;cases h1
    ·rw [Pb e2]at h1;exact⟨e2,h1⟩
   refine hR k u w w' S (h.live k u hk (fun m Y3=>(hl2 m Y3).2)) hm (fun g hg hSg=>?_);by_cases e3:EC k=EC i
   ·have:=xm k u hk (fun m Y3=>(hl2 m Y3).2) e3 e;exact(hl2 i this).1 rfl
   ·obtain⟨j,t,hgj,ht,PX⟩:=hS g hSg;exact h.ap k j u t g (by rw [hgj];exact e3) hk ht hg PX
 ·by_cases e:k=i
  ·subst e;rw [OL]at hk;injection hk with hk;subst hk;obtain⟨h1,h2⟩:=hown g hg;refine⟨?_,h1⟩;rcases h2 with h2|⟨j,t,_,ht,PX⟩
   ·omega
   ·exact(h.lt j t g ht PX).1
  ·rw [Pb e]at hk;have:=h.lt k u g hk hg;omega
 ·by_cases e:k=i
  ·subst e;rw [OL]at hk;injection hk with hk;subst hk;have ej:j≠k:=fun e=>hne (by rw [e]);rw [Pb ej]at hj;intro ht;obtain⟨_,h2⟩:=hown g hg;rcases h2 with h2|⟨j',t',hg',fA,nG⟩
   ·have:=(h.lt j t g hj ht).2;omega
   ·exact h.ap j' j t' t g (by rw [hg'];exact hne) fA hj nG ht
  ·rw [Pb e]at hk;by_cases ej:j=i
   ·subst ej;rw [OL]at hj;injection hj with hj;subst hj;intro ht;obtain⟨_,h2⟩:=hown g ht;rcases h2 with h2|⟨j',t',hg',fA,nG⟩
    ·have:=(h.lt k u g hk hg).2;omega
    ·exact h.ap k j' u t' g (by rw [hg'];exact hne) hk fA hg nG
   ·rw [Pb ej]at hj;exact h.ap k j u t g hne hk hj hg
theorem PJ.made(hR:∀(i:Nat) (v:Value) (w w':World) (S:Nat->Prop),R i v w->Mod S w w'->(∀g,v.ownBlock=some g->¬S g)->R i v w')(h:PJ wq js EC yH R vals w){i n:Nat}{t:TypeId}{cs:Array Value}(hi:i∈js)(SB:∀j,yH j≠some i)(xm:∀k,EC k=EC i->k≠i->vals k=none)
  (dW:R i ↑(ZZ w.heap.size n n) (w.alloc (.cells cs t))):PJ wq js EC yH R (QZ vals i ↑(ZZ w.heap.size n n)) (w.alloc (.cells cs t)):=by
 refine h.step hR (S:=fun _=>False) hi ((Mod.refl _ w).alloc _) (fun j hj=>absurd hj (SB j)) (fun k u hk _ hg hne=>by rw [xm k hg hne]at hk;cases hk) (fun _ h=>h.elim) (fun g hg=>?_) dW;simp only [Value.ownBlock,Option.some.injEq]at hg;subst hg;exact⟨Ze,.inl (ZY _)⟩
theorem PJ.grown(hR:∀(i:Nat) (v:Value) (w w':World) (S:Nat->Prop),R i v w->Mod S w w'->(∀g,v.ownBlock=some g->¬S g)->R i v w')(h:PJ wq js EC yH R vals w){i j:Nat}{v v':Value}(hi:i∈js)(hv:vals j=some v)(hg:EC j=EC i)(SB:∀j,yH j=some i->vals j≠none)
  (xm:∀k u,vals k=some u->(∀m,yH k=some m->vals m=none)->EC k=EC i->k≠i->yH k=some i)(hgr:w.grownBy w' v.ownBlock)(ho:v'.ownBlock=v.ownBlock\/v'.ownBlock=some w.heap.size)(hlt:∀g,v'.ownBlock=some g->g<w'.heap.size)(dW:R i v' w'):PJ wq js EC yH R (QZ vals i v') w':=by
 refine h.step hR (S:=fun g=>v.ownBlock=some g) hi ((Mod.refl _ w).grown hgr (fun k hk=>.inl hk)) SB xm (fun g hg2=>⟨j,v,hg,hv,hg2⟩) (fun g hg2=>⟨hlt g hg2,?_⟩) dW;rcases ho with ho|ho
 ·exact .inr ⟨j,v,hg,hv,by rw [<-ho];exact hg2⟩
 ·rw [ho]at hg2;injection hg2 with hg2;exact .inl Z8
end
section
variable {o : Oper} {a : Act} {w : World} {K : Act → World → Prop} {Q : Exit → Act → World → Prop}
theorem ad4(ho:o.op=.buildSlice 47 0 #[])(h:K (a.put o.dst ↑(ZZ w.heap.size 0 0)) (w.alloc (.cells #[] 54))):o.wp prog a w K Q:=by
 unfold Oper.wp execOp;simp only [ho];go_simp;exact h
theorem ad3{x:Operand}{A:Option Addr}{n c:Nat}(ho:o.op=.buildSlice 47 1 #[(0,x)])(hx:a.eval x=.slice A n c)(h:K (a.put o.dst ↑(ZZ w.heap.size 1 1)) (w.alloc (.cells #[.slice A n c] 54))):o.wp prog a w K Q:=by
 unfold Oper.wp execOp;simp only [ho,hx,List.map_toArray,List.map_cons,List.map_nil];go_simp;exact h
theorem ad2(ho:o.op=.buildSlice 29 0 #[])(h:K (a.put o.dst ↑(ZZ w.heap.size 0 0)) (w.alloc (.cells #[] 58))):o.wp prog a w K Q:=by
 unfold Oper.wp execOp;simp only [ho];go_simp;exact h
theorem ad1{x:Operand}{a0 a1 a2 a3 a4 a5 a6 a7 a8:Value}(ho:o.op=.buildSlice 29 1 #[(0,x)])(hx:a.eval x=.agg #[a0,a1,a2,a3,a4,a5,a6,a7,a8])(h:K (a.put o.dst ↑(ZZ w.heap.size 1 1)) (w.alloc (.cells #[a0,a1,a2,a3,a4,a5,a6,a7,a8] 58))):o.wp prog a w K Q:=by
 unfold Oper.wp execOp;simp only [ho,hx,List.map_toArray,List.map_cons,List.map_nil];go_simp;exact h
end
def lF(i:Nat):Nat:=if i=10 then 1 else if i=17 then 3 else if i=12\/i=15\/i=18 then 2 else 0
def Cu(i:Nat):Option Nat:=if i=5 then some 8 else if i=8 then some 11 else if i=10 then some 11 else if i=12 then some 15 else if i=15 then some 18 else if i=17 then some 18 else none
def qF(e:TypeId)(cs:List Value)(v:Value)(w:World):Prop:=∃g,v=↑(ZZ g 1 1)/\ZI w g e cs.toArray
def RT(B nA nB:Nat)(tO nX tQ nZ:List Value)(i:Nat)(v:Value)(w:World):Prop:=
 (i=5->w.ownsRow B 54 1 v 0 [])/\(i=8->w.ownsRow B 54 1 v nA tO)/\(i=10->qF 54 nX v w)/\(i=11->w.ownsRow B 54 1 v (nA+1) (tO++nX)) /\
 (i=12->w.ownsRow B 58 9 v 0 [])/\(i=15->w.ownsRow B 58 9 v nB tQ)/\(i=17->qF 58 nZ v w)/\(i=18->w.ownsRow B 58 9 v (nB+1) (tQ++nZ))
theorem qF.turn{e:TypeId}{cs:List Value}{v:Value}{w w':World}{S:Nat->Prop}(h:qF e cs v w)(hm:Mod S w w')(hS:∀g,v.ownBlock=some g->¬S g):qF e cs v w':=by
 obtain⟨g,rfl,hb⟩:=h;exact⟨g,rfl,hb.keep hm (hS g rfl)⟩
theorem RT.turn{B nA nB:Nat}{tO nX tQ nZ:List Value}(i:Nat)(v:Value)(w w':World)(S:Nat->Prop)(h:RT B nA nB tO nX tQ nZ i v w)(hm:Mod S w w')(hS:∀g,v.ownBlock=some g->¬S g):RT B nA nB tO nX tQ nZ i v w':=by
 obtain⟨h1,h2,h3,h4,h5,h6,h7,h8⟩:=h;exact⟨fun e=>XT (h1 e) hm hS,fun e=>XT (h2 e) hm hS,fun e=>(h3 e).turn hm hS,fun e=>XT (h4 e) hm hS,fun e=>XT (h5 e) hm hS,fun e=>XT (h6 e) hm hS,fun e=>(h7 e).turn hm hS,fun e=>XT (h8 e) hm hS⟩
def JQ:List Nat:=[5,8,10,11,12,15,17,18]
section
variable {ops : Array Oper} {loud ZO : List Nat} {Q : Exit → Act → World → Prop}
theorem wC{e:TypeId}{cs:List Value}{v:Value}{w:World}{n:Nat}(h:qF e cs v w)(hn:cs.length=n):∃g,v=↑(ZZ g 1 1)/\Src w n (some ⟨g,0,none⟩) 1 cs:=by
 obtain⟨g,rfl,hb⟩:=h;refine⟨g,rfl,by rw [hn,Ym],fun h=>(by cases h),fun ad e j u hu=>?_⟩;injection e with e;subst e;have agA:(⟨g,0,none⟩:Addr).add j=⟨g,j,none⟩:=by unfold Addr.add;split<;>simp_all
 rw [agA,hb.cell j];simpa using hu
theorem xZ{t:PTrP}{a:Act}{wq:World}{nA nB cA cB:Nat}{AA AB:Option Addr}{tO tQ:List Value}{An:Option Addr}{nn cn:Nat}{b0 b1 b2 b3 b4 b5 b6 b7 b8:Value}{t5 t8 t10 t11 t12 t15 t17 t18:Nat}{vk qM vw qN:Nat}
  (h5:XB ops 5=some t5)(h8:XB ops 8=some t8)(h10:XB ops 10=some t10)(h11:XB ops 11=some t11)(h12:XB ops 12=some t12)(h15:XB ops 15=some t15)(h17:XB ops 17=some t17)(h18:XB ops 18=some t18)
  (o5:(ops[5]?).map (fun o=>(o.op,o.guard))=some (.buildSlice 47 0 #[],none))(o8:(ops[8]?).map (fun o=>(o.op,o.guard))=some (.call { callee:=.builtin .append,args:=#[.tmp t5,.tmp vk],argTypes:=#[47,47] },none))
  (o10:(ops[10]?).map (fun o=>(o.op,o.guard))=some (.buildSlice 47 1 #[(0,.tmp qM)],none))(o11:(ops[11]?).map (fun o=>(o.op,o.guard))=some (.call { callee:=.builtin .append,args:=#[.tmp t8,.tmp t10],argTypes:=#[47,47] },none))
  (o12:(ops[12]?).map (fun o=>(o.op,o.guard))=some (.buildSlice 29 0 #[],none))(o15:(ops[15]?).map (fun o=>(o.op,o.guard))=some (.call { callee:=.builtin .append,args:=#[.tmp t12,.tmp vw],argTypes:=#[29,29] },none))
  (o17:(ops[17]?).map (fun o=>(o.op,o.guard))=some (.buildSlice 29 1 #[(0,.tmp qN)],none))(o18:(ops[18]?).map (fun o=>(o.op,o.guard))=some (.call { callee:=.builtin .append,args:=#[.tmp t15,.tmp t17],argTypes:=#[29,29] },none))
  (lY:(JQ.all fun i=>JQ.all fun j=>!decide (Cu j=some i) || ((Yo ops).getD i 0).testBit j)=true)
  (akD:(JQ.all fun i=>JQ.all fun j=>decide (i=j) || decide (XB ops i≠XB ops j))=true)
  (hout:(JQ.all fun i=>decide (XB ops i≠some vk)&&(decide (XB ops i≠some qM)&&(decide (XB ops i≠some vw)&&decide (XB ops i≠some qN))))=true)
  (hsz:(JQ.all fun i=>match XB ops i with|some d=>decide (d<a.tmps.size)|none=>false)=true)
  (akV:a.eval (.tmp vk)=.slice AA nA cA)(akU:a.eval (.tmp qM)=.slice An nn cn)(akT:a.eval (.tmp vw)=.slice AB nB cB)(akS:a.eval (.tmp qN)=.agg #[b0,b1,b2,b3,b4,b5,b6,b7,b8])
  (hA:∀w',Mod ↑ZW wq w'->Src w' 1 AA nA tO)(hB:∀w',Mod ↑ZW wq w'->Src w' 9 AB nB tQ)(cA0:AA=none->cA=0)(cB0:AB=none->cB=0)
  (oA:∀u∈tO,u.oneCell'=true)(oB:∀u∈tQ,u.oneCell'=true)(ob:∀u∈[b0,b1,b2,b3,b4,b5,b6,b7,b8],u.oneCell'=true)(alz:nA<=64)(aly:nB<=64)
  (h:∀v5 v8 v10 v11 v12 v15 v17 v18 w',Mod ↑ZW wq w'->w'.ownsRow wq.heap.size 54 1 v11 (nA+1) (tO++[.slice An nn cn])->w'.ownsRow wq.heap.size 58 9 v18 (nB+1) (tQ++[b0,b1,b2,b3,b4,b5,b6,b7,b8])->(∀g,v11.ownBlock=some g->v18.ownBlock≠some g) ->
   QI prog ops loud ZO (fun w'=>Mod ↑ZW wq w') Q t ((((((((a.put (some t5) v5).put (some t8) v8).put (some t10) v10).put (some t11) v11).put (some t12) v12).put (some t15) v15).put (some t17) v17).put (some t18) v18) w') :
  QI prog ops loud ZO (fun w'=>Mod ↑ZW wq w') Q (.pool JQ t) a wq:=by
 have eU:JQ.Nodup:=ZU
 have dis:∀i∈JQ,∀j∈JQ,i=j\/XB ops i=none\/XB ops i≠XB ops j:=fun i hi j hj=>by
  have:=List.all_eq_true.1 (List.all_eq_true.1 akD i hi) j hj;simp only [Bool.or_eq_true,decide_eq_true_eq]at this;exact this.imp id .inr
 have out:∀i∈JQ,XB ops i≠some vk/\XB ops i≠some qM/\XB ops i≠some vw/\XB ops i≠some qN:=fun i hi=>by
  have:=List.all_eq_true.1 hout i hi;simpa only [Bool.and_eq_true,decide_eq_true_eq]using this
 have siz:∀i∈JQ,∀d,XB ops i=some d->d<a.tmps.size:=fun i hi d hd=>by
  have:=List.all_eq_true.1 hsz i hi;rw [hd]at this;simpa using this
 have deps:∀i∈JQ,∀j∈JQ,Cu j=some i->((Yo ops).getD i 0).testBit j=true:=fun i hi j hj hn=>by
  have:=List.all_eq_true.1 (List.all_eq_true.1 lY i hi) j hj;rw [decide_eq_true hn]at this;simpa using this
 obtain⟨R,NJ⟩:=ZL (RT wq.heap.size nA nB tO [.slice An nn cn] tQ [b0,b1,b2,b3,b4,b5,b6,b7,b8]);have hR:∀(i:Nat) (v:Value) (w w':World) (S:Nat->Prop),R i v w->Mod S w w'->(∀g,v.ownBlock=some g->¬S g)->R i v w':=by rw [NJ];exact fun i v w w' S=>RT.turn i v w w' S
 have xU:∀ {i:Nat} {p:Op × Option (Nat × Bool)},(ops[i]?).map (fun o=>(o.op,o.guard))=some p->∃o,ops[i]?=some o/\o.op=p.1/\o.guard=p.2/\XB ops i=o.dst:=fun {i p} hp=>by
  obtain⟨o,ho,hp⟩:=Option.map_eq_some_iff.1 hp;exact⟨o,ho,by rw [<-hp],by rw [<-hp],by unfold XB;rw [ho];rfl⟩
 refine abr (PJ wq JQ lF Cu R) (Mod.refl _ _) (PJ.start wq) ?_ ?_
 ·intro i hi vals w' hS hJ h0 akE
  have memT:∀j m,Cu j=some m->j∈JQ:=fun j m hn=>by
   unfold Cu at hn;unfold JQ
   repeat' split at hn
   all_goals first|(cases hn;done)|(subst_vars;simp)
  have o6:∀j,Cu j=some i->vals j≠none:=fun j hn hv=>by
   have:=akE j (memT j i hn) (deps i hi j (memT j i hn) hn);rw [hv]at this;cases this
  have alV:∀k,k ∉ JQ->vals k=none:=fun k hk=>Yf fun h=>hk (hJ.dom k h);have n8:=hJ.cl 8 5 rfl;have n11:=hJ.cl 11 8 rfl;have n15:=hJ.cl 15 12 rfl;have n18:=hJ.cl 18 15 rfl;have hwq:=hJ.mod.size;have cs:i=5\/i=8\/i=10\/i=11\/i=12\/i=15\/i=17\/i=18:=by
   have:=hi;unfold JQ at this;simpa using this
  have agE:∀k,k∈JQ->lF k=0->k=5\/k=8\/k=11:=by
   intro k hk hg;have:k=5\/k=8\/k=10\/k=11\/k=12\/k=15\/k=17\/k=18:=by
    unfold JQ at hk;simpa using hk
   rcases this with rfl|rfl|rfl|rfl|rfl|rfl|rfl|rfl<;>first|(simp;done)|(revert hg;decide)
  have agD:∀k,k∈JQ->lF k=2->k=12\/k=15\/k=18:=by
   intro k hk hg;have:k=5\/k=8\/k=10\/k=11\/k=12\/k=15\/k=17\/k=18:=by
    unfold JQ at hk;simpa using hk
   rcases this with rfl|rfl|rfl|rfl|rfl|rfl|rfl|rfl<;>first|(simp;done)|(revert hg;decide)
  have akM:∀k,k∈JQ->lF k=1->k=10:=by
   intro k hk hg;have:k=5\/k=8\/k=10\/k=11\/k=12\/k=15\/k=17\/k=18:=by
    unfold JQ at hk;simpa using hk
   rcases this with rfl|rfl|rfl|rfl|rfl|rfl|rfl|rfl<;>first|(simp;done)|(revert hg;decide)
  have akL:∀k,k∈JQ->lF k=3->k=17:=by
   intro k hk hg;have:k=5\/k=8\/k=10\/k=11\/k=12\/k=15\/k=17\/k=18:=by
    unfold JQ at hk;simpa using hk
   rcases this with rfl|rfl|rfl|rfl|rfl|rfl|rfl|rfl<;>first|(simp;done)|(revert hg;decide)
  have inT:∀k u,vals k=some u->k∈JQ:=fun k u h=>hJ.dom k (by rw [h];exact fun h=>by cases h)
  have noN:∀k,(∃m,Cu k=some m)->k=5\/k=8\/k=10\/k=12\/k=15\/k=17:=fun k ⟨m,hm⟩=>by
   unfold Cu at hm
   repeat' split at hm
   all_goals first|(cases hm;done)|(subst_vars;simp)
  rcases cs with rfl|rfl|rfl|rfl|rfl|rfl|rfl|rfl
  ·obtain⟨o,ho,hop,hg,N9⟩:=xU o5
   have Gl:=PJ.made hR hJ (i:=5) (n:=0) (t:=54) (cs:=#[]) ZU (fun j hj=>by have:=noN j ⟨_,hj⟩;rcases this with rfl|rfl|rfl|rfl|rfl|rfl<;>(revert hj;decide))
    (fun k hk hne=>Yf fun hn=>by
     rcases agE k (hJ.dom k hn) hk with rfl|rfl|rfl
     ·exact hne rfl
     ·exact n8 hn h0
     ·exact n8 (n11 hn) h0) (by rw [NJ];exact⟨fun _=>World.ownsRow_made w' #[] 0 hwq ZU rfl,fun e=>absurd e ZU,fun e=>absurd e ZU,fun e=>absurd e ZU,fun e=>absurd e ZU,fun e=>absurd e ZU,fun e=>absurd e ZU,fun e=>absurd e ZU⟩)
   refine wpOp_step ho (fun K hK=>?_);rw [if_pos (by simp [ZH,hg])];exact ad4 hop (hK _ _ ⟨Gl.mod,_,by rw [N9],Gl⟩)
  ·obtain⟨o,ho,hop,hg,N9⟩:=xU o8;obtain⟨v5,q5⟩:=Option.ne_none_iff_exists'.1 (o6 5 rfl);have r5:=hJ.live 5 v5 q5 (fun k hk=>by cases hk;exact h0);rw [NJ]at r5;obtain⟨i0,hi0,hz0,hz1,hz2⟩:=info_parts yT;refine wpOp_step ho (fun K hK=>?_);rw [if_pos (by simp [ZH,hg])];refine Tm w' (.tmp t5) (.tmp vk) 47 hop wq.heap.size 54 i0 _ 1 24 underlying47 hi0 hz0 hz1 hz2 rfl ZU v5 0 [] (OE eU ZU q5 h5 (siz 5 ZU t5 h5) (dis 5 ZU)) (r5.1 rfl) AA nA cA tO (by rw [Qe (fun j hj=>(out j hj).1)];exact akV) (hA w' hJ.mod) cA0 oA (by unfold maxLen;omega) Z8 hwq ?_;intro v' w'' y1 y2 y3;rw [WW,List.nil_append]at y1
   have Gl:=PJ.grown hR hJ (i:=8) ZU q5 rfl o6 (fun k u hk hl hgr hne=>by
    rcases agE k (inT k u hk) hgr with rfl|rfl|rfl
    ·rfl
    ·exact absurd rfl hne
    ·exact absurd h0 (n11 (by rw [hk];exact fun h=>by cases h))) y2 y3 (fun g hg2=>(y1.lt g hg2).2) (by rw [NJ];exact⟨fun e=>absurd e ZU,fun _=>y1,fun e=>absurd e ZU,fun e=>absurd e ZU,fun e=>absurd e ZU,fun e=>absurd e ZU,fun e=>absurd e ZU,fun e=>absurd e ZU⟩)
   exact hK _ _ ⟨Gl.mod,_,by rw [N9],Gl⟩
  ·obtain⟨o,ho,hop,hg,N9⟩:=xU o10
   have Gl:=PJ.made hR hJ (i:=10) (n:=1) (t:=54) (cs:=#[.slice An nn cn]) ZU (fun j hj=>by have:=noN j ⟨_,hj⟩;rcases this with rfl|rfl|rfl|rfl|rfl|rfl<;>(revert hj;decide))
    (fun k hk hne=>Yf fun hn=>hne (akM k (hJ.dom k hn) hk)) (by rw [NJ];exact⟨fun e=>absurd e ZU,fun e=>absurd e ZU,fun _=>⟨_,rfl,ZI.new _ _ _⟩,fun e=>absurd e ZU,fun e=>absurd e ZU,fun e=>absurd e ZU,fun e=>absurd e ZU,fun e=>absurd e ZU⟩)
   refine wpOp_step ho (fun K hK=>?_);rw [if_pos (by simp [ZH,hg])];exact ad3 hop (by rw [Qe (fun j hj=>(out j hj).2.1)];exact akU) (hK _ _ ⟨Gl.mod,_,by rw [N9],Gl⟩)
  ·obtain⟨o,ho,hop,hg,N9⟩:=xU o11;obtain⟨v8,q8⟩:=Option.ne_none_iff_exists'.1 (o6 8 rfl);obtain⟨v10,jk⟩:=Option.ne_none_iff_exists'.1 (o6 10 rfl);have r8:=hJ.live 8 v8 q8 (fun k hk=>by cases hk;exact h0);have r10:=hJ.live 10 v10 jk (fun k hk=>by cases hk;exact h0);rw [NJ]at r8 r10;obtain⟨g10,rfl,s10⟩:=wC (r10.2.2.1 rfl) (n:=1) rfl;obtain⟨i0,hi0,hz0,hz1,hz2⟩:=info_parts yT;refine wpOp_step ho (fun K hK=>?_);rw [if_pos (by simp [ZH,hg])];refine Tm w' (.tmp t8) (.tmp t10) 47 hop wq.heap.size 54 i0 _ 1 24 underlying47 hi0 hz0 hz1 hz2 rfl ZU v8 nA tO (OE eU ZU q8 h8 (siz 8 ZU t8 h8) (dis 8 ZU)) (r8.2.1 rfl) (some ↑g10) 1 1 [.slice An nn cn] (OE eU ZU jk h10 (siz 10 ZU t10 h10) (dis 10 ZU)) s10 (fun h=>by cases h) (by intro u hu;rw [List.mem_singleton.1 hu];rfl) (by unfold maxLen;omega) Z8 hwq ?_;intro v' w'' y1 y2 y3
   have Gl:=PJ.grown hR hJ (i:=11) ZU q8 rfl o6 (fun k u hk hl hgr hne=>by
    rcases agE k (inT k u hk) hgr with rfl|rfl|rfl
    ·have:=hl 8 rfl;rw [q8]at this;cases this
    ·rfl
    ·exact absurd rfl hne) y2 y3 (fun g hg2=>(y1.lt g hg2).2) (by rw [NJ];exact⟨fun e=>absurd e ZU,fun e=>absurd e ZU,fun e=>absurd e ZU,fun _=>y1,fun e=>absurd e ZU,fun e=>absurd e ZU,fun e=>absurd e ZU,fun e=>absurd e ZU⟩)
   exact hK _ _ ⟨Gl.mod,_,by rw [N9],Gl⟩
  ·obtain⟨o,ho,hop,hg,N9⟩:=xU o12
   have Gl:=PJ.made hR hJ (i:=12) (n:=0) (t:=58) (cs:=#[]) ZU (fun j hj=>by have:=noN j ⟨_,hj⟩;rcases this with rfl|rfl|rfl|rfl|rfl|rfl<;>(revert hj;decide))
    (fun k hk hne=>Yf fun hn=>by
     rcases agD k (hJ.dom k hn) hk with rfl|rfl|rfl
     ·exact hne rfl
     ·exact n15 hn h0
     ·exact n15 (n18 hn) h0) (by rw [NJ];exact⟨fun e=>absurd e ZU,fun e=>absurd e ZU,fun e=>absurd e ZU,fun e=>absurd e ZU,fun _=>World.ownsRow_made w' #[] 0 hwq ZU rfl,fun e=>absurd e ZU,fun e=>absurd e ZU,fun e=>absurd e ZU⟩)
   refine wpOp_step ho (fun K hK=>?_);rw [if_pos (by simp [ZH,hg])];exact ad2 hop (hK _ _ ⟨Gl.mod,_,by rw [N9],Gl⟩)
  ·obtain⟨o,ho,hop,hg,N9⟩:=xU o15;obtain⟨v5,q5⟩:=Option.ne_none_iff_exists'.1 (o6 12 rfl);have r5:=hJ.live 12 v5 q5 (fun k hk=>by cases hk;exact h0);rw [NJ]at r5;obtain⟨i0,hi0,hz0,hz1,hz2⟩:=info_parts zy;refine wpOp_step ho (fun K hK=>?_);rw [if_pos (by simp [ZH,hg])];refine Tm w' (.tmp t12) (.tmp vw) 29 hop wq.heap.size 58 i0 _ 9 120 underlying29 hi0 hz0 hz1 hz2 rfl ZU v5 0 [] (OE eU ZU q5 h12 (siz 12 ZU t12 h12) (dis 12 ZU)) (r5.2.2.2.2.1 rfl) AB nB cB tQ (by rw [Qe (fun j hj=>(out j hj).2.2.1)];exact akT) (hB w' hJ.mod) cB0 oB (by unfold maxLen;omega) Z8 hwq ?_;intro v' w'' y1 y2 y3;rw [WW,List.nil_append]at y1
   have Gl:=PJ.grown hR hJ (i:=15) ZU q5 rfl o6 (fun k u hk hl hgr hne=>by
    rcases agD k (inT k u hk) hgr with rfl|rfl|rfl
    ·rfl
    ·exact absurd rfl hne
    ·exact absurd h0 (n18 (by rw [hk];exact fun h=>by cases h))) y2 y3 (fun g hg2=>(y1.lt g hg2).2) (by rw [NJ];exact⟨fun e=>absurd e ZU,fun e=>absurd e ZU,fun e=>absurd e ZU,fun e=>absurd e ZU,fun e=>absurd e ZU,fun _=>y1,fun e=>absurd e ZU,fun e=>absurd e ZU⟩)
   exact hK _ _ ⟨Gl.mod,_,by rw [N9],Gl⟩
  ·obtain⟨o,ho,hop,hg,N9⟩:=xU o17
   have Gl:=PJ.made hR hJ (i:=17) (n:=1) (t:=58) (cs:=#[b0,b1,b2,b3,b4,b5,b6,b7,b8]) ZU (fun j hj=>by have:=noN j ⟨_,hj⟩;rcases this with rfl|rfl|rfl|rfl|rfl|rfl<;>(revert hj;decide))
    (fun k hk hne=>Yf fun hn=>hne (akL k (hJ.dom k hn) hk)) (by rw [NJ];exact⟨fun e=>absurd e ZU,fun e=>absurd e ZU,fun e=>absurd e ZU,fun e=>absurd e ZU,fun e=>absurd e ZU,fun e=>absurd e ZU,fun _=>⟨_,rfl,ZI.new _ _ _⟩,fun e=>absurd e ZU⟩)
   refine wpOp_step ho (fun K hK=>?_);rw [if_pos (by simp [ZH,hg])];exact ad1 hop (by rw [Qe (fun j hj=>(out j hj).2.2.2)];exact akS) (hK _ _ ⟨Gl.mod,_,by rw [N9],Gl⟩)
  ·obtain⟨o,ho,hop,hg,N9⟩:=xU o18;obtain⟨v8,q8⟩:=Option.ne_none_iff_exists'.1 (o6 15 rfl);obtain⟨v10,jk⟩:=Option.ne_none_iff_exists'.1 (o6 17 rfl);have r8:=hJ.live 15 v8 q8 (fun k hk=>by cases hk;exact h0);have r10:=hJ.live 17 v10 jk (fun k hk=>by cases hk;exact h0);rw [NJ]at r8 r10;obtain⟨g10,rfl,s10⟩:=wC (r10.2.2.2.2.2.2.1 rfl) (n:=9) rfl;obtain⟨i0,hi0,hz0,hz1,hz2⟩:=info_parts zy;refine wpOp_step ho (fun K hK=>?_);rw [if_pos (by simp [ZH,hg])];refine Tm w' (.tmp t15) (.tmp t17) 29 hop wq.heap.size 58 i0 _ 9 120 underlying29 hi0 hz0 hz1 hz2 rfl ZU v8 nB tQ (OE eU ZU q8 h15 (siz 15 ZU t15 h15) (dis 15 ZU)) (r8.2.2.2.2.2.1 rfl) (some ↑g10) 1 1 [b0,b1,b2,b3,b4,b5,b6,b7,b8] (OE eU ZU jk h17 (siz 17 ZU t17 h17) (dis 17 ZU)) s10 (fun h=>by cases h) ob (by unfold maxLen;omega) Z8 hwq ?_;intro v' w'' y1 y2 y3
   have Gl:=PJ.grown hR hJ (i:=18) ZU q8 rfl o6 (fun k u hk hl hgr hne=>by
    rcases agD k (inT k u hk) hgr with rfl|rfl|rfl
    ·have:=hl 15 rfl;rw [q8]at this;cases this
    ·rfl
    ·exact absurd rfl hne) y2 y3 (fun g hg2=>(y1.lt g hg2).2) (by rw [NJ];exact⟨fun e=>absurd e ZU,fun e=>absurd e ZU,fun e=>absurd e ZU,fun e=>absurd e ZU,fun e=>absurd e ZU,fun e=>absurd e ZU,fun e=>absurd e ZU,fun _=>y1⟩)
   exact hK _ _ ⟨Gl.mod,_,by rw [N9],Gl⟩
 ·intro vals w' hS hJ hall;have g:=fun i (hi:i∈JQ)=>Option.isSome_iff_exists.1 (hall i hi);obtain⟨v5,q5⟩:=g 5 ZU;obtain⟨v8,q8⟩:=g 8 ZU;obtain⟨v10,jk⟩:=g 10 ZU;obtain⟨v11,q11⟩:=g 11 ZU;obtain⟨v12,q12⟩:=g 12 ZU;obtain⟨v15,q15⟩:=g 15 ZU;obtain⟨v17,q17⟩:=g 17 ZU;obtain⟨v18,q18⟩:=g 18 ZU;have r11:=hJ.live 11 v11 q11 (fun k hk=>by simp [Cu]at hk);have r18:=hJ.live 18 v18 q18 (fun k hk=>by simp [Cu]at hk);rw [NJ]at r11 r18;have key:=h v5 v8 v10 v11 v12 v15 v17 v18 w' hS (r11.2.2.2.1 rfl) (r18.2.2.2.2.2.2.2 rfl) (fun g hg=>hJ.ap 11 18 v11 v18 g ZU q11 q18 hg);have e:Xv ops vals JQ a=((((((((a.put (some t5) v5).put (some t8) v8).put (some t10) v10).put (some t11) v11).put (some t12) v12).put (some t15) v15).put (some t17) v17).put (some t18) v18):=by
   simp only [JQ,Xv,q5,q8,jk,q11,q12,q15,q17,q18,h5,h8,h10,h11,h12,h15,h17,h18]
  rw [e];exact key
end
def pkN(W H:Nat)(ZJ:List UInt8)(i j t:Nat):Nat:=(TB W H ZJ (2*(i:Int)+((t % 2:Nat):Int)) (2*(j:Int)+((t/2:Nat):Int))).toNat
def qL(W H:Nat)(ZJ:List UInt8)(i j:Nat):Nat->Nat
 | 0=>2
 | t+1=>qL W H ZJ i j t+pkN W H ZJ i j t
theorem ad7(W H:Nat)(ZJ:List UInt8)(i j t:Nat):qL W H ZJ i j t<=2+255*t:=by
 induction t with
 | zero=>exact ZY _
 | succ t ih=>
  unfold qL;have:pkN W H ZJ i j t<256:=UInt8.toNat_lt _;omega
theorem Ab{W H:Nat}{ZJ:List UInt8}{i j t:Nat}(hi:2*i+2<=W)(hj:2*j+2<=H)(ht:t<4):pkN W H ZJ i j t=(ZJ.getD ((2*j+t/2)*W+(2*i+t % 2)) 0).toNat:=by
 unfold pkN TB;have e1:Uj (2*(j:Int)+((t/2:Nat):Int)) H=2*j+t/2:=by
  unfold Uj;rw [Xb,Xb];omega
 have e2:Uj (2*(i:Int)+((t % 2:Nat):Int)) W=2*i+t % 2:=by
  unfold Uj;rw [Xb,Xb];omega
 rw [e1,e2]
theorem abV{W H:Nat}{ZJ:List UInt8}{i j:Nat}(hi:2*i+2<=W)(hj:2*j+2<=H):qL W H ZJ i j 4/4=DT W ZJ (2*j*W+2*i):=by
 have h0:=Ab (ZJ:=ZJ) hi hj (show 0<4 by omega);have h1:=Ab (ZJ:=ZJ) hi hj (show 1<4 by omega);have h2:=Ab (ZJ:=ZJ) hi hj (show 2<4 by omega);have h3:=Ab (ZJ:=ZJ) hi hj (show 3<4 by omega);have e0:(2*j+0/2)*W+(2*i+0 % 2)=2*j*W+2*i:=Ze;have e1:(2*j+1/2)*W+(2*i+1 % 2)=2*j*W+2*i+1:=by simp;omega
 have e2:(2*j+2/2)*W+(2*i+2 % 2)=2*j*W+2*i+W:=by
  show(2*j+1)*W+(2*i+0)=_;rw [Y5];omega
 have e3:(2*j+3/2)*W+(2*i+3 % 2)=2*j*W+2*i+W+1:=by
  show(2*j+1)*W+(2*i+1)=_;rw [Y5];omega
 rw [e0]at h0;rw [e1]at h1;rw [e2]at h2;rw [e3]at h3;unfold DT;simp only [qL,h0,h1,h2,h3];congr 1;omega
def ahF(w:World)(W H:Nat)(ZJ:List UInt8)(x y:Int)(e:Ending)(w':World):Prop:=∃px:Nat,e=.returned (.int .u8 (px:Int))/\px<=255/\px=(TB W H ZJ x y).toNat/\Mod ↑ZW w w'
theorem akP(w:World)(W H:Nat)(A:Option Addr)(n c:Nat)(ZJ:List UInt8)(h:Yx W H=true)(hn:n=W*H)(YZ:BytesIn w A n c ZJ)(x y:Int):Calls prog 160 #[.agg #[↑W,↑H,.slice A n c],↑x,↑y] w (ahF w W H ZJ x y):=by
 refine(fAt w W H A n c ZJ h hn YZ x y).mono ?_;rintro e w' ⟨rfl,hm⟩;exact⟨_,rfl,by have:=UInt8.toNat_lt (TB W H ZJ x y);omega,rfl,hm⟩
def adV(w:World)(hb q N W2 H2 j i:Nat)(pv:Array Value)(f:Nat->UInt8)(s:Nat->Nat)(v9 v10:Value)(wr:World):Prop:=
 ∃k:Nat,k<=4/\v10=↑k/\v9=↑(s k)/\Sat ↑ZW w wr [⟨hb,56,#[↑W2,↑H2,↑(ZZ q N N)]⟩,⟨q,5,(Yw (Vq f N (j*W2+i))).toArray⟩,⟨w.heap.size+1,56,#[↑Z0,↑Z0,↑Zd]⟩,⟨w.heap.size,56,pv⟩] []
theorem ahT(w:World)(W H:Nat)(A:Option Addr)(m c:Nat)(ZJ:List UInt8)(h:Yx W H=true)(h2s:Yx (W/2) (H/2)=true)(hm:m=W*H)(YZ:BytesIn w A (W*H) c ZJ)(W2 H2 N:Nat)(hw:W=2*W2)(hh:H=2*H2)(hN:N=W2*H2):
  Calls prog 100 #[.agg #[↑W,↑H,.slice A m c]] w (GQ w W2 H2 N (zG W H ZJ)):=by
 obtain⟨wX,hW0,hW,vG,hH,_⟩:=YB h;obtain⟨b,off,hA,hb,hcell⟩:=YZ.place Z8;have e1:W/2=W2:=Z8;have e2:H/2=H2:=Z8;rw [e1,e2]at h2s;subst hA;have HI:=Z5 h (Z9 hm (Z9 YZ (Z9 h2s hb)));have Me:m<=16777216:=Z8;have hW2:W2<=2048:=Z8;have qi:H2<=2048:=Z8;have qp:N<=4194304:=by
  have h1:W2*H2<=2048*2048:=Nat.mul_le_mul Z8 Z8;omega
 have wm:((W:Int) % 2 != 0)=false:=by simp;omega
 have Ti:((H:Int) % 2 != 0)=false:=by simp;omega
 have wd:(W:Int)/2=(W2:Int):=Z8;have hd:(H:Int)/2=(H2:Int):=Z8;have wt:(W:Int).tdiv 2=(W2:Int):=by rw [ZK Z8];exact wd
 have ht:(H:Int).tdiv 2=(H2:Int):=by rw [ZK Z8];exact hd
 have h0:=((YT ↑ZW w).alloc 56 #[↑W,↑H,.slice (some ⟨b,off,none⟩) m c] rfl).alloc (g:=w.heap.size+1) 56 #[↑Z0,↑Z0,↑Zd] Ze;obtain⟨pc,pf⟩:=(h0.ZX 1 rfl).both;dsimp only at pc;have H0:=Z7 h0;have yt:=Z5 hw (Z9 hh hN);clear h hm YZ hcell h0 wX hw hh hN hb h2s e1 e2;go_enter func100,ntmps100;go_wp2_with fail;refine YX (Ur _ W H (some ⟨b,off,none⟩) m c HI.out.1 HI.out.2.1) fun w2 Y3=>?_;have hS:=Zw Y3 H0.out;clear pc pf;obtain⟨pc,pf⟩:=(hS.ZX 1 rfl).both;dsimp only at pc;have HS:=Z7 hS;clear hS Y3 H0;go_wp2_with fail;refine(zq _ W2 H2 N 0 HI.out.2.2.2.1 yt.out.2.2).mono ?_;rintro e w3 ⟨q,rfl,vO,hql,X7⟩;have vH:=UD X7 HS.out vO hql;have zA:=vH.alloc (g:=w3.heap.size) 56 #[↑W2,↑H2,↑(ZZ q N N)] rfl;obtain⟨f,hf⟩:=ZL (iD W ZJ W2);rw [KX f]at zA;have HF:=Z7 hf;clear vH vO hql X7 pc pf wt ht wd hd wm Ti hf HS;go_upto_region 5 with(fail)
 obtain⟨hb',dD⟩:=ZL (w3.heap.size);rw [<-dD]at zA ⊢;clear dD;generalize w3.alloc (.cells #[↑W2,↑H2,↑(ZZ q N N)] 56)=w4 at zA ⊢;obtain⟨qc,qf⟩:=(zA.ZX 0 rfl).both;dsimp only at qc;have Td:=Z7 zA;clear zA;go_wp2_with fail;go_loopw [7] (qX w hb' q N W2 H2 #[↑W,↑H,.slice (some ⟨b,off,none⟩) m c] f) (fun s _=>H2-(intOf s).toNat)
 case atStart=>exact⟨0,Z8,rfl,by rw [Nat.zero_mul];exact Td.out⟩
 case round=>
  clear Td qc qf;obtain⟨j,hj,rfl,hSj⟩:=hrel;rename World=>w5
  have hcb:ZI w5 hb' 56 #[↑W2,↑H2,↑(ZZ q N N)]:=hSj.ZX 0 rfl;obtain⟨qc,qf⟩:=hcb.both;have HJ:=Z7 hSj;clear hSj hcb;by_cases hlt:j<H2
  ·have d1:=Zb ((j:Int)<(H2:Int));go_wp2_with fail;go_loopw [8] (vV w hb' q N W2 H2 j #[↑W,↑H,.slice (some ⟨b,off,none⟩) m c] f) (fun s _=>W2-(intOf s).toNat)
   case atStart=>exact⟨0,Z8,rfl,HJ.out⟩
   case round=>
    clear HJ qc qf;rename World=>w6
    obtain⟨i,hi,rfl,iw⟩:=hrel;have hcb:ZI w6 hb' 56 #[↑W2,↑H2,↑(ZZ q N N)]:=iw.ZX 0 rfl;obtain⟨qc,qf⟩:=hcb.both;have HG:=Z7 iw;clear iw hcb;by_cases Pq:i<W2
    ·have d2:=Zb ((i:Int)<(W2:Int));obtain⟨s,hs⟩:=ZL (qL W H ZJ i j);have HSK:=Z7 hs;have aim:∀t,s t<=2+255*t:=fun t=>by rw [hs];exact ad7 W H ZJ i j t
     have HSL:=Z7 aim;have s0:s 0=2:=by rw [hs];rfl
     have M8:=Z7 s0;clear hs aim s0;go_wp2_with fail;go_loopw [9,10] (adV w hb' q N W2 H2 j i #[↑W,↑H,.slice (some ⟨b,off,none⟩) m c] f s) (fun _ v _=>4-(intOf v).toNat)
     case atStart=>exact⟨0,Z8,rfl,by rw [M8.out];rfl,HG.out⟩
     case round=>
      clear HG qc qf;rename World=>w7
      obtain⟨k,hk,rfl,rfl,hSk⟩:=hrel;have J6:ZI w7 w.heap.size 56 #[↑W,↑H,.slice (some ⟨b,off,none⟩) m c]:=hSk.ZX 3 rfl;obtain⟨pc,pf⟩:=J6.both;have hb0:=HSL.out k;have HK:=Z7 hSk;clear hSk J6;by_cases h4:k<4
      ·have hk4:k=0\/k=1\/k=2\/k=3:=Z8;have hb1:=HSL.out (k+1);clear hk h4;obtain⟨z,hz⟩:=ZL (s k);rw [<-hz]at hb0 ⊢;have HZ:=Z7 hz;clear hz;have hzz:z<=1022:=Z8;clear hb0 hb1;rcases hk4 with rfl|rfl|rfl|rfl
       all_goals
        go_wp2_with fail;refine(akP _ W H (some ⟨b,off,none⟩) m c ZJ HI.out.1 HI.out.2.1 ((by have h1:=HI.out.2.1;have h2:=HI.out.2.2.1;rw [<-h1]at h2;exact h2:BytesIn w (some ⟨b,off,none⟩) m c ZJ).quiet HK.out.mod) _ _).mono ?_;rintro e w8 ⟨px,rfl,J6,pz,KS⟩;have HPX:=Z7 pz;clear pz;have h8:=HK.out.quiet KS;have IX:=Z7 h8;clear h8 KS pc pf;go_wp2_with fail;go_roundw
        case rel=>
         refine⟨_,ZU,rfl,?_,IX.out⟩;have h1:=HZ.out;rw [HSK.out]at h1;rw [HSK.out,h1,HPX.out];exact congrArg (Value.int IntKind.i64) (Int.natCast_add _ _).symm
        case measure=>simp [intOf]
      ·obtain rfl:k=4:=Z8;clear h4 hk;have hcb:ZI w7 hb' 56 #[↑W2,↑H2,↑(ZZ q N N)]:=HK.out.ZX 0 rfl;obtain⟨qc,qf⟩:=hcb.both;have vO:ZI w7 q 5 (Yw (Vq f N (j*W2+i))).toArray:=HK.out.ZX 1 rfl;have ql:=vO.lt;have qfz:=vO.frozen;obtain⟨m0,QN⟩:=ZL (j*W2);have iO:m0+W2<=N:=lS hlt yt.out.2.2 QN;obtain⟨z,hz⟩:=ZL (m0+i);obtain⟨z1,nN⟩:=lT hz Pq iO qp;have bE:j*W2+i=z:=by rw [<-QN,<-hz]
       have DC:=Ra vO (by rw [bE];exact z1);rw [bE]at DC;have jg:wrap64 (wrap64 ((j:Int)*(W2:Int))+(i:Int))=(z:Int):=gF QN hz nN;obtain⟨y,hy⟩:=ZL (s 4);rw [<-hy]at hb0 ⊢;have hyb:y<=1022:=Z8;have hfy:(f (j*W2+i)).toNat=y/4:=by
        rw [HF.out,l9 W ZJ W2 j i Pq,<-abV (W:=W) (H:=H) (ZJ:=ZJ) (i:=i) (j:=j) (uu Pq yt.out.1) (uu hlt yt.out.2.1),hy,HSK.out]
       have hyv:(y:Int)/4=((f (j*W2+i)).toNat:Int):=Z8;have HZ:=Z5 QN (Z9 hz hyv);clear hcb vO QN hz iO nN bE hy hfy hyv hb0 pc pf;go_wp2_with fail;have hput:=HK.out.put (.there (.here (Ou f N (j*W2+i))));rw [HZ.out.2.2];have hzz:j*W2+i=z:=by rw [HZ.out.2.1,HZ.out.1]
       refine⟨⟨i+1,Pq,rfl,?_⟩,Rb Pq⟩;rw [hzz]at hput ⊢;rw [<-Nat.add_assoc,hzz];exact hput
    ·obtain rfl:i=W2:=Z8;have d2:=Za ((i:Int)<(i:Int));go_wp2_with fail;go_roundw
     case rel=>exact⟨j+1,Z8,Zr,by rw [Y5,Ym];exact HG.out⟩
     case measure=>exact YD
  ·obtain rfl:j=H2:=Z8;have d1:=Za ((j:Int)<(j:Int));have Rq:ZI w5 (w.heap.size+1) 56 #[↑Z0,↑Z0,↑Zd]:=HJ.out.ZX 2 rfl;obtain⟨rc,rf⟩:=Rq.both;have rl:=Rq.lt;have bZ:=Z7 yt.out.2.2;have HFF:=Z7 HF.out;go_wp2_with fail;have iq:=((HJ.out.put (g:=w.heap.size+1) (i:=0) (u:=↑W2) (.there (.there (.here rfl)))).put (g:=w.heap.size+1) (i:=1) (u:=↑j) (.there (.there (.here rfl)))).put (g:=w.heap.size+1) (i:=2) (u:=↑(ZZ q N N)) (.there (.there (.here rfl)));have uJ:ZI _ (w.heap.size+1) 56 #[↑W2,↑j,↑(ZZ q N N)]:=iq.ZX 2 rfl;have EF:=iq.ZX 1 rfl;dsimp only at EF;rw [Bj yt.out.1 yt.out.2.1 bZ.out HFF.out]at EF;have p0:=uJ.cell 0;have p1:=uJ.cell 1;have p2:=uJ.cell 2;exact bodyPost_ret (v:=.tuple #[.agg #[↑W2,↑j,↑(ZZ q N N)],↑Z0]) (by simp [results,results100,go_sem,p0,p1,p2]) rfl ⟨q,rfl,EF,iq.low 1 rfl,iq.mod⟩
theorem uU(w:World)(W H:Nat)(A:Option Addr)(m c:Nat)(ZJ:List UInt8)(h:Yx W H=true)(hm:m=W*H)(YZ:BytesIn w A m c ZJ)(W2 H2 N:Nat)(hw:W=2*W2)(hh:H=2*H2)(hN:N=W2*H2)(h2:Yx W2 H2=true):
  Calls prog 100 #[.agg #[↑W,↑H,.slice A m c]] w (GQ w W2 H2 N (zG W H ZJ)):=by
 have e1:W/2=W2:=Z8;have e2:H/2=H2:=Z8;have h2s:Yx (W/2) (H/2)=true:=by rw [e1,e2];exact h2
 subst hm;exact ahT w W H A _ c ZJ h h2s rfl YZ W2 H2 N hw hh hN
theorem ahU(w:World)(d:Yz)(hd:d.Ok)(hdd:d.down.Ok)(A0 A1 A2:Option Addr)(c0 c1 c2:Nat)(f:Yy)(i0:BytesIn w A0 d.nY c0 f.Y)(i1:BytesIn w A1 d.nC c1 f.U)(i2:BytesIn w A2 d.nC c2 f.V):
  Calls prog 57 #[.agg #[↑d.W,↑d.H,.slice A0 d.nY c0,↑d.W2,↑d.H2,.slice A1 d.nC c1,↑d.W2,↑d.H2,.slice A2 d.nC c2]] w fun e w'=>∃p,e=.returned (.tuple #[p,↑Z0])/\Qn w d.down (Sj d f) p w'/\Mod ↑ZW w w':=by
 have h0:=((YT ↑ZW w).alloc 58 #[↑d.W,↑d.H,.slice A0 d.nY c0,↑d.W2,↑d.H2,.slice A1 d.nC c1,↑d.W2,↑d.H2,.slice A2 d.nC c2] rfl).alloc (g:=w.heap.size+1) 58 ↑WK Ze;have HW:=Z7 hd.ve;have oU:=hdd.ve;obtain⟨W4,vI⟩:=ZL (d.W2/2);obtain⟨H4,qj⟩:=ZL (d.H2/2);obtain⟨N4,hN4⟩:=ZL (W4*H4);have x1:d.down.W=d.W2:=rfl;have x2:d.down.H=d.H2:=rfl;have x3:d.down.W2=W4:=by rw [vI];rfl
 have x4:d.down.H2=H4:=by rw [qj];rfl
 have x5:d.down.nY=d.nC:=rfl;have x6:d.down.nC=N4:=by rw [hN4,vI,qj];rfl
 rw [x1,x2,x3,x4,x5,x6]at oU;have s1:Yx d.W2 d.H2=true:=hd.half;have s2:Yx W4 H4=true:=by have:=hdd.half;rwa [x3,x4]at this
 have y1:d.W2=2*W4:=by have:=hdd.w2;rwa [x1,x3]at this
 have y2:d.H2=2*H4:=by have:=hdd.h2;rwa [x2,x4]at this
 have H0:=Z5 h0 (Z9 i0 (Z9 i1 i2));have HD:=Z5 hd (Z9 s1 (Z9 s2 (Z9 y1 (Z9 y2 (Z9 hN4 oU)))));have HX:=Z5 x3 (Z9 x4 x6);obtain⟨fc,ff⟩:=(h0.ZX 1 rfl).both;dsimp only at fc;clear h0 i0 i1 i2 hd hdd oU x1 x2 x3 x4 x5 x6 s1 s2 y1 y2 vI qj hN4;go_enter func57,ntmps57;go_wp2_with fail;refine YX (IB _ (d.W:Int) (d.H:Int) (d.W2:Int) (d.H2:Int) (d.W2:Int) (d.H2:Int) A0 A1 A2 d.nY c0 d.nC c1 d.nC c2) fun w1 Y6=>?_;rw [HW.out];have hs1:=Zw Y6 H0.out.1;clear fc ff;obtain⟨fc,ff⟩:=(hs1.ZX 1 rfl).both;dsimp only at fc;have H1:=Z7 hs1;clear hs1 Y6;go_wp2_with fail;refine(uU _ d.W d.H A0 d.nY c0 f.Y HD.out.1.sides HD.out.1.ny (H0.out.2.1.quiet H1.out.mod) d.W2 d.H2 d.nC HD.out.1.w2 HD.out.1.h2 HD.out.1.nc HD.out.2.1).mono ?_;rintro e w2 ⟨q0,rfl,hb0,hl0,Y3⟩;have hs2:=(UD Y3 H1.out hb0 hl0).alloc (g:=w2.heap.size) 56 #[↑d.W2,↑d.H2,↑(ZZ q0 d.nC d.nC)] rfl;clear fc ff hb0 hl0 Y3;obtain⟨fc,ff⟩:=(hs2.ZX 3 rfl).both;dsimp only at fc;have H2:=Z7 hs2;clear hs2;go_wp2_with fail;refine(uU _ d.W2 d.H2 A1 d.nC c1 f.U HD.out.2.1 HD.out.1.nc (H0.out.2.2.1.quiet H2.out.mod) W4 H4 N4 HD.out.2.2.2.1 HD.out.2.2.2.2.1 HD.out.2.2.2.2.2.1 HD.out.2.2.1).mono ?_;rintro e w3 ⟨q1,rfl,hb1,KR,X7⟩;have hs3:=(UD X7 H2.out hb1 KR).alloc (g:=w3.heap.size) 56 #[↑W4,↑H4,↑(ZZ q1 N4 N4)] rfl;clear fc ff hb1 KR X7;obtain⟨fc,ff⟩:=(hs3.ZX 5 rfl).both;dsimp only at fc;have H3:=Z7 hs3;clear hs3;go_wp2_with fail;refine(uU _ d.W2 d.H2 A2 d.nC c2 f.V HD.out.2.1 HD.out.1.nc (H0.out.2.2.2.quiet H3.out.mod) W4 H4 N4 HD.out.2.2.2.1 HD.out.2.2.2.2.1 HD.out.2.2.2.2.2.1 HD.out.2.2.1).mono ?_;rintro e w4 ⟨q2,rfl,hb2,hl2,Xl⟩;have Bq:=(UD Xl H3.out hb2 hl2).alloc (g:=w4.heap.size) 56 #[↑W4,↑H4,↑(ZZ q2 N4 N4)] rfl;clear fc ff hb2 hl2 Xl;obtain⟨a0,e0⟩:=(Bq.ZX 0 rfl).both;obtain⟨a1,e1⟩:=(Bq.ZX 2 rfl).both;obtain⟨a2,e2⟩:=(Bq.ZX 4 rfl).both;dsimp only at a0 a1 a2;have tV:=Z7 Bq;clear Bq;go_wp2_with fail;have hs5:=tV.out.alloc (g:=w4.heap.size+1) 58 #[↑d.W2,↑d.H2,↑(ZZ q0 d.nC d.nC),↑W4,↑H4,↑(ZZ q1 N4 N4),↑W4,↑H4,↑(ZZ q2 N4 N4)] Ze;clear a0 a1 a2 e0 e1 e2;refine YX (IB _ (d.W2:Int) (d.H2:Int) (W4:Int) (H4:Int) (W4:Int) (H4:Int) (some ↑q0) (some ↑q1) (some ↑q2) d.nC d.nC N4 N4 N4 N4) fun w6 Xt=>?_;rw [HD.out.2.2.2.2.2.2];have J7:=hs5.quiet Xt;clear Xt hs5;obtain⟨oc,of⟩:=(J7.ZX 0 rfl).both;dsimp only at oc;obtain⟨rc,rf⟩:=(J7.ZX 7 rfl).both;dsimp only at rc;have rl:=(J7.ZX 7 rfl).lt;dsimp only at rl;have H6:=Z7 J7;clear J7;go_wp2_with fail;have iW:=H6.out.ZX 7 rfl;dsimp only at iW;obtain⟨b9,m9⟩:=Qg iW ↑d.W2 ↑d.H2 ↑(ZZ q0 d.nC d.nC) ↑W4 ↑H4 ↑(ZZ q1 N4 N4) ↑W4 ↑H4 ↑(ZZ q2 N4 N4);have Ik:=H6.out.turn m9 b9 (.there (.there (.there (.there (.there (.there (.there .here)))))));have p0:=b9.cell 0;have p1:=b9.cell 1;have p2:=b9.cell 2;have p3:=b9.cell 3;have p4:=b9.cell 4;have p5:=b9.cell 5;have p6:=b9.cell 6;have p7:=b9.cell 7;have p8:=b9.cell 8;have z0:=Ik.ZX 6 rfl;have z1:=Ik.ZX 4 rfl;have z2:=Ik.ZX 2 rfl;dsimp only at z0 z1 z2;have bK:=Ik.apart 4 6 rfl rfl Z8;have bL:=Ik.apart 2 6 rfl rfl Z8;have bM:=Ik.apart 2 4 rfl rfl Z8;have L0:=Ik.low 6 rfl;have L1:=Ik.low 4 rfl;have L2:=Ik.low 2 rfl;dsimp only at bK bL bM L0 L1 L2;have hM:=Ik.mod;have hv:YF d.down q0 q1 q2=[↑d.W2,↑d.H2,↑(ZZ q0 d.nC d.nC),↑W4,↑H4,↑(ZZ q1 N4 N4),↑W4,↑H4,↑(ZZ q2 N4 N4)]:=by
  unfold YF;rw [HX.out.1,HX.out.2.1,HX.out.2.2];rfl
 have ly:(Sj d f).Y.length=d.down.nY:=by
  show(zG d.W d.H f.Y).length=d.nC;rw [Qy,HD.out.1.nc];have a:=HD.out.1.w2;have b:=HD.out.1.h2;rw [show d.W/2=d.W2 by omega,show d.H/2=d.H2 by omega]
 have HZ:=Z5 z0 (Z9 z1 (Z9 z2 (Z9 (Z9 bK (Z9 bL bM)) (Z9 (Z9 L0 (Z9 L1 L2)) (Z9 hM ly)))));clear z0 z1 z2 bK bL bM L0 L1 L2 hM ly Ik iW b9 m9 oc of rl rc rf;refine bodyPost_ret (v:=.tuple #[.agg (YF d.down q0 q1 q2).toArray,↑Z0]) (by rw [hv];simp [results,results57,go_sem,p0,p1,p2,p3,p4,p5,p6,p7,p8]) rfl ⟨_,rfl,⟨q0,q1,q2,rfl,⟨HZ.out.1,HZ.out.2.1,HZ.out.2.2.1,HZ.out.2.2.2.2.2.2,?_,?_,Ne.symm HZ.out.2.2.2.1.1,Ne.symm HZ.out.2.2.2.1.2.1,Ne.symm HZ.out.2.2.2.1.2.2⟩,HZ.out.2.2.2.2.1.1,HZ.out.2.2.2.2.1.2.1,HZ.out.2.2.2.2.1.2.2⟩,HZ.out.2.2.2.2.2.1⟩
 ·exact Qy d.W2 d.H2 f.U
 ·exact Qy d.W2 d.H2 f.V
theorem afY(w:World)(d:Yz)(hd:d.Ok)(hdd:d.down.Ok)(fx:Ya)(hg:fx.UG d=true)(YZ:fx.In w):
  Calls prog 57 #[.agg fx.cells.toArray] w fun e w'=>∃fy:Ya,e=.returned (.tuple #[.agg fy.cells.toArray,↑Z0])/\fy.In w'/\fy.UG d.down=true/\fy.ZJ=Sj d fx.ZJ/\(∀ad,(fy.A0=some ad\/fy.A1=some ad\/fy.A2=some ad)->w.heap.size<=ad.block)/\Mod ↑ZW w w':=by
 obtain⟨SB,h0,h1,h2⟩:=Ya.good hd hg;have i0:=YZ.b0;have i1:=YZ.b1;have i2:=YZ.b2;rw [h0]at i0;rw [h1]at i1;rw [h2]at i2;rw [SB];refine(ahU w d hd hdd fx.A0 fx.A1 fx.A2 fx.c0 fx.c1 fx.c2 fx.ZJ i0 i1 i2).mono ?_;rintro e w' ⟨p,rfl,⟨g0,g1,g2,rfl,hf,l0,l1,l2⟩,hm⟩
 refine⟨Ya.mk (d.down.W:Int) (d.down.H:Int) (some ↑g0) d.down.nY d.down.nY (d.down.W2:Int) (d.down.H2:Int) (some ↑g1) d.down.nC d.down.nC (d.down.W2:Int) (d.down.H2:Int) (some ↑g2) d.down.nC d.down.nC (Sj d fx.ZJ).Y (Sj d fx.ZJ).U (Sj d fx.ZJ).V,rfl,
  ⟨UF hf.Ff hf.ly hdd.zZ,UF hf.bu hf.lu hdd.Lt,UF hf.bv hf.lv hdd.Lt,ZY _,ZY _,ZY _,?_,?_,?_⟩,Di hdd g0 g1 g2 _,rfl,?_,hm⟩
 ·show d.down.nY<=_;have:=hdd.zZ;omega
 ·show d.down.nC<=_;have:=hdd.Lt;omega
 ·show d.down.nC<=_;have:=hdd.Lt;omega
 ·rintro ad (e|e|e)<;>(injection e with e;subst e;assumption)
theorem fP(w:World)(A:Option Addr)(n c:Nat)(fs:List Ya)(h:ME w A n fs)(hn:n<=9223372036854775807):Calls prog 55 #[.slice A n c] w fun e w'=>e=.returned (.bool (Pj fs))/\Mod ↑ZW w w':=by
 have HH:=Z7 h;clear h;go_enter func55,ntmps55;go_wp2_with fail;go_loopw [3] (rH w fs n) (fun i _=>n-(intOf i).toNat)
 case atStart=>exact⟨0,Z8,rfl,rfl,Mod.refl _ _⟩
 case round=>
  rename World=>wr
  obtain⟨k,hk,rfl,SB,hM⟩:=hrel;by_cases hlt:k<n
  ·obtain⟨b,o,hA,hb,Zm,YZ⟩:=(HH.out.quiet hM).at_ k hlt;obtain⟨b2,o2,CB,_,hcells0,_⟩:=(HH.out.quiet hM).at_ 0 Z8;rw [hA]at CB;injection CB with CB;injection CB with e1 e2;subst e1 e2;subst hA;have d1:=Zb ((k:Int)<(n:Int));have dn:(0:Int)<(n:Int):=Z8;obtain⟨f,hf⟩:=ZL (fs.getD k YL);rw [<-hf]at Zm;obtain⟨X,hX⟩:=ZL ((fs.getD 0 YL).W0);obtain⟨Y,hY⟩:=ZL ((fs.getD 0 YL).H0);have z0:wr.cell? ⟨b,o,none⟩=some ↑X:=by have:=hcells0 0 _ rfl;rw [hX];simpa using this
   have z1:wr.cell? ⟨b,o+1,none⟩=some ↑Y:=by have:=hcells0 1 _ rfl;rw [hY];simpa using this
   have k0:wr.cell? ⟨b,o+k*9,none⟩=some (.int .i64 f.W0):=Zm 0 _ rfl;have k1:=Zm 1 _ rfl;have k2:=Zm 2 _ rfl;have k3:=Zm 3 _ rfl;have k4:=Zm 4 _ rfl;have k5:=Zm 5 _ rfl;have k6:=Zm 6 _ rfl;have k7:=Zm 7 _ rfl;have k8:=Zm 8 _ rfl;have hW:=IB wr f.W0 f.H0 f.W1 f.H1 f.W2 f.H2 f.A0 f.A1 f.A2 f.n0 f.c0 f.n1 f.c1 f.n2 f.c2;obtain⟨t,ht⟩:=ZL (Ye f.W0 f.H0 f.n0 f.W1 f.H1 f.n1 f.W2 f.H2 f.n2);rw [<-ht]at hW;have HL:=Z5 hW (Z9 SB (Z9 hM (Z9 hf (Z9 ht (Z9 hX hY)))));clear hW SB hM hf ht Zm hcells0 YZ hX hY;go_wp2_with fail;refine HL.out.1.mono ?_;rintro e w2 ⟨rfl,Y3⟩;have y0:w2.cell? ⟨b,o,none⟩=some ↑X:=(Vx Y3 hb).trans z0;have y1:w2.cell? ⟨b,o+1,none⟩=some ↑Y:=(Vx Y3 hb).trans z1;have q0:w2.cell? ⟨b,o+k*9,none⟩=some (.int .i64 f.W0):=(Vx Y3 hb).trans k0;have q1:w2.cell? ⟨b,o+k*9+1,none⟩=some (.int .i64 f.H0):=(Vx Y3 hb).trans k1;have H2:=Z7 (HL.out.2.2.1.trans Y3);clear Y3 z0 z1 k0 k1 k2 k3 k4 k5 k6 k7 k8 hb;cases t with
   | false=>
    have HB:=Z7 (MI (fs:=fs) (k:=k) (by rw [HH.out.len];exact hlt) (by unfold VS Qm;rw [<-HL.out.2.2.2.1,<-HL.out.2.2.2.2.1];rfl));go_upto_region 5 with(fail)
    go_quiet (fail)
    have HM:=Z7 (H2.out.drewN nq);clear y0 y1 q0 q1;generalize w2.drewN nq=w5 at *;go_wp2_with fail;go_ret;exact⟨by rw [HB.out];rfl,HM.out⟩
   | true=>
    by_cases x1:f.W0=X
    ·have u1:(f.W0 != X)=false:=by simpa using x1
     by_cases x2:f.H0=Y
     ·have u2:(f.H0 != Y)=false:=by simpa using x2
      have HC:Hid (Ni fs (k+1)=true):=Z7 (by
       rw [NC,HL.out.2.1,Bool.true_and,<-HL.out.2.2.2.1];unfold VS Qm;rw [<-HL.out.2.2.2.2.1,<-HL.out.2.2.2.2.2.1,<-HL.out.2.2.2.2.2.2,decide_eq_true x1,decide_eq_true x2];rfl)
      clear x1 x2;go_upto_region 5 with(fail)
      go_quiet (fail)
      have HM:=Z7 (H2.out.drewN nq);clear y0 y1 q0 q1;generalize w2.drewN nq=w5 at *;go_wp2_with fail;go_roundw
      case rel=>first|exact⟨k+1,Z8,Zr,HC.out,HM.out⟩|((repeat apply Exists.intro);exact⟨⟨k+1,Z8,Zr,HC.out,HM.out⟩,rfl⟩)
      case measure=>exact YD
     ·have u2:(f.H0 != Y)=true:=by simpa using x2
      have HB:=Z7 (MI (fs:=fs) (k:=k) (by rw [HH.out.len];exact hlt) (by unfold VS Qm;rw [<-HL.out.2.2.2.1,<-HL.out.2.2.2.2.2.1,<-HL.out.2.2.2.2.2.2,decide_eq_false x2,ZE,ZE]));clear x1 x2;go_upto_region 5 with(fail)
      go_quiet (fail)
      have HM:=Z7 (H2.out.drewN nq);clear y0 y1 q0 q1;generalize w2.drewN nq=w5 at *;go_wp2_with fail;go_ret;exact⟨by rw [HB.out];rfl,HM.out⟩
    ·have u1:(f.W0 != X)=true:=by simpa using x1
     have HB:=Z7 (MI (fs:=fs) (k:=k) (by rw [HH.out.len];exact hlt) (by unfold VS Qm;rw [<-HL.out.2.2.2.1,<-HL.out.2.2.2.2.2.1,<-HL.out.2.2.2.2.2.2,decide_eq_false x1,Bool.false_and,ZE]));clear x1;go_upto_region 5 with(fail)
     go_quiet (fail)
     have HM:=Z7 (H2.out.drewN nq);clear y0 y1 q0 q1;generalize w2.drewN nq=w5 at *;go_wp2_with fail;go_ret;exact⟨by rw [HB.out];rfl,HM.out⟩
  ·obtain rfl:k=n:=Z8;have d1:=Za ((k:Int)<(k:Int));have HM:=Z7 hM;by_cases c1:1<=k
   ·have d2:=Zb (1<=(k:Int));by_cases c2:k<=1024
    ·have d3:=Zb ((k:Int)<=1024);have HB:Hid (Pj fs=true):=Z7 (by unfold Pj;rw [HH.out.len,SB,decide_eq_true (show 1<=k/\k<=1024 from⟨c1,c2⟩)];rfl);clear SB hM c1 c2;go_wp2_with fail;go_ret;exact⟨by rw [HB.out];rfl,HM.out⟩
    ·have d3:=Za ((k:Int)<=1024);have HB:=Z7 (JZ (fs:=fs) (by rw [HH.out.len];omega));clear SB hM c1 c2;go_wp2_with fail;go_ret;exact⟨by rw [HB.out];rfl,HM.out⟩
   ·have d2:=Za (1<=(k:Int));have HB:=Z7 (JZ (fs:=fs) (by rw [HH.out.len];omega));clear SB hM c1;go_wp2_with fail;go_ret;exact⟨by rw [HB.out];rfl,HM.out⟩
theorem Ec(w:World)(d:Nat)(hd:d<=3):Calls prog 51 #[↑d] w fun e w'=>e=.returned ↑(2 ^ d:Nat)/\w=w':=by
 have h4:d=0\/d=1\/d=2\/d=3:=Z8;have hp:∀k,k<=3->(2 ^ k:Nat)<=8:=ZU;go_enter func51,ntmps51;go_wp2_with fail;go_loop [3,4] (fun p i=>∃k:Nat,k<=d/\i=↑k/\p=↑(2 ^ k:Nat)) (fun _ i=>d-(intOf i).toNat)
 case atStart=>exact⟨0,Z8,rfl,rfl⟩
 case round=>
  obtain⟨k,hk,rfl,rfl⟩:=hrel;by_cases hlt:k<d
  ·have d1:=Zb ((k:Int)<(d:Int));have hb:=hp k Z8;obtain⟨P,hP⟩:=ZL ((2 ^ k:Nat));rw [<-hP]at hb ⊢;have HP:=Z7 hP;clear hP;go_wp2_with fail;exact⟨⟨k+1,Z8,Zr,congrArg (Value.int .i64) (by rw [Nat.pow_succ,<-HP.out];omega)⟩,by simp [intOf];omega⟩
  ·obtain rfl:k=d:=Z8;have d1:=Za ((k:Int)<(k:Int));go_wp2_with fail;go_ret;exact⟨rfl,rfl⟩
theorem MO(w:World)(W H G:Int)(r:Rg)(d:Nat)(hdn:r.down=(d:Int))(hd:d<=3)(hW:-1099511627776<=W/\W<=1099511627776)(hH:-1099511627776<=H/\H<=1099511627776):
  Calls prog 49 #[↑W,↑H,↑G,.agg r.cells.toArray] w fun e w'=>e=.returned (.agg #[.int .i64 (W.tdiv ((2 ^ d:Nat):Int)),.int .i64 (H.tdiv ((2 ^ d:Nat):Int)),↑G])/\Mod ↑ZW w w':=by
 obtain⟨nm,dn,qq,tg⟩:=r;unfold Rg.cells;dsimp only at hdn ⊢;subst hdn;have h0:=((YT ↑ZW w).alloc 38 #[.string (strOf nm),↑d,↑qq,↑tg] rfl).alloc (g:=w.heap.size+1) 40 #[↑Z0,↑Z0,↑Z0] Ze;have H0:=Z7 h0;obtain⟨p,hp⟩:=ZL ((2 ^ d:Nat));have hp8:1<=p/\p<=8:=by
  have:∀k,k<=3->1<=(2 ^ k:Nat)/\(2 ^ k:Nat)<=8:=ZU;rw [hp];exact this d hd
 obtain⟨p1,p2⟩:=hp8;have rp:∀w:World,Calls prog 51 #[↑d] w fun e w'=>e=.returned ↑p/\w=w':=fun w=>by rw [hp];exact Ec w d hd
 have RP:=Z7 rp;rw [<-hp];clear hp rp h0
 have pb:∀n:Int,-1099511627776<=n/\n<=1099511627776 -> -1099511627776<=n.tdiv (p:Int)/\n.tdiv (p:Int)<=1099511627776:=fun n hn=>by
  have h1:(n.tdiv (p:Int)).natAbs<=n.natAbs:=by rw [Int.natAbs_tdiv];exact Nat.div_le_self _ _
  omega
 obtain⟨a1,a2⟩:=pb W hW;obtain⟨b1,b2⟩:=pb H hH;obtain⟨X,hX⟩:=ZL (W.tdiv (p:Int));obtain⟨Y,hY⟩:=ZL (H.tdiv (p:Int));rw [<-hX]at a1 a2 ⊢;rw [<-hY]at b1 b2 ⊢;have hX':W.tdiv (p:Int)=X:=hX.symm;have hY':H.tdiv (p:Int)=Y:=hY.symm;have aB:¬p=0:=Z8;clear hX hY pb;obtain⟨sc,sf⟩:=(H0.out.ZX 0 rfl).both;obtain⟨rc,rf⟩:=(H0.out.ZX 1 rfl).both;dsimp only at sc rc;go_enter func49,ntmps49;go_wp2_with fail;refine YH (RP.out _) ?_;go_upto_region 2 with(fail)
 refine YK [8] [] [0,1,2,3,4,5,6,7,8] ZR ZR Xc ?_;iterate 8 (refine Yd ?_)
 refine XJ rfl rfl (fun K hK=>?_);go_simp;refine hK _ _ ?_;clear hK K;refine XD ?_;go_wp2_with fail;have x1:IntKind.i64.wrap X=X:=IntWalk.i64_in _ ⟨Z8,Z8⟩;have x2:IntKind.i64.wrap Y=Y:=IntWalk.i64_in _ ⟨Z8,Z8⟩
 try rw [x1,x2]
 exact bodyPost_ret (v:=.agg #[.int .i64 X,.int .i64 Y,↑G]) (by simp [results,results49,go_sem]) rfl ⟨rfl,(((Mod.refl _ w).alloc _).alloc _).drew⟩
end Go.Proofs.YthednemlahioeaaGreatDoor
