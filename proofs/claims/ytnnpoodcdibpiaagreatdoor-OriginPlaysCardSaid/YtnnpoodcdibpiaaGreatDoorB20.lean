/-
  As XPlanT; but where two operations that write or make may come up in either order, both ways are walked (a tree of a plan).
-/
import Derived.Test.YtnnpoodcdibpiaaGreatDoorB17
namespace Go.Proofs.YtnnpoodcdibpiaaGreatDoor
set_option maxRecDepth 100000
set_option maxHeartbeats 8000000
inductive PTree where
 | nil
 | seq (i:Nat) (t:PTree)
 | fork (i j:Nat) (ti tj:PTree)
namespace PTree
def depth:PTree->Nat
 | .nil=>0
 | .seq _ t=>t.depth+1
 | .fork _ _ t _=>t.depth+1
def any(p:Nat->Bool):PTree->Bool
 | .nil=>false
 | .seq i t=>p i || t.any p
 | .fork i j ti tj=>p i || p j || ti.any p || tj.any p
def after:List Nat->PTree->PTree
 | [],t=>t
 | i :: is,t=>.seq i (after is t)
end PTree
section
variable {P : Program} {ops : Array Oper} {md : Region.Mode} {B : Array Nat} {loud pure_ : List Nat} {S : World → Prop} {Q : Exit → Act → World → Prop}
def wpPlanF0(P:Program)(ops:Array Oper)(B:Array Nat)(loud pure_:List Nat)(S:World->Prop)(Q:Exit->Act->World->Prop):PTree->Act->World->Prop
 | .nil,a,w=>Q .normal a w
 | .seq i is,a,w=>if loud.contains i then wpOp P ops Q i (fun a' w'=>(Behind B pure_ i->S w')/\wpPlanF0 P ops B loud pure_ S Q is a' w') a w
  else if pure_.contains i then ∃o v,ops[i]?=some o/\YieldsIf P ops S o v a/\wpPlanF0 P ops B loud pure_ S Q is (a.put o.dst v) w
  else stOp P ops w i (fun a'=>wpPlanF0 P ops B loud pure_ S Q is a' w) a
 | .fork i j ti tj,a,w=>wpOp P ops Q i (fun a' w'=>(Behind B pure_ i->S w')/\wpPlanF0 P ops B loud pure_ S Q ti a' w') a w/\wpOp P ops Q j (fun a' w'=>(Behind B pure_ j->S w')/\wpPlanF0 P ops B loud pure_ S Q tj a' w') a w
def okF(md:Region.Mode)(ops:Array Oper)(loud pure_:List Nat)(B:Array Nat):PTree->Array Bool->Bool
 | .nil,listed=>decide (Region.ready md ops listed=[])
 | .seq i is,listed=>
   (if loud.contains i then decide (Region.ready md ops listed=[i])
    else(Region.ready md ops listed).contains i&&Region.free md ops listed i&&(pure_.contains i || loud.all fun j=>(B.getD j 0).testBit i || listed.getD j true)) &&
   okF md ops loud pure_ B is (listed.setIfInBounds i true)
 | .fork i j ti tj,listed=>loud.contains i&&loud.contains j&&decide (Region.ready md ops listed=[i,j])&&decide (ti.depth=tj.depth) &&
   okF md ops loud pure_ B ti (listed.setIfInBounds i true)&&okF md ops loud pure_ B tj (listed.setIfInBounds j true)
def tillF(B:Array Nat)(loud pure_:List Nat):PTree->Bool
 | .nil=>true
 | .seq i is=>(!loud.contains i || !(is.any fun k=>pure_.contains k) || pure_.any fun p=>!(B.getD i 0).testBit p)&&tillF B loud pure_ is
 | .fork i j ti tj=>(!(ti.any fun k=>pure_.contains k) || pure_.any fun p=>!(B.getD i 0).testBit p)&&(!(tj.any fun k=>pure_.contains k) || pure_.any fun p=>!(B.getD j 0).testBit p)&&tillF B loud pure_ ti&&tillF B loud pure_ tj
theorem behind_of{i:Nat}{b:Bool}{w':World}(ht:(!b || pure_.any fun p=>!(B.getD i 0).testBit p)=true)(hb:Behind B pure_ i->S w')(ha:b=true):S w':=hb (by
 rw [ha]at ht;simp only [Bool.not_true,Bool.false_or,List.any_eq_true,Bool.not_eq_true']at ht;obtain⟨p,hp,hq⟩:=ht;exact⟨p,hp,hq⟩)
theorem wpZ_planF(hB:waitB md ops B=true)(hs:Region.noSelect ops=true)(hQ:∀c a w d u,Q (.panic c) (a.put d u) w->Q (.panic c) a w):
  ∀(is:PTree) (listed:Array Bool) (a:Act) (w:World),((is.any fun k=>pure_.contains k)=true->S w)->Closed md ops listed->tillF B loud pure_ is=true->okF md ops loud pure_ B is listed=true->wpPlanF0 P ops B loud pure_ S Q is a w->wpZ P md ops B loud pure_ S Q is.depth listed a w
 | .nil,listed,a,w,_,hc,_,hp,h=>⟨by simpa [okF]using hp,h⟩
 | .seq i is,listed,a,w,hS,hc,ht,hp,h=>by
  simp only [okF,Bool.and_eq_true]at hp;obtain⟨h1,h2⟩:=hp;rw [tillF,Bool.and_eq_true]at ht;obtain⟨ht1,ht2⟩:=ht;have hS':(is.any fun k=>pure_.contains k)=true->S w:=fun h=>hS (by rw [PTree.any,h,Bool.or_true]);unfold wpPlanF0 at h;by_cases hl:loud.contains i=true
  ·rw [if_pos hl,decide_eq_true_eq]at h1;rw [if_pos hl]at h;have hr:i∈Region.ready md ops listed:=by rw [h1];simp
   refine⟨fun h0=>(by rw [h0]at hr;cases hr),fun j hj=>?_⟩;rw [h1]at hj;obtain rfl:j=i:=by simpa using hj
   rw [if_pos (by simpa using hl)];rw [hl,Bool.not_true,Bool.false_or]at ht1;exact wpOp_mono (fun a' w' h'=>⟨h'.1,wpZ_planF hB hs hQ is _ a' w' (behind_of ht1 h'.1) (hc.set hr) ht2 h2 h'.2⟩) h
  ·rw [if_neg hl]at h1 h;simp only [Bool.and_eq_true,Bool.or_eq_true,List.all_eq_true]at h1;obtain⟨⟨hr,hf⟩,hw⟩:=h1;have hr':i∈Region.ready md ops listed:=by simpa using hr
   have hil:i ∉ loud:=by simpa using hl
   by_cases hpu:pure_.contains i=true
   ·rw [if_pos hpu]at h;obtain⟨o,v,ho,hy,hk⟩:=h;exact wpZ_if hB (Region.noSelect_spec hs) ho hil (by simpa using hpu) hQ is.depth listed a w (hS (by rw [PTree.any,hpu,Bool.true_or])) hc (Region.free_spec ho hf) hr' hy (wpZ_planF hB hs hQ is _ _ w hS' (hc.set hr') ht2 h2 hk)
   ·rw [if_neg hpu]at h;have hw':=hw.resolve_left hpu;obtain⟨_,o,ho,_⟩:=mem_ready.1 hr';obtain⟨v,hy,hk⟩:=yieldsAt_of_stOp ho h;exact wpZ_still hB (Region.noSelect_spec hs) ho hil is.depth listed a (fun j hj=>by simpa using hw' j hj) hc (Region.free_spec ho hf) hr' hy (wpZ_planF hB hs hQ is _ _ w hS' (hc.set hr') ht2 h2 hk)
 | .fork i j ti tj,listed,a,w,hS,hc,ht,hp,h=>by
  simp only [okF,Bool.and_eq_true,decide_eq_true_eq]at hp;obtain⟨⟨⟨⟨⟨li,lj⟩,hrd⟩,hd⟩,oi⟩,oj⟩:=hp;simp only [tillF,Bool.and_eq_true]at ht;obtain⟨⟨⟨t1,t2⟩,t3⟩,t4⟩:=ht;unfold wpPlanF0 at h;have hri:i∈Region.ready md ops listed:=by rw [hrd];simp
  have hrj:j∈Region.ready md ops listed:=by rw [hrd];simp
  refine⟨fun h0=>(by rw [h0]at hri;cases hri),fun k hk=>?_⟩;rw [hrd]at hk;have hk':k=i\/k=j:=by simpa using hk
  rcases hk' with rfl|rfl
  ·rw [if_pos (by simpa using li)];exact wpOp_mono (fun a' w' h'=>⟨h'.1,wpZ_planF hB hs hQ ti _ a' w' (behind_of t1 h'.1) (hc.set hri) t3 oi h'.2⟩) h.1
  ·rw [if_pos (by simpa using lj)];refine wpOp_mono (fun a' w' h'=>⟨h'.1,?_⟩) h.2;have:=wpZ_planF hB hs hQ tj _ a' w' (behind_of t2 h'.1) (hc.set hrj) t4 oj h'.2;rw [<-hd]at this;exact this
structure PlanF(P:Program)(ops:Array Oper)(loud pure_:List Nat)(S:World->Prop)(Q:Exit->Act->World->Prop)(is:PTree)(a:Act)(w:World):Prop where
 out:wpPlanF0 P ops (Region.before ops) loud pure_ S Q is a w
def planFB(ops:Array Oper)(loud pure_:List Nat)(is:PTree):Bool:=
 Region.noSelect ops&&waitB .any ops (Region.before ops)&&decide (is.depth=ops.size)&&okF .any ops loud pure_ (Region.before ops) is (Array.replicate ops.size false)&&tillF (Region.before ops) loud pure_ is
theorem wp_region_planF{id:Nat}{a:Act}{w:World}(loud pure_:List Nat)(is:PTree)(S:World->Prop)(hm:P.follows .mixedOrders=true)(hB:planFB ops loud pure_ is=true)
  (hQ:∀c a w d u,Q (.panic c) (a.put d u) w->Q (.panic c) a w)(hS:S w.drew)(h:PlanF P ops loud pure_ S Q is a w.drew):(Code.region id ops true).wp P Q a w:=by
 simp only [planFB,Bool.and_eq_true,decide_eq_true_eq]at hB;obtain⟨⟨⟨⟨hs,hw⟩,hl⟩,hp⟩,ht⟩:=hB;refine wp_region_any hm ?_;have:=wpZ_any _ _ _ _ (wpZ_planF (md:=.any) hw hs hQ is _ a w.drew (fun _=>hS) (fun j oj _ hl=>by rw [getD_replicate_false]at hl;cases hl) ht hp h.out);rw [hl]at this;exact this
theorem planF_read{i:Nat}{is:PTree}{o:Oper}{a:Act}{w:World}{v:Value}(hl:(!loud.contains i&&pure_.contains i)=true)(ho:ops[i]?=some o)(hg:Region.wanted o (yielded ops a.tmps)=true)
  (hr:∀w,S w->(execOp a.eval o).run P w=.ok (.value v) w)(h:∀K:Act->Prop,(∀a',PlanF P ops loud pure_ S Q is a' w->K a')->K (a.put o.dst v)):PlanF P ops loud pure_ S Q (.seq i is) a w:=by
 rw [Bool.and_eq_true,Bool.not_eq_true']at hl;refine⟨?_⟩;unfold wpPlanF0;rw [if_neg (by simpa using hl.1),if_pos hl.2];exact⟨o,v,ho,.inl ⟨hg,hr⟩,h _ (fun a' h'=>h'.out)⟩
theorem planF_loud{i:Nat}{is:PTree}{o:Oper}{a:Act}{w:World}(hl:loud.contains i=true)(ho:ops[i]?=some o)
  (h:∀K:Act->World->Prop,(∀a w,S w->PlanF P ops loud pure_ S Q is a w->K a w)->if Region.wanted o (yielded ops a.tmps)=true then Oper.wp P o a w K Q else K (a.put o.dst undef) w):PlanF P ops loud pure_ S Q (.seq i is) a w:=by
 refine⟨?_⟩;unfold wpPlanF0;rw [if_pos hl];exact wpOp_step ho (fun K hK=>h K (fun a w h1 h2=>hK a w ⟨fun _=>h1,h2.out⟩))
theorem planF_last{i:Nat}{is:PTree}{o:Oper}{a:Act}{w:World}(hl:(loud.contains i&&pure_.all fun p=>((Region.before ops).getD i 0).testBit p)=true)(ho:ops[i]?=some o)
  (h:∀K:Act->World->Prop,(∀a w,PlanF P ops loud pure_ S Q is a w->K a w)->if Region.wanted o (yielded ops a.tmps)=true then Oper.wp P o a w K Q else K (a.put o.dst undef) w):PlanF P ops loud pure_ S Q (.seq i is) a w:=by
 rw [Bool.and_eq_true,List.all_eq_true]at hl;refine⟨?_⟩;unfold wpPlanF0;rw [if_pos hl.1];exact wpOp_step ho (fun K hK=>h K (fun a w h2=>hK a w ⟨fun⟨p,hp,hq⟩=>(by rw [hl.2 p hp]at hq;cases hq),h2.out⟩))
theorem planF_fork{i j:Nat}{ti tj:PTree}{oi oj:Oper}{a:Act}{w:World}(hi:ops[i]?=some oi)(hj:ops[j]?=some oj)
  (h1:∀K:Act->World->Prop,(∀a w,S w->PlanF P ops loud pure_ S Q ti a w->K a w)->if Region.wanted oi (yielded ops a.tmps)=true then Oper.wp P oi a w K Q else K (a.put oi.dst undef) w)
  (h2:∀K:Act->World->Prop,(∀a w,S w->PlanF P ops loud pure_ S Q tj a w->K a w)->if Region.wanted oj (yielded ops a.tmps)=true then Oper.wp P oj a w K Q else K (a.put oj.dst undef) w):PlanF P ops loud pure_ S Q (.fork i j ti tj) a w:=by
 refine⟨?_⟩;unfold wpPlanF0;exact⟨wpOp_step hi (fun K hK=>h1 K (fun a w h1 h2=>hK a w ⟨fun _=>h1,h2.out⟩)),wpOp_step hj (fun K hK=>h2 K (fun a w h1 h2=>hK a w ⟨fun _=>h1,h2.out⟩))⟩
theorem planF_load{i:Nat}{is:PTree}{op:Oper}{a:Act}{w:World}(hl:(!loud.contains i&&pure_.contains i)=true)(ho:ops[i]?=some op)(ty:TypeId)(x:Operand)(hop:op.op=.load ty x)(hg:Region.wanted op (yielded ops a.tmps)=true)
  (b o:Nat)(hx:a.eval x=.pointer (some ⟨b,o,none⟩))(cs:List Value)(d:TypeDesc)(hS:∀w,S w->w.rangeAt b o cs)
  (hu:P.underlying ty=some d)(hd:d.isRow=true)(hi:(P.info? ty).map (·.size)=some cs.length)
  (h:∀K:Act->Prop,(∀a',PlanF P ops loud pure_ S Q is a' w->K a')->K (a.put op.dst (.agg cs.toArray))):PlanF P ops loud pure_ S Q (.seq i is) a w:=
 planF_read hl ho hg (fun w' hS'=>by
  unfold execOp;simp only [hop,hx,Instr.loadAt,Instr.sureAddr,Sem.run_bind,Sem.run_pure,Result.andThen_ok,run_loadVar_mid w' b o ty cs d (hS w' hS') hu hd hi]) h
theorem planF_one{i:Nat}{is:PTree}{op:Oper}{a:Act}{w:World}(hl:(!loud.contains i&&pure_.contains i)=true)(ho:ops[i]?=some op)(ty:TypeId)(x:Operand)(hop:op.op=.load ty x)(hg:Region.wanted op (yielded ops a.tmps)=true)
  (b o:Nat)(hx:a.eval x=.pointer (some ⟨b,o,none⟩))(v:Value)(d:TypeDesc)(hS:∀w,S w->w.cell? ⟨b,o,none⟩=some v)
  (hu:P.underlying ty=some d)(hd:d.isRow=false)
  (h:∀K:Act->Prop,(∀a',PlanF P ops loud pure_ S Q is a' w->K a')->K (a.put op.dst v)):PlanF P ops loud pure_ S Q (.seq i is) a w:=
 planF_read hl ho hg (fun w' hS'=>by
  unfold execOp;simp only [hop,hx,Instr.loadAt,Instr.sureAddr,Sem.run_bind,Sem.run_pure,Result.andThen_ok,run_loadVar_one w' _ ty v d (hS w' hS') hu hd]) h
theorem planF_done{a:Act}{w:World}(h:Q .normal a w):PlanF P ops loud pure_ S Q .nil a w:=⟨h⟩
end
end Go.Proofs.YtnnpoodcdibpiaaGreatDoor
namespace Go.Proofs.YtnnpoodcdibpiaaGreatDoor
open Go.RowKit
set_option maxRecDepth 100000
set_option maxHeartbeats 8000000
theorem Blk.setCells_(vs:List Value):∀(w:World) (g o:Nat) (t:TypeId) (pre old:List Value),Blk w g t (pre++old).toArray->pre.length=o->old.length=vs.length->Blk (w.setCells g o vs) g t (pre++vs).toArray:=by
 induction vs with
 | nil=>
  intro w g o t pre old h _ hl;obtain rfl:old=[]:=List.eq_nil_of_length_eq_zero hl;exact h
 | cons v vs ih=>
  intro w g o t pre old h hp hl;cases old with
  | nil=>simp at hl
  | cons x old=>
   have h1:=h.set_ o v;rw [List.setIfInBounds_toArray,List.set_append_right _ _ (by omega),hp,Nat.sub_self,List.set_cons_zero]at h1;have:=ih (w.setCell ⟨g,o,none⟩ v) g (o+1) t (pre++[v]) old (by simpa using h1) (by simp [hp]) (by simpa using hl);simpa [World.setCells]using this
theorem Mod.setCells_{S:Nat->Prop}{a:World}{g:Nat}(hg:S g\/a.heap.size<=g)(vs:List Value):∀(w:World) (o:Nat),Mod S a w->Mod S a (w.setCells g o vs):=by
 induction vs with
 | nil=>exact fun _ _ h=>h
 | cons v vs ih=>exact fun w o h=>ih _ _ (h.setCell (p:=⟨g,o,none⟩) hg v)
theorem Blk.there_{w:World}{g:Nat}{t:TypeId}{cs:Array Value}(h:Blk w g t cs)(n:Nat)(hn:n<=cs.size):w.there g 0 n:=fun j hj=>by
 rw [Nat.zero_add,h.cell j,h.both.2 j,Array.getElem?_eq_getElem (by omega)];exact⟨rfl,rfl⟩
theorem wp_store_row{P:Program}{op:Oper}{a:Act}{w:World}{K:Act->World->Prop}{Q:Exit->Act->World->Prop}(ty:TypeId)(x y:Operand)(ho:op.op=.store ty x y)
  (b:Nat)(cells:List Value)(hx:a.eval x=.pointer (some ⟨b,0,none⟩))(hy:a.eval y=.agg cells.toArray)(t:TypeId)(old:List Value)(hb:Blk w b t old.toArray)(hl:old.length=cells.length)
  (hi:(P.info? ty).map (·.size)=some cells.length)(h1:cells.toArray.all (·.oneCell')=true)
  (h:∀w',Blk w' b t cells.toArray->Mod (·=b) w w'->K (a.put op.dst undef) w'):op.wp P a w K Q:=by
 refine wp_store_mid ty x y ho b 0 cells.toArray hx hy (hb.there_ _ (by simp [hl])) (by simpa using hi) h1 (h _ ?_ (Mod.setCells_ (S:=fun x=>x=b) (.inl rfl) _ _ _ (Mod.refl _ _)));exact Blk.setCells_ cells w b 0 t [] old hb rfl hl
def packV(l:List UInt8)(i:Nat):Nat->Nat
 | 0=>0
 | k+1=>2*packV l i k+(l.getD (i+k) 0).toNat
def packTo(l:List UInt8)(j:Nat):List UInt8:=(List.range j).map fun t=>UInt8.ofNat (packV l (8*t) 8)
theorem packTo_length(l:List UInt8)(j:Nat):(packTo l j).length=j:=by simp [packTo]
def packL(l:List UInt8):List UInt8:=packTo l ((l.length+7)/8)
theorem packV_snoc(L:List UInt8)(b:UInt8)(i k:Nat):packV (L++[b]) i k=packV L i k+if i<=L.length/\L.length<i+k then b.toNat*2 ^ (i+k-1-L.length)else 0:=by
 induction k with
 | zero=>rw [if_neg (by omega)];rfl
 | succ k ih=>
  unfold packV;rw [ih];by_cases h1:i+k<L.length
  ·have e1:(L++[b]).getD (i+k) 0=L.getD (i+k) 0:=by simp [List.getD_eq_getElem?_getD,List.getElem?_append_left h1]
   rw [e1,if_neg (by omega),if_neg (by omega)];omega
  ·by_cases h2:i+k=L.length
   ·have e1:(L++[b]).getD (i+k) 0=b:=by simp [List.getD_eq_getElem?_getD,h2]
    have e2:L.getD (i+k) 0=0:=by simp [List.getD_eq_getElem?_getD,h2]
    rw [e1,e2,if_neg (by omega),if_pos (by omega),show i+(k+1)-1-L.length=0 by omega];have:(0:UInt8).toNat=0:=rfl;omega
   ·have e1:(L++[b]).getD (i+k) 0=0:=by simp [List.getD_eq_getElem?_getD,List.getElem?_eq_none (show(L++[b]).length<=i+k by simp;omega)]
    have e2:L.getD (i+k) 0=0:=by simp [List.getD_eq_getElem?_getD,List.getElem?_eq_none (show L.length<=i+k by omega)]
    rw [e1,e2];by_cases h3:i<=L.length
    ·rw [if_pos (by omega),if_pos (by omega),show i+(k+1)-1-L.length=i+k-1-L.length+1 by omega,Nat.pow_succ];generalize 2 ^ (i+k-1-L.length)=p;rw [<-Nat.mul_assoc];omega
    ·rw [if_neg (by omega),if_neg (by omega)];omega
theorem packL_length(L:List UInt8):(packL L).length=(L.length+7)/8:=packTo_length _ _
theorem packL_getD(L:List UInt8)(j:Nat)(hj:j<(L.length+7)/8):(packL L).getD j 0=UInt8.ofNat (packV L (8*j) 8):=by
 unfold packL packTo;rw [List.getD_eq_getElem?_getD,List.getElem?_map,List.getElem?_range hj];rfl
def BitsL(L:List UInt8):Prop:=∀i,(L.getD i 0).toNat<=1
theorem packV_bits{L:List UInt8}(h:BitsL L)(i k:Nat):packV L i k<2 ^ k:=by
 induction k with
 | zero=>simp [packV]
 | succ k ih=>
  have:=h (i+k);unfold packV;rw [Nat.pow_succ];omega
theorem packV_tail{L:List UInt8}(i k:Nat)(hl:L.length<=i+k):packV L i k % 2 ^ (i+k-L.length)=0:=by
 induction k with
 | zero=>simp [packV]
 | succ k ih=>
  by_cases h:L.length<=i+k
  ·have e2:L.getD (i+k) 0=0:=by simp [List.getD_eq_getElem?_getD,List.getElem?_eq_none h]
   have hz:(0:UInt8).toNat=0:=rfl;unfold packV;rw [e2,hz,Nat.add_zero,show i+(k+1)-L.length=i+k-L.length+1 by omega,Nat.pow_succ,Nat.mul_comm 2,Nat.mul_mod_mul_right,ih h,Nat.zero_mul]
  ·rw [show i+(k+1)-L.length=0 by omega];exact Nat.mod_one _
def padL(L:List UInt8):List UInt8:=if L.length % 8=0 then packL L++[0]else packL L
theorem padL_length(L:List UInt8):(padL L).length=L.length/8+1:=by
 unfold padL;split
 ·rw [List.length_append,packL_length,List.length_singleton];omega
 ·rw [packL_length];omega
theorem padL_getD(L:List UInt8):((padL L).getD (L.length/8) 0).toNat=packV L (8*(L.length/8)) 8 % 256:=by
 unfold padL;split
 ·rename_i h;rw [List.getD_eq_getElem?_getD,List.getElem?_append_right (by rw [packL_length];omega),packL_length,show L.length/8-(L.length+7)/8=0 by omega];have hv:packV L (8*(L.length/8)) 8=0:=by
   have h0:∀k,packV L (8*(L.length/8)) k=0:=by
    intro k
    induction k with
    | zero=>rfl
    | succ k ih=>
     have e2:L.getD (8*(L.length/8)+k) 0=0:=by simp [List.getD_eq_getElem?_getD,List.getElem?_eq_none (show L.length<=8*(L.length/8)+k by omega)]
     unfold packV;rw [ih,e2];rfl
   exact h0 8
  rw [hv];rfl
 ·rw [packL_getD L _ (by omega),UInt8.toNat_ofNat']
theorem packL_snoc{L:List UInt8}(h:BitsL L)(b:UInt8):
  packL (L++[b])=(padL L).set (L.length/8) (UInt8.ofNat (((padL L).getD (L.length/8) 0).toNat+b.toNat*2 ^ (7-L.length % 8))):=by
 apply List.ext_getElem?;intro j;by_cases hj:j<L.length/8+1
 ·have hl1:(packL (L++[b])).length=L.length/8+1:=by rw [packL_length];simp;omega
  have g1:=packL_getD (L++[b]) j (by simp;omega);rw [List.getElem?_set];by_cases e:L.length/8=j
  ·subst e;rw [if_pos rfl,if_pos (by rw [padL_length];omega),padL_getD];rw [List.getD_eq_getElem?_getD,List.getElem?_eq_getElem (by omega)]at g1;rw [List.getElem?_eq_getElem (by omega)];congr 1;have hv:=packV_bits h (8*(L.length/8)) 8;rw [Nat.mod_eq_of_lt (by simpa using hv)];rw [packV_snoc,if_pos (by omega),show 8*(L.length/8)+8-1-L.length=7-L.length % 8 by omega]at g1;exact g1
  ·rw [if_neg e];have e1:(padL L)[j]?=(packL L)[j]?:=by
    unfold padL;split
    ·rw [List.getElem?_append_left (by rw [packL_length];omega)]
    ·rfl
   have g2:=packL_getD L j (by omega);rw [packV_snoc,if_neg (by omega),Nat.add_zero,<-g2]at g1;rw [e1];rw [List.getD_eq_getElem?_getD,List.getD_eq_getElem?_getD]at g1;have hl2:j<(packL L).length:=by rw [packL_length];omega
   rw [List.getElem?_eq_getElem (by omega),List.getElem?_eq_getElem hl2]at g1 ⊢;exact congrArg some g1
 ·rw [List.getElem?_eq_none (by rw [packL_length];simp;omega),List.getElem?_eq_none (by rw [List.length_set,padL_length];omega)]
theorem padL_free{L:List UInt8}(h:BitsL L):∃m,((padL L).getD (L.length/8) 0).toNat=m*2 ^ (8-L.length % 8)/\m<2 ^ (L.length % 8):=by
 rw [padL_getD];have hv:=packV_bits h (8*(L.length/8)) 8;have ht:=packV_tail (L:=L) (8*(L.length/8)) 8 (by omega);rw [show 8*(L.length/8)+8-L.length=8-L.length % 8 by omega]at ht;rw [Nat.mod_eq_of_lt (by simpa using hv)];generalize packV L (8*(L.length/8)) 8=x at *;refine⟨x/2 ^ (8-L.length % 8),?_,?_⟩
 ·exact(Nat.div_mul_cancel (Nat.dvd_of_mod_eq_zero ht)).symm
 ·have hp:2 ^ 8=2 ^ (8-L.length % 8)*2 ^ (L.length % 8):=by rw [<-Nat.pow_add];congr 1;omega
  rw [hp]at hv;exact Nat.div_lt_of_lt_mul hv
theorem BitsL.snoc{L:List UInt8}(h:BitsL L){b:UInt8}(hb:b.toNat<=1):BitsL (L++[b]):=by
 intro i;rw [List.getD_eq_getElem?_getD];by_cases hi:i<L.length
 ·rw [List.getElem?_append_left hi,<-List.getD_eq_getElem?_getD];exact h i
 ·rw [List.getElem?_append_right (by omega)];by_cases e:i=L.length
  ·subst e;simpa using hb
  ·rw [List.getElem?_eq_none (by simp;omega)];decide
end Go.Proofs.YtnnpoodcdibpiaaGreatDoor
