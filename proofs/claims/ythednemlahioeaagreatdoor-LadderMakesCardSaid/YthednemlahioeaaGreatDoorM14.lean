/-
  As XPlanT; but where two operations that write or make may come up in either order, both ways are walked (a tree of a plan).
-/
import Derived.Test.YthednemlahioeaaGreatDoorM12
namespace Go.Proofs.YthednemlahioeaaGreatDoor
open Region renaming Mode→Wv,ready→Zj,noSelect→Vv,noSelect_spec→XQ,free_spec→WY,before→Yo,wanted→ZH
open Bool renaming not_true→VM,false_or→VL,not_eq_true'→Xy,and_eq_true→ZT
set_option maxRecDepth 100000
set_option maxHeartbeats 8000000
inductive PTree where
 | nil
 | seq (i:Nat) (t:PTree)
 | fork (i j:Nat) (ti tj:PTree)
namespace PTree
def depth:PTree->Nat
 | .nil=>0
 | .seq _ t=>t.depth+1
 | .fork _ _ t _=>t.depth+1
def any(p:Nat->Bool):PTree->Bool
 | .nil=>false
 | .seq i t=>p i || t.any p
 | .fork i j ti tj=>p i || p j || ti.any p || tj.any p
def after:List Nat->PTree->PTree
 | [],t=>t
 | i :: is,t=>.seq i (after is t)
end PTree
section
variable {P : Program} {ops : Array Oper} {md : Wv} {B : Array Nat} {loud ZO : List Nat} {S : World → Prop} {Q : Exit → Act → World → Prop}
def UK(P:Program)(ops:Array Oper)(B:Array Nat)(loud ZO:List Nat)(S:World->Prop)(Q:Exit->Act->World->Prop):PTree->Act->World->Prop
 | .nil,a,w=>Q .normal a w
 | .seq i is,a,w=>if loud.contains i then wpOp P ops Q i (fun a' w'=>(Behind B ZO i->S w')/\UK P ops B loud ZO S Q is a' w') a w
  else if ZO.contains i then ∃o v,ops[i]?=some o/\YieldsIf P ops S o v a/\UK P ops B loud ZO S Q is (a.put o.dst v) w
  else stOp P ops w i (fun a'=>UK P ops B loud ZO S Q is a' w) a
 | .fork i j ti tj,a,w=>wpOp P ops Q i (fun a' w'=>(Behind B ZO i->S w')/\UK P ops B loud ZO S Q ti a' w') a w/\wpOp P ops Q j (fun a' w'=>(Behind B ZO j->S w')/\UK P ops B loud ZO S Q tj a' w') a w
def okF(md:Wv)(ops:Array Oper)(loud ZO:List Nat)(B:Array Nat):PTree->Array Bool->Bool
 | .nil,listed=>decide (Zj md ops listed=[])
 | .seq i is,listed=>
   (if loud.contains i then decide (Zj md ops listed=[i])
    else(Zj md ops listed).contains i&&Region.free md ops listed i&&(ZO.contains i || loud.all fun j=>(B.getD j 0).testBit i || listed.getD j true)) &&
   okF md ops loud ZO B is (listed.setIfInBounds i true)
 | .fork i j ti tj,listed=>loud.contains i&&loud.contains j&&decide (Zj md ops listed=[i,j])&&decide (ti.depth=tj.depth) &&
   okF md ops loud ZO B ti (listed.setIfInBounds i true)&&okF md ops loud ZO B tj (listed.setIfInBounds j true)
def Et(B:Array Nat)(loud ZO:List Nat):PTree->Bool
 | .nil=>true
 | .seq i is=>(!loud.contains i || !(is.any fun k=>ZO.contains k) || ZO.any fun p=>!(B.getD i 0).testBit p)&&Et B loud ZO is
 | .fork i j ti tj=>(!(ti.any fun k=>ZO.contains k) || ZO.any fun p=>!(B.getD i 0).testBit p)&&(!(tj.any fun k=>ZO.contains k) || ZO.any fun p=>!(B.getD j 0).testBit p)&&Et B loud ZO ti&&Et B loud ZO tj
theorem F5{i:Nat}{b:Bool}{w':World}(ht:(!b || ZO.any fun p=>!(B.getD i 0).testBit p)=true)(hb:Behind B ZO i->S w')(ha:b=true):S w':=hb (by
 rw [ha]at ht;simp only [VM,VL,List.any_eq_true,Xy]at ht;obtain⟨p,hp,hq⟩:=ht;exact⟨p,hp,hq⟩)
theorem OM(hB:N7 md ops B=true)(hs:Vv ops=true)(hQ:∀c a w d u,Q (.panic c) (a.put d u) w->Q (.panic c) a w):
  ∀(is:PTree) (listed:Array Bool) (a:Act) (w:World),((is.any fun k=>ZO.contains k)=true->S w)->Closed md ops listed->Et B loud ZO is=true->okF md ops loud ZO B is listed=true->UK P ops B loud ZO S Q is a w->pM P md ops B loud ZO S Q is.depth listed a w
 | .nil,listed,a,w,_,hc,_,hp,h=>⟨by simpa [okF]using hp,h⟩
 | .seq i is,listed,a,w,hS,hc,ht,hp,h=>by
  simp only [okF,ZT]at hp;obtain⟨h1,h2⟩:=hp;rw [Et,ZT]at ht;obtain⟨uL,DJ⟩:=ht;have ES:(is.any fun k=>ZO.contains k)=true->S w:=fun h=>hS (by rw [PTree.any,h,Bool.or_true]);unfold UK at h;by_cases hl:loud.contains i=true
  ·rw [if_pos hl,decide_eq_true_eq]at h1;rw [if_pos hl]at h;have hr:i∈Zj md ops listed:=by rw [h1];simp
   refine⟨fun h0=>(by rw [h0]at hr;cases hr),fun j hj=>?_⟩;rw [h1]at hj;obtain rfl:j=i:=by simpa using hj
   rw [if_pos (by simpa using hl)];rw [hl,VM,VL]at uL;exact wpOp_mono (fun a' w' h'=>⟨h'.1,OM hB hs hQ is _ a' w' (F5 uL h'.1) (hc.set hr) DJ h2 h'.2⟩) h
  ·rw [if_neg hl]at h1 h;simp only [ZT,Bool.or_eq_true,List.all_eq_true]at h1;obtain⟨⟨hr,hf⟩,hw⟩:=h1;have Lp:i∈Zj md ops listed:=by simpa using hr
   have JC:i ∉ loud:=by simpa using hl
   by_cases EW:ZO.contains i=true
   ·rw [if_pos EW]at h;obtain⟨o,v,ho,hy,hk⟩:=h;exact vg hB (XQ hs) ho JC (by simpa using EW) hQ is.depth listed a w (hS (by rw [PTree.any,EW,Bool.true_or])) hc (WY ho hf) Lp hy (OM hB hs hQ is _ _ w ES (hc.set Lp) DJ h2 hk)
   ·rw [if_neg EW]at h;have hw':=hw.resolve_left EW;obtain⟨_,o,ho,_⟩:=mem_ready.1 Lp;obtain⟨v,hy,hk⟩:=yieldsAt_of_stOp ho h;exact GG hB (XQ hs) ho JC is.depth listed a (fun j hj=>by simpa using hw' j hj) hc (WY ho hf) Lp hy (OM hB hs hQ is _ _ w ES (hc.set Lp) DJ h2 hk)
 | .fork i j ti tj,listed,a,w,hS,hc,ht,hp,h=>by
  simp only [okF,ZT,decide_eq_true_eq]at hp;obtain⟨⟨⟨⟨⟨li,lj⟩,hrd⟩,hd⟩,oi⟩,oj⟩:=hp;simp only [Et,ZT]at ht;obtain⟨⟨⟨t1,t2⟩,t3⟩,t4⟩:=ht;unfold UK at h;have aH:i∈Zj md ops listed:=by rw [hrd];simp
  have hrj:j∈Zj md ops listed:=by rw [hrd];simp
  refine⟨fun h0=>(by rw [h0]at aH;cases aH),fun k hk=>?_⟩;rw [hrd]at hk;have hk':k=i\/k=j:=by simpa using hk
  rcases hk' with rfl|rfl
  ·rw [if_pos (by simpa using li)];exact wpOp_mono (fun a' w' h'=>⟨h'.1,OM hB hs hQ ti _ a' w' (F5 t1 h'.1) (hc.set aH) t3 oi h'.2⟩) h.1
  ·rw [if_pos (by simpa using lj)];refine wpOp_mono (fun a' w' h'=>⟨h'.1,?_⟩) h.2;have:=OM hB hs hQ tj _ a' w' (F5 t2 h'.1) (hc.set hrj) t4 oj h'.2;rw [<-hd]at this;exact this
structure R8(P:Program)(ops:Array Oper)(loud ZO:List Nat)(S:World->Prop)(Q:Exit->Act->World->Prop)(is:PTree)(a:Act)(w:World):Prop where
 out:UK P ops (Yo ops) loud ZO S Q is a w
def uS(ops:Array Oper)(loud ZO:List Nat)(is:PTree):Bool:=
 Vv ops&&N7 .any ops (Yo ops)&&decide (is.depth=ops.size)&&okF .any ops loud ZO (Yo ops) is (Array.replicate ops.size false)&&Et (Yo ops) loud ZO is
theorem WG{id:Nat}{a:Act}{w:World}(loud ZO:List Nat)(is:PTree)(S:World->Prop)(hm:P.follows .mixedOrders=true)(hB:uS ops loud ZO is=true)
  (hQ:∀c a w d u,Q (.panic c) (a.put d u) w->Q (.panic c) a w)(hS:S w.drew)(h:R8 P ops loud ZO S Q is a w.drew):(Code.region id ops true).wp P Q a w:=by
 simp only [uS,ZT,decide_eq_true_eq]at hB;obtain⟨⟨⟨⟨hs,hw⟩,hl⟩,hp⟩,ht⟩:=hB;refine wp_region_any hm ?_;have:=IQ _ _ _ _ (OM (md:=.any) hw hs hQ is _ a w.drew (fun _=>hS) (fun j oj _ hl=>by rw [getD_replicate_false]at hl;cases hl) ht hp h.out);rw [hl]at this;exact this
theorem aaX{i:Nat}{is:PTree}{o:Oper}{a:Act}{w:World}(hl:(loud.contains i || ZO.contains i)=false)(ho:ops[i]?=some o)
  (h:∀K:Act->Prop,(∀a',R8 P ops loud ZO S Q is a' w->K a')->if ZH o (yielded ops a.tmps)then o.still P a w K else K (a.put o.dst undef)):R8 P ops loud ZO S Q (.seq i is) a w:=by
 rw [Bool.or_eq_false_iff]at hl;refine⟨?_⟩;unfold UK;rw [if_neg (by simpa using hl.1),if_neg (by simpa using hl.2)];unfold stOp;simp only [ho];exact h _ (fun a' h'=>h'.out)
theorem Yu{i:Nat}{is:PTree}{o:Oper}{a:Act}{w:World}{v:Value}(hl:(!loud.contains i&&ZO.contains i)=true)(ho:ops[i]?=some o)(hg:ZH o (yielded ops a.tmps)=true)
  (hr:∀w,S w->(execOp a.eval o).run P w=.ok (.value v) w)(h:∀K:Act->Prop,(∀a',R8 P ops loud ZO S Q is a' w->K a')->K (a.put o.dst v)):R8 P ops loud ZO S Q (.seq i is) a w:=by
 rw [ZT,Xy]at hl;refine⟨?_⟩;unfold UK;rw [if_neg (by simpa using hl.1),if_pos hl.2];exact⟨o,v,ho,.inl ⟨hg,hr⟩,h _ (fun a' h'=>h'.out)⟩
theorem YO{i:Nat}{is:PTree}{o:Oper}{a:Act}{w:World}(hl:loud.contains i=true)(ho:ops[i]?=some o)
  (h:∀K:Act->World->Prop,(∀a w,S w->R8 P ops loud ZO S Q is a w->K a w)->if ZH o (yielded ops a.tmps)=true then Oper.wp P o a w K Q else K (a.put o.dst undef) w):R8 P ops loud ZO S Q (.seq i is) a w:=by
 refine⟨?_⟩;unfold UK;rw [if_pos hl];exact wpOp_step ho (fun K hK=>h K (fun a w h1 h2=>hK a w ⟨fun _=>h1,h2.out⟩))
theorem Wm{i:Nat}{is:PTree}{o:Oper}{a:Act}{w:World}(hl:(loud.contains i&&ZO.all fun p=>((Yo ops).getD i 0).testBit p)=true)(ho:ops[i]?=some o)
  (h:∀K:Act->World->Prop,(∀a w,R8 P ops loud ZO S Q is a w->K a w)->if ZH o (yielded ops a.tmps)=true then Oper.wp P o a w K Q else K (a.put o.dst undef) w):R8 P ops loud ZO S Q (.seq i is) a w:=by
 rw [ZT,List.all_eq_true]at hl;refine⟨?_⟩;unfold UK;rw [if_pos hl.1];exact wpOp_step ho (fun K hK=>h K (fun a w h2=>hK a w ⟨fun⟨p,hp,hq⟩=>(by rw [hl.2 p hp]at hq;cases hq),h2.out⟩))
theorem Vd{i j:Nat}{ti tj:PTree}{oi oj:Oper}{a:Act}{w:World}(hi:ops[i]?=some oi)(hj:ops[j]?=some oj)
  (h1:∀K:Act->World->Prop,(∀a w,S w->R8 P ops loud ZO S Q ti a w->K a w)->if ZH oi (yielded ops a.tmps)=true then Oper.wp P oi a w K Q else K (a.put oi.dst undef) w)
  (h2:∀K:Act->World->Prop,(∀a w,S w->R8 P ops loud ZO S Q tj a w->K a w)->if ZH oj (yielded ops a.tmps)=true then Oper.wp P oj a w K Q else K (a.put oj.dst undef) w):R8 P ops loud ZO S Q (.fork i j ti tj) a w:=by
 refine⟨?_⟩;unfold UK;exact⟨wpOp_step hi (fun K hK=>h1 K (fun a w h1 h2=>hK a w ⟨fun _=>h1,h2.out⟩)),wpOp_step hj (fun K hK=>h2 K (fun a w h1 h2=>hK a w ⟨fun _=>h1,h2.out⟩))⟩
theorem TS{i:Nat}{is:PTree}{op:Oper}{a:Act}{w:World}(hl:(!loud.contains i&&ZO.contains i)=true)(ho:ops[i]?=some op)(ty:TypeId)(x:Operand)(hop:op.op=.load ty x)(hg:ZH op (yielded ops a.tmps)=true)
  (b o:Nat)(hx:a.eval x=↑(ZC b o))(cs:List Value)(d:TypeDesc)(hS:∀w,S w->w.rangeAt b o cs)
  (hu:P.underlying ty=some d)(hd:d.isRow=true)(hi:(P.info? ty).map (·.size)=some cs.length)
  (h:∀K:Act->Prop,(∀a',R8 P ops loud ZO S Q is a' w->K a')->K (a.put op.dst (.agg cs.toArray))):R8 P ops loud ZO S Q (.seq i is) a w:=
 Yu hl ho hg (fun w' ES=>by
  unfold execOp;simp only [hop,hx,Instr.loadAt,Instr.sureAddr,Sem.run_bind,Sem.run_pure,Result.andThen_ok,run_loadVar_mid w' b o ty cs d (hS w' ES) hu hd hi]) h
theorem Ww{i:Nat}{is:PTree}{op:Oper}{a:Act}{w:World}(hl:(!loud.contains i&&ZO.contains i)=true)(ho:ops[i]?=some op)(ty:TypeId)(x:Operand)(hop:op.op=.load ty x)(hg:ZH op (yielded ops a.tmps)=true)
  (b o:Nat)(hx:a.eval x=↑(ZC b o))(v:Value)(d:TypeDesc)(hS:∀w,S w->w.cell? ⟨b,o,none⟩=some v)
  (hu:P.underlying ty=some d)(hd:d.isRow=false)
  (h:∀K:Act->Prop,(∀a',R8 P ops loud ZO S Q is a' w->K a')->K (a.put op.dst v)):R8 P ops loud ZO S Q (.seq i is) a w:=
 Yu hl ho hg (fun w' ES=>by
  unfold execOp;simp only [hop,hx,Instr.loadAt,Instr.sureAddr,Sem.run_bind,Sem.run_pure,Result.andThen_ok,PD w' _ ty v d (hS w' ES) hu hd]) h
theorem Iy{i:Nat}{is:PTree}{o:Oper}{a a':Act}{w:World}(h:R8 P ops loud ZO S Q is a' w)(hl:(loud.contains i || ZO.contains i)=false:=by exact rfl)(ho:ops[i]?=some o:=by exact rfl)
  (hs:∀K:Act->Prop,K a'->if ZH o (yielded ops a.tmps)then o.still P a w K else K (a.put o.dst undef):=by intro K hK;go_simp;exact hK):R8 P ops loud ZO S Q (.seq i is) a w:=
 aaX hl ho (fun K hK=>hs K (hK _ h))
theorem Zh{i:Nat}{is:PTree}{o:Oper}{a a':Act}{w:World}{v:Value}(h:R8 P ops loud ZO S Q is a' w)(hl:(!loud.contains i&&ZO.contains i)=true:=by exact rfl)(ho:ops[i]?=some o:=by exact rfl)(hg:ZH o (yielded ops a.tmps)=true:=by exact rfl)
  (hr:∀w,S w->(execOp a.eval o).run P w=.ok (.value v) w:=by exact fun _ _=>rfl)(hk:∀K:Act->Prop,K a'->K (a.put o.dst v):=by intro K hK;go_simp;exact hK):R8 P ops loud ZO S Q (.seq i is) a w:=
 Yu hl ho hg hr (fun K hK=>hk K (hK _ h))
theorem XC{a:Act}{w:World}(h:Q .normal a w):R8 P ops loud ZO S Q .nil a w:=⟨h⟩
end
end Go.Proofs.YthednemlahioeaaGreatDoor
namespace Go.Proofs.YthednemlahioeaaGreatDoor
open Go.RowKit
open List renaming getD_eq_getElem?_getD→Z6,getElem?_eq_none→Zi,getElem?_append_left→Zv,length_append→YW,length_singleton→V3,getElem?_append_right→ZF,getElem?_eq_getElem→ZP,append_assoc→SV,replicate→ZM,length_replicate→XH,drop_of_length_le→TM,getElem?_toArray→Zo
open Nat renaming pow_succ→XF,pow_le_pow_right→Xx,lt_of_lt_of_le→ZB,add_zero→WV,mul_comm→YA,mod_eq_of_lt→XU,mul_le_mul_right→YE,le_trans→ZQ,le_refl→ZY
open UInt8 renaming toNat_lt→ZN,ofNat→Zl,toNat_ofNat'→Yq
open Lib renaming hid→Z7
open And renaming intro→Z9
open BitVec renaming ofInt→YI,toNat_ofInt→Xe
open IntWalk renaming u64_in→Ub,u8_in→Vk,i64_in→Z4
open Go.Proofs.Tryz
set_option maxRecDepth 100000
set_option maxHeartbeats 8000000
theorem ZI.GA(vs:List Value):∀(w:World) (g o:Nat) (t:TypeId) (pre old:List Value),ZI w g t (pre++old).toArray->pre.length=o->old.length=vs.length->ZI (w.setCells g o vs) g t (pre++vs).toArray:=by
 induction vs with
 | nil=>
  intro w g o t pre old h _ hl;obtain rfl:old=[]:=List.eq_nil_of_length_eq_zero hl;exact h
 | cons v vs ih=>
  intro w g o t pre old h hp hl;cases old with
  | nil=>simp at hl
  | cons x old=>
   have h1:=h.UY o v;rw [List.setIfInBounds_toArray,List.set_append_right _ _ Z8,hp,Nat.sub_self,List.set_cons_zero]at h1;have:=ih (w.setCell ⟨g,o,none⟩ v) g (o+1) t (pre++[v]) old (by simpa using h1) (by simp [hp]) (by simpa using hl);simpa [World.setCells]using this
theorem Mod.GA{S:Nat->Prop}{a:World}{g:Nat}(hg:S g\/a.heap.size<=g)(vs:List Value):∀(w:World) (o:Nat),Mod S a w->Mod S a (w.setCells g o vs):=by
 induction vs with
 | nil=>exact fun _ _ h=>h
 | cons v vs ih=>exact fun w o h=>ih _ _ (h.setCell (p:=⟨g,o,none⟩) hg v)
theorem ZI.afM{w:World}{g:Nat}{t:TypeId}{cs:Array Value}(h:ZI w g t cs)(n:Nat)(hn:n<=cs.size):w.there g 0 n:=fun j hj=>by
 rw [Nat.zero_add,h.cell j,h.both.2 j,Array.getElem?_eq_getElem Z8];exact⟨rfl,rfl⟩
theorem wp_store_row{P:Program}{op:Oper}{a:Act}{w:World}{K:Act->World->Prop}{Q:Exit->Act->World->Prop}(ty:TypeId)(x y:Operand)(ho:op.op=.store ty x y)
  (b:Nat)(cells:List Value)(hx:a.eval x=↑(ZC b 0))(hy:a.eval y=.agg cells.toArray)(t:TypeId)(old:List Value)(hb:ZI w b t old.toArray)(hl:old.length=cells.length)
  (hi:(P.info? ty).map (·.size)=some cells.length)(h1:cells.toArray.all (·.oneCell')=true)
  (h:∀w',ZI w' b t cells.toArray->Mod (·=b) w w'->K (a.put op.dst undef) w'):op.wp P a w K Q:=by
 refine wp_store_mid ty x y ho b 0 cells.toArray hx hy (hb.afM _ (by simp [hl])) (by simpa using hi) h1 (h _ ?_ (Mod.GA (S:=fun x=>x=b) (.inl rfl) _ _ _ (Mod.refl _ _)));exact ZI.GA cells w b 0 t [] old hb rfl hl
def Vb(l:List UInt8)(i:Nat):Nat->Nat
 | 0=>0
 | k+1=>2*Vb l i k+(l.getD (i+k) 0).toNat
theorem ac9(l:List UInt8)(i k:Nat):Vb l i k<=255*(2 ^ k-1):=by
 induction k with
 | zero=>simp [Vb]
 | succ k ih=>
  have:=ZN (l.getD (i+k) 0);have h2:0<2 ^ k:=Nat.pos_of_ne_zero Ze;unfold Vb;rw [XF];omega
theorem ada(l:List UInt8)(i k:Nat)(hk:k<=8):Vb l i k<=65025:=by
 have h:=ac9 l i k;have h2:2 ^ k<=2 ^ 8:=Xx Z8 hk;simp only [Nat.reducePow]at h2;omega
def Pz(l:List UInt8)(j:Nat):List UInt8:=(List.range j).map fun t=>Zl (Vb l (8*t) 8)
theorem aaY(l:List UInt8)(j:Nat):Pz l (j+1)=Pz l j++[Zl (Vb l (8*j) 8)]:=by simp [Pz,List.range_succ]
theorem Qi(l:List UInt8)(j:Nat):(Pz l j).length=j:=by simp [Pz]
def TA(l:List UInt8):List UInt8:=Pz l ((l.length+7)/8)
def aez(w:World)(l:List UInt8)(v i:Value)(wr:World):Prop:=
 ∃j:Nat,j<=(l.length+7)/8/\i=↑(8*j:Nat)/\Bytes wr w.heap.size v (Pz l j)/\Mod ↑ZW w wr
def af1(l:List UInt8)(i:Nat)(v kv:Value):Prop:=∃k:Nat,k<=8/\kv=↑k/\v=.int .u64 (Vb l i k:Int)
theorem tH(w:World)(A:Option Addr)(n c:Nat)(l:List UInt8)(YZ:BytesIn w A n c l)(JD:0<n)(hn:n<=1048576):
  Calls prog 164 #[.slice A n c] w fun e w'=>∃s,e=.returned s/\Bytes w' w.heap.size s (TA l)/\Mod ↑ZW w w':=by
 obtain⟨i0,hi0,hz0,hz1,hz2⟩:=info_parts Pf;obtain rfl:l.length=n:=YZ.1;obtain⟨b,off,rfl,hb,hc⟩:=YZ.place JD;have HC:=Z7 hc;clear hc YZ;go_enter func164,ntmps164;go_wp2_with fail;go_loopw [3,4] (aez w l) (fun _ i _=>l.length+8-(intOf i).toNat)
 case atStart=>exact⟨0,Z8,rfl,World.ownsRow_nil _ _ _ _,Mod.refl _ _⟩
 case round=>
  obtain⟨j,hj,rfl,hrow,hM⟩:=hrel;obtain⟨A5,c5,hv5⟩:=ZG hrow;subst hv5;rw [Qi]at *;have HJ:Hid (8*j=8*j):=rfl;obtain⟨i,hi⟩:=ZL (8*j);rw [<-hi];have HI:=Z7 hi;by_cases hlt:i<l.length
  ·have hrow':wr.ownsRow w.heap.size 5 1 (.slice A5 j c5) j (Yw (Pz l j)):=by
    unfold Bytes at hrow;rwa [Qi]at hrow
   have HB:=Z5 hrow' hM;have lW:b<wr.heap.size:=ZB hb hM.size;have hcell:∀k,k<l.length->wr.cell? ⟨b,off+k,none⟩=some (.int .u8 ((l.getD k 0).toNat:Int)):=fun k hk=>(World.cell?_of_block (hM.block b hb (fun h=>h))).trans (HC.out k hk);have gI:=Z7 hcell;have q1:j+1<=maxLen:=by unfold maxLen;omega
   have q2:(j+1)*1<=140737488355328:=Z8;have HX:=Z5 q1 q2;clear hrow hrow' hM hcell q1 q2 hi;go_wp2_with fail;go_loop [5,6] (af1 l i) (fun _ k=>8-(intOf k).toNat)
   case atStart=>exact⟨0,Z8,rfl,by simp [Vb]⟩
   case round=>
    obtain⟨k,hk,rfl,rfl⟩:=hrel;have LG:=ada l i k hk;have HS:Hid (Vb l i (k+1)=2*Vb l i k+(l.getD (i+k) 0).toNat):=rfl;by_cases hk8:k<8
    ·by_cases YZ:i+k<l.length
     ·have M9:=gI.out (i+k) YZ;have hx:(l.getD (i+k) 0).toNat<256:=ZN _;generalize (l.getD (i+k) 0).toNat=x at *;generalize Vb l i k=p at *;obtain⟨t,e1,e2⟩:∃t:Nat,(i:Int)+(k:Int)=(t:Int)/\i+k=t:=⟨i+k,Z8,rfl⟩
      have i1:(0:Int)<=(t:Int):=Z8;have i2:(t:Int)<(l.length:Int):=Z8;rw [e2]at M9;clear e2;go_wp2_with fail;go_round
      case rel=>exact⟨k+1,Z8,Zr,by rw [HS.out];go_num⟩
      case measure=>exact YD
     ·have hz:(l.getD (i+k) 0).toNat=0:=by simp [Z6,Zi (show l.length<=i+k by omega)]
      rw [hz]at HS;clear hz;generalize Vb l i k=p at *;obtain⟨t,e1,e2⟩:∃t:Nat,(i:Int)+(k:Int)=(t:Int)/\i+k=t:=⟨i+k,Z8,rfl⟩
      have i2:¬(t:Int)<(l.length:Int):=Z8;clear e2;go_wp2_with fail;go_round
      case rel=>exact⟨k+1,Z8,Zr,by rw [HS.out];go_num⟩
      case measure=>exact YD
    ·obtain rfl:k=8:=Z8;clear HS;have HV:Hid (Vb l i 8=Vb l (8*j) 8):=by show _=_;rw [HI.out]
     generalize Vb l i 8=p at *;have e9:(Zl p).toNat=p % 256:=Ze;have HE:=Z7 e9;clear e9;have HY:=Z5 (XT HB.out.1 ((Mod.refl ↑ZW wr).alloc (.cells #[.int .u8 ((p:Int) % 256)] 5)) (fun _ _ h=>h)) (Z9 (Src.new wr 5 [.int .u8 ((p:Int) % 256)]) (show w.heap.size<=(wr.alloc (.cells #[.int .u8 ((p:Int) % 256)] 5)).heap.size by have:=HB.out.2.size;simp;omega));go_wp2_with (at_builtin;have _t:=HX;refine Wo _ rfl (.tmp 34) (.tmp 37) _ rfl w.heap.size 5 i0 _ 1 1 underlying54 hi0 hz0 hz1 hz2 rfl Z8 (.slice A5 j c5) j (Yw (Pz l j)) rfl HY.out.1 (some ↑wr.heap.size) 1 1 [.int .u8 ((p:Int) % 256)] rfl HY.out.2.1 (fun h=>by cases h) (fun u hu=>by rw [List.mem_singleton.1 hu];rfl) HX.out.1 HX.out.2 HY.out.2.2 ?_;intro v4 w4 Ws hg4 Dm;clear HX _t)
     have HO:=Z5 Ws (Z9 hg4 Dm);clear Ws hg4 Dm;go_wp2_with fail;go_roundw
     case rel=>
      obtain⟨Ws,hg4,Dm⟩:=HO.out;have Ma:Mod (fun j2=>(Value.slice A5 j c5).ownBlock=some j2) wr w4:=((Mod.refl _ _).alloc _).grown hg4 (fun j hj=>.inl hj);refine⟨j+1,by have:=HI.out;omega,by have:=HI.out;go_num,?_,HB.out.2.into Ma (fun i e=>.inr (HB.out.1.lt i e).1)⟩;have e8:Yw (Pz l (j+1))=Yw (Pz l j)++[.int .u8 ((p:Int) % 256)]:=by
       rw [aaY,<-HV.out];simp [Yw]
      unfold Bytes;rw [e8,Qi];exact Ws
     case measure=>have:=HI.out;simp [intOf];omega
  ·have HF:=Z5 hrow hM;clear hrow hM;go_wp2_with fail;go_ret;have hj2:j=(l.length+7)/8:=Z8;refine⟨_,rfl,?_,HF.out.2⟩;have:=HF.out.1;unfold TA;rw [<-hj2];exact this
theorem D7(L:List UInt8)(b:UInt8)(i k:Nat):Vb (L++[b]) i k=Vb L i k+if i<=L.length/\L.length<i+k then b.toNat*2 ^ (i+k-1-L.length)else 0:=by
 induction k with
 | zero=>rw [Xb];rfl
 | succ k ih=>
  unfold Vb;rw [ih];by_cases h1:i+k<L.length
  ·have e1:(L++[b]).getD (i+k) 0=L.getD (i+k) 0:=by simp [Z6,Zv h1]
   rw [e1,Xb,Xb];omega
  ·by_cases h2:i+k=L.length
   ·have e1:(L++[b]).getD (i+k) 0=b:=by simp [Z6,h2]
    have e2:L.getD (i+k) 0=0:=by simp [Z6,h2]
    rw [e1,e2,Xb,VI,show i+(k+1)-1-L.length=0 by omega];have:(0:UInt8).toNat=0:=rfl;omega
   ·have e1:(L++[b]).getD (i+k) 0=0:=by simp [Z6,Zi (show(L++[b]).length<=i+k by simp;omega)]
    have e2:L.getD (i+k) 0=0:=by simp [Z6,Zi (show L.length<=i+k by omega)]
    rw [e1,e2];by_cases h3:i<=L.length
    ·rw [VI,VI,show i+(k+1)-1-L.length=i+k-1-L.length+1 by omega,XF];generalize 2 ^ (i+k-1-L.length)=p;rw [<-Nat.mul_assoc];omega
    ·rw [Xb,Xb];omega
theorem VQ(L:List UInt8):(TA L).length=(L.length+7)/8:=Qi _ _
theorem Jm(L:List UInt8)(j:Nat)(hj:j<(L.length+7)/8):(TA L).getD j 0=Zl (Vb L (8*j) 8):=by
 unfold TA Pz;rw [Z6,List.getElem?_map,List.getElem?_range hj];rfl
def CJ(L:List UInt8):Prop:=∀i,(L.getD i 0).toNat<=1
theorem D6{L:List UInt8}(h:CJ L)(i k:Nat):Vb L i k<2 ^ k:=by
 induction k with
 | zero=>simp [Vb]
 | succ k ih=>
  have:=h (i+k);unfold Vb;rw [XF];omega
theorem abv{L:List UInt8}(i k:Nat)(hl:L.length<=i+k):Vb L i k % 2 ^ (i+k-L.length)=0:=by
 induction k with
 | zero=>simp [Vb]
 | succ k ih=>
  by_cases h:L.length<=i+k
  ·have e2:L.getD (i+k) 0=0:=by simp [Z6,Zi h]
   have hz:(0:UInt8).toNat=0:=rfl;unfold Vb;rw [e2,hz,WV,show i+(k+1)-L.length=i+k-L.length+1 by omega,XF,YA 2,Nat.mul_mod_mul_right,ih h,Nat.zero_mul]
  ·rw [show i+(k+1)-L.length=0 by omega];exact Nat.mod_one _
def JS(L:List UInt8):List UInt8:=if L.length % 8=0 then TA L++[0]else TA L
theorem K5(L:List UInt8):(JS L).length=L.length/8+1:=by
 unfold JS;split
 ·rw [YW,VQ,V3];omega
 ·rw [VQ];omega
theorem BK(L:List UInt8):((JS L).getD (L.length/8) 0).toNat=Vb L (8*(L.length/8)) 8 % 256:=by
 unfold JS;split
 ·rename_i h;rw [Z6,ZF (by rw [VQ];omega),VQ,show L.length/8-(L.length+7)/8=0 by omega];have hv:Vb L (8*(L.length/8)) 8=0:=by
   have h0:∀k,Vb L (8*(L.length/8)) k=0:=by
    intro k
    induction k with
    | zero=>rfl
    | succ k ih=>
     have e2:L.getD (8*(L.length/8)+k) 0=0:=by simp [Z6,Zi (show L.length<=8*(L.length/8)+k by omega)]
     unfold Vb;rw [ih,e2];rfl
   exact h0 8
  rw [hv];rfl
 ·rw [Jm L _ Z8,Yq]
theorem abw{L:List UInt8}(h:CJ L)(b:UInt8):
  TA (L++[b])=(JS L).set (L.length/8) (Zl (((JS L).getD (L.length/8) 0).toNat+b.toNat*2 ^ (7-L.length % 8))):=by
 apply List.ext_getElem?;intro j;by_cases hj:j<L.length/8+1
 ·have KR:(TA (L++[b])).length=L.length/8+1:=by rw [VQ];simp;omega
  have g1:=Jm (L++[b]) j (by simp;omega);rw [List.getElem?_set];by_cases e:L.length/8=j
  ·subst e;rw [if_pos rfl,if_pos (by rw [K5];omega),BK];rw [Z6,ZP Z8]at g1;rw [ZP Z8];congr 1;have hv:=D6 h (8*(L.length/8)) 8;rw [XU (by simpa using hv)];rw [D7,VI,show 8*(L.length/8)+8-1-L.length=7-L.length % 8 by omega]at g1;exact g1
  ·rw [if_neg e];have e1:(JS L)[j]?=(TA L)[j]?:=by
    unfold JS;split
    ·rw [Zv (by rw [VQ];omega)]
    ·rfl
   have g2:=Jm L j Z8;rw [D7,Xb,WV,<-g2]at g1;rw [e1];rw [Z6,Z6]at g1;have hl2:j<(TA L).length:=by rw [VQ];omega
   rw [ZP Z8,ZP hl2]at g1 ⊢;exact congrArg some g1
 ·rw [Zi (by rw [VQ];simp;omega),Zi (by rw [List.length_set,K5];omega)]
theorem aca{L:List UInt8}(h:CJ L):∃m,((JS L).getD (L.length/8) 0).toNat=m*2 ^ (8-L.length % 8)/\m<2 ^ (L.length % 8):=by
 rw [BK];have hv:=D6 h (8*(L.length/8)) 8;have ht:=abv (L:=L) (8*(L.length/8)) 8 Z8;rw [show 8*(L.length/8)+8-L.length=8-L.length % 8 by omega]at ht;rw [XU (by simpa using hv)];generalize Vb L (8*(L.length/8)) 8=x at *;refine⟨x/2 ^ (8-L.length % 8),?_,?_⟩
 ·exact(Nat.div_mul_cancel (Nat.dvd_of_mod_eq_zero ht)).symm
 ·have hp:2 ^ 8=2 ^ (8-L.length % 8)*2 ^ (L.length % 8):=by rw [<-Nat.pow_add];congr 1;omega
  rw [hp]at hv;exact Nat.div_lt_of_lt_mul hv
theorem CJ.snoc{L:List UInt8}(h:CJ L){b:UInt8}(hb:b.toNat<=1):CJ (L++[b]):=by
 intro i;rw [Z6];by_cases hi:i<L.length
 ·rw [Zv hi,<-Z6];exact h i
 ·rw [ZF Z8];by_cases e:i=L.length
  ·subst e;simpa using hb
  ·rw [Zi (by simp;omega)];decide
structure gQ(w:World)(g:Nat)(v:Value)(L:List UInt8):Prop where
 blk:ZI w g 440 #[v,↑(L.length:Nat)]
 own:Bytes w 0 v (TA L)
 bits:CJ L
theorem gQ.quiet{w w':World}{g:Nat}{v:Value}{L:List UInt8}(h:gQ w g v L)(hm:Mod ↑ZW w w'):gQ w' g v L:=⟨h.blk.keep hm (fun h=>h),h.own.quiet hm,h.bits⟩
def kS(w:World)(g:Nat)(v:Value)(L:List UInt8)(e:Ending)(w':World):Prop:=
 ∃v',e=.returned ↑Z0/\gQ w' g v' L/\(∀j,v'.ownBlock=some j->v.ownBlock=some j\/w.heap.size<=j)/\Mod (fun j=>j=g\/v.ownBlock=some j) w w'
def afk(w:World)(g:Nat)(v:Value)(x:Nat)(T:List UInt8)(v7:Value)(wr:World):Prop:=
 ∃(m:Nat) (L:List UInt8) (v1:Value),m<=32/\v7=.int .i64 ((m:Int)-1)/\L++XV x m=T/\L.length<=4096/\gQ wr g v1 L/\(∀j,v1.ownBlock=some j->v.ownBlock=some j\/w.heap.size<=j)/\Mod (fun j=>j=g\/v.ownBlock=some j) w wr
theorem ag5(y:Nat)(hy:y<1099511627776):bits BinOp.and IntKind.u64 (y:Int) 1=((y % 2:Nat):Int):=by
 have e1:(YI 64 (y:Int)).toNat=y:=by rw [Xe];omega
 have e2:(YI 64 1).toNat=1:=by rw [Xe];omega
 have key:(YI 64 (y:Int) &&& YI 64 1).toNat=y % 2:=by
  rw [BitVec.toNat_and,e1,e2,Nat.and_one_is_mod]
 show IntKind.u64.wrap ((YI 64 (y:Int) &&& YI 64 1).toNat:Nat)=_;rw [key];exact Ub _ ⟨Z8,Z8⟩
theorem or8(m e b:Nat)(he:e<=7)(hm:m<2 ^ (7-e))(hb:b<=1):bits BinOp.or IntKind.u8 ((m*2 ^ (e+1):Nat):Int) ((b*2 ^ e:Nat):Int)=((m*2 ^ (e+1)+b*2 ^ e:Nat):Int)/\m*2 ^ (e+1)+b*2 ^ e<256/\b*2 ^ e<256:=by
 have hp:2 ^ (7-e)*2 ^ (e+1)=256:=by rw [<-Nat.pow_add,show 7-e+(e+1)=8 by omega]
 have h1:(m+1)*2 ^ (e+1)<=256:=by rw [<-hp];exact YE _ hm
 rw [Nat.add_mul,Nat.one_mul]at h1;have h2:b*2 ^ e<2 ^ (e+1):=by
  have h3:b*2 ^ e<=1*2 ^ e:=YE _ hb;rw [XF];have:=Nat.two_pow_pos e;omega
 have h4:m*2 ^ (e+1)+b*2 ^ e<256:=Z8;refine⟨?_,h4,Z8⟩;have e1:(YI 8 ((m*2 ^ (e+1):Nat):Int)).toNat=m*2 ^ (e+1):=by rw [Xe];generalize m*2 ^ (e+1)=z at *;omega
 have e2:(YI 8 ((b*2 ^ e:Nat):Int)).toNat=b*2 ^ e:=by rw [Xe];generalize b*2 ^ e=z at *;omega
 have key:(YI 8 ((m*2 ^ (e+1):Nat):Int) ||| YI 8 ((b*2 ^ e:Nat):Int)).toNat=m*2 ^ (e+1)+b*2 ^ e:=by
  rw [BitVec.toNat_or,e1,e2];have:=Nat.shiftLeft_add_eq_or_of_lt (i:=e+1) (b:=b*2 ^ e) h2 m;rw [Nat.shiftLeft_eq]at this;exact this.symm
 show IntKind.u8.wrap ((YI 8 ((m*2 ^ (e+1):Nat):Int) ||| YI 8 ((b*2 ^ e:Nat):Int)).toNat:Nat)=_;rw [key];exact Vk _ ⟨Z8,Z8⟩
def ak3(w:World)(g:Nat)(v:Value)(nn:Nat)(P:List UInt8)(wr:World):Prop:=
 ∃(A:Option Addr) (c:Nat),ZI wr g 440 #[.slice A P.length c,↑nn]/\Bytes wr 0 (.slice A P.length c) P/\(∀j,(Value.slice A P.length c).ownBlock=some j->v.ownBlock=some j\/w.heap.size<=j)/\Mod (fun j=>j=g\/v.ownBlock=some j) w wr
theorem ahI(w:World)(g:Nat)(v:Value)(L:List UInt8)(x n:Nat)(hx:x<4294967296)(hn:n<=32)(hxn:x/2 ^ n=0)(hl:L.length+n<=4096)(h:gQ w g v L):
  Calls prog 279 #[↑(ZC g 0),.int .u64 (x:Int),↑n] w (kS w g v (L++XV x n)):=by
 obtain⟨T,hT⟩:=ZL (L++XV x n);have hTl:T.length<=4096:=by rw [hT,YW,YR];omega
 rw [<-hT];have p0:=Za ((n:Int)<0);have p1:=Za (64<(n:Int));have p2:=Zb ((n:Int)<64);have hxz:(x:Int)/2 ^ n=0:=by
  have:((x/2 ^ n:Nat):Int)=(x:Int)/2 ^ n:=by push_cast;rfl
  rw [<-this,hxn];rfl
 have H0:=Z5 h hT;clear h hT hxn;go_enter func279,ntmps279;go_wp2_with fail;go_loopw [7] (afk w g v x T) (fun i _=>(intOf i+1).toNat)
 case atStart=>exact⟨n,L,v,hn,rfl,H0.out.2.symm,Z8,H0.out.1,fun j e=>.inl e,Mod.refl _ _⟩
 case round=>
  obtain⟨m,L1,v1,hm,rfl,hT1,KR,hw,hf,hM⟩:=hrel;rename World=>wr
  rcases Nat.eq_zero_or_pos m with rfl|QN
  ·have e1:((0:Nat):Int)-1 = -1:=Z8;rw [e1];have hTT:L1=T:=by rw [<-hT1];simp [XV]
   have HF:=Z5 hw (Z9 hf (Z9 hM hTT));clear hw hf hM hTT hT1;go_wp2_with fail;go_ret;exact⟨v1,rfl,by rw [<-HF.out.2.2.2];exact HF.out.1,HF.out.2.1,HF.out.2.2.1⟩
  ·obtain⟨i,rfl⟩:∃i,m=i+1:=⟨m-1,Z8⟩
   have e1:((i+1:Nat):Int)-1=(i:Int):=Z8;rw [e1];have d1:=Zb (0<=(i:Int));obtain⟨bt,hbt⟩:=ZL (x/2 ^ i % 2);have hb1:bt<=1:=Z8;obtain⟨A1,c1,rfl⟩:=ZG hw.own;obtain⟨nn,Na⟩:=ZL (L1.length);obtain⟨r,hr⟩:=ZL (nn % 8);obtain⟨q,hq⟩:=ZL (nn/8);have UQ:=hw.blk;rw [<-Na]at UQ KR;obtain⟨pc,pf⟩:=UQ.both;have pl:=UQ.lt;have t1:(nn:Int).tmod 8=(r:Int):=by rw [Int.tmod_eq_emod_of_nonneg Z8,hr];omega
   have t2:(nn:Int).tdiv 8=(q:Int):=by rw [Int.tdiv_eq_ediv_of_nonneg Z8,hq];omega
   have iW:r<8:=Z8;obtain⟨pn,aB⟩:=ZL ((TA L1).length);have hpl:pn<=512:=by rw [aB,VQ];omega
   rw [<-aB]at pc UQ;have H1:=Z5 hw (Z9 hf (Z9 hM (Z9 hT1 (Z9 hbt (Z9 Na (Z9 hr (Z9 hq (Z9 aB UQ))))))));clear hw hf hM hT1 hbt Na hr hq aB UQ;go_upto_if 39 with(fail)
   go_cut [] (fun wx=>ak3 w g v nn (JS L1) wx)
   case first=>
    by_cases vP:r=0
    ·have d2:((r:Int) == 0)=true:=by simp;omega
     have iU:JS L1=TA L1++[0]:=by unfold JS;rw [if_pos (by have h1:=H1.out.2.2.2.2.2.1;have h2:=H1.out.2.2.2.2.2.2.1;omega)]
     have HP:=Z5 vP iU;clear vP iU;go_upto_region 7 with(fail)
     go_wp2_with (at_builtin;have _t:=H1;refine VR _ rfl (.tmp 44) (.tmp 45) rfl 0 (.slice A1 pn c1) (TA L1) 0 rfl rfl (by rw [H1.out.2.2.2.2.2.2.2.2.1];exact H1.out.1.own) (Nat.zero_le _) (by have h9:=H1.out.2.2.2.2.2.2.2.2.1;omega) ?_;intro v5 w5 PV RO jF Jz;clear jF;have HO:=Z5 PV (Z9 RO Jz);have Ut:=H1.out.2.2.2.2.2.2.2.2.2.keep RO (SH H1.out.1.own H1.out.1.blk ZU |> fun h=>by rw [H1.out.2.2.2.2.2.2.2.2.1];exact h);obtain⟨bc5,bf5⟩:=Ut.both;have bl5:=Ut.lt;have H5:=Z7 Ut;clear Ut PV RO Jz;refine Hid.out ?_)
     refine Z7 ?_;clear pc pf pl;obtain⟨A5,k5,hv5⟩:=ZG HO.out.1;obtain⟨n5,Cr⟩:=ZL ((TA L1++[0]).length);rw [<-Cr]at hv5;subst hv5;have HN5:=Z7 Cr;clear Cr;go_wp2_with fail;go_meet;have ET:=H5.out.put (i:=0) (u:=.slice A5 n5 k5) rfl;have jd:=H1.out.2.2.1.size;rw [HP.out.2];refine⟨A5,k5,by rw [<-HN5.out];exact ET,by have:=HO.out.1.mod ((Mod.refl (fun j=>j=g) w5).setCell (p:=↑g) (.inl rfl) (.slice A5 n5 k5)) (fun j e hj=>SH HO.out.1 H5.out ZU (by rw [e];exact congrArg some hj));rw [HN5.out]at this ⊢;exact this,fun j e=>?_,(H1.out.2.2.1.into HO.out.2.1 (fun j e=>?_)).setCell (p:=↑g) (.inl (.inl rfl)) _⟩
     ·rw [<-HN5.out]at e;rcases HO.out.2.2 j e with h1|h1
      ·exact H1.out.2.1 j (by rw [<-H1.out.2.2.2.2.2.2.2.2.1];exact h1)
      ·exact .inr (ZQ jd h1)
     ·rcases H1.out.2.1 j (by rw [<-H1.out.2.2.2.2.2.2.2.2.1];exact e)with h1|h1
      ·exact .inl (.inr h1)
      ·exact .inr h1
    ·have d2:((r:Int) == 0)=false:=by simp;omega
     have iU:JS L1=TA L1:=by unfold JS;rw [if_neg (by have h1:=H1.out.2.2.2.2.2.1;have h2:=H1.out.2.2.2.2.2.2.1;omega)]
     go_wp2_with fail;go_meet;rw [iU];exact⟨A1,c1,by rw [<-H1.out.2.2.2.2.2.2.2.2.1];exact H1.out.2.2.2.2.2.2.2.2.2,H1.out.1.own,H1.out.2.1,H1.out.2.2.1⟩
   case rest=>
    clear pc pf pl;obtain⟨A2,c2,hb2,hown2,hf2,Y3⟩:=hcut;rename World=>w2
    obtain⟨h1,h2,h3⟩:=Z9 H1.out.2.2.2.2.2.1 (Z9 H1.out.2.2.2.2.2.2.1 H1.out.2.2.2.2.2.2.2.1);have aiv:(JS L1).length=q+1:=by rw [K5,<-h1,<-h3]
    obtain⟨P,hP⟩:=ZL (JS L1);rw [<-hP]at hb2 hown2 hf2 aiv;obtain⟨r2,rfl,KL⟩:=hown2.some_ Z8;obtain⟨mm,Ti,iM⟩:=aca H1.out.1.bits;rw [<-h1,<-h3,<-hP,<-h2]at Ti;rw [<-h1,<-h2]at iM;have nz:=abw H1.out.1.bits (Zl bt);rw [<-h1,<-h3,<-hP,<-h2]at nz;obtain⟨ov,hov⟩:=ZL ((P.getD q 0).toNat);have alB:ov<256:=by rw [hov];exact ZN _
    obtain⟨pn2,iV⟩:=ZL (P.length);have Bp:Bytes w2.drew 0 ↑(ZZ r2 pn2 c2) P:=by rw [iV];exact hown2.quiet ((Mod.refl _ w2).drew)
    have hb3:ZI w2.drew g 440 #[↑(ZZ r2 pn2 c2),↑nn]:=by rw [iV];exact hb2.drew
    have SB:=Bytes.cell Bp q Z8;rw [<-hov]at SB;have hfz:=Bp.frozen;have jL:=Bp.low.2;have hne:=Bp.SL hb3 ZU;obtain⟨pc3,pf3⟩:=hb3.both;have q0:(0:Int)<=(q:Int):=Z8;have q1:(q:Int)<(pn2:Int):=Z8;have eb:bits BinOp.and IntKind.u64 ((x:Int)/2 ^ i) 1=(bt:Int):=by
     have h5:x/2 ^ i<=x:=Nat.div_le_self _ _;rw [H1.out.2.2.2.2.1,<-ag5 (x/2 ^ i) Z8];congr 1
    have wq:IntKind.i64.wrap (q:Int)=(q:Int):=Z4 _ ⟨Z8,Z8⟩;have wr1:IntKind.i64.wrap (r:Int)=(r:Int):=Z4 _ ⟨Z8,Z8⟩;obtain⟨e,he⟩:=ZL (7-r);have wr2:IntKind.i64.wrap (7-(r:Int))=(e:Int):=by rw [Z4 _ ⟨Z8,Z8⟩];omega
    have hem:e<=7/\8-r=e+1/\r=7-e:=Z8;rw [hem.2.1]at Ti;have eQ:mm<2 ^ (7-e):=by rw [<-hem.2.2];exact iM
    have OR:=or8 mm e bt hem.1 eQ hb1;rw [<-Ti,<-hov]at OR;obtain⟨sh,hsh⟩:=ZL (bt*2 ^ e);rw [<-hsh]at OR;obtain⟨or1,or2,or3⟩:=OR;have wb1:IntKind.u8.wrap (bt:Int)=(bt:Int):=Vk _ ⟨Z8,Z8⟩;have wb2:IntKind.u8.wrap ((bt:Int)*2 ^ e)=(sh:Int):=by
     rw [show(bt:Int)*2 ^ e=(sh:Int)by rw [hsh];push_cast;rfl];exact Vk _ ⟨Z8,Z8⟩
    have alH:min e 8=e:=Z8;have HSH:=Z5 hsh he;clear hsh he hem eQ;have H2:=Z5 Bp (Z9 hb3 (Z9 hf2 (Z9 Y3 (Z9 nz (Z9 Ti (Z9 iM (Z9 hov iV)))))));clear hown2 hb2 Bp hb3 hf2 Y3 nz Ti iM hov iV h1 h2 h3 hP aiv KL;go_upto_region 8 with(fail)
    refine YK [25] [] [0,1,2,3,4,5,6,7,8,9,10,11,12,13,14,15,16,17,18,19,20,21,22,23,24,25] ZR ZR Xc ?_;iterate 25 (refine Yd ?_)
    refine XJ rfl rfl (fun K hK=>?_);go_simp;refine hK _ _ ?_;clear hK K;refine XD ?_;have Ws:=(H2.out.1.ji q (ov+sh) or2)
    have hb4:ZI (w2.drew.setCell ⟨r2,q,none⟩ (.int .u8 ((ov+sh:Nat):Int))) g 440 #[↑(ZZ r2 pn2 c2),↑nn]:=H2.out.2.1.far (p:=⟨r2,q,none⟩) (fun e=>hne e.symm) _;change Exit.then _ _ _ _ (w2.drew.setCell ⟨r2,q,none⟩ (.int .u8 ((ov+sh:Nat):Int)));have Xl:Mod (·=r2) w2 (w2.drew.setCell ⟨r2,q,none⟩ (.int .u8 ((ov+sh:Nat):Int))):=((Mod.refl (·=r2) w2).drew).setCell (p:=⟨r2,q,none⟩) (.inl rfl) _;generalize w2.drew.setCell ⟨r2,q,none⟩ (.int .u8 ((ov+sh:Nat):Int))=w4 at *;obtain⟨pc4,pf4⟩:=hb4.both;have pl4:=hb4.lt;have wn1:IntKind.i64.wrap ((nn:Int)+1)=(nn:Int)+1:=Z4 _ ⟨Z8,Z8⟩;have H4:=Z5 Ws (Z9 hb4 Xl);clear Ws hb4 Xl pc3 pf3 SB hfz jL;go_wp2_with fail;go_roundw
    case rel=>
     have N8:=H4.out.2.1.put (i:=1) (u:=.int .i64 ((nn:Int)+1)) rfl;have hoo:=H4.out.1.far (p:=⟨g,1,none⟩) (by exact hne) (.int .i64 ((nn:Int)+1));have aiZ:(Zl bt).toNat=bt:=by rw [Yq];omega
     have hL2:TA (L1++[Zl bt])=P.set q (Zl (ov+sh)):=by
      rw [H2.out.2.2.2.2.1,H2.out.2.2.2.2.2.2.2.1 |> fun h=>h.symm,aiZ,<-HSH.out.2,<-HSH.out.1]
     have Fx:(L1++[Zl bt]).length=nn+1:=by rw [YW,V3,H1.out.2.2.2.2.2.1]
     refine⟨i,L1++[Zl bt],↑(ZZ r2 pn2 c2),Z8,Zr,?_,by have h9:=congrArg List.length H1.out.2.2.2.1;rw [YW,YR]at h9;rw [Fx];have h10:=H1.out.2.2.2.2.2.1;omega,⟨?_,?_,H1.out.1.bits.snoc (by rw [aiZ];exact hb1)⟩,?_,?_⟩
     ·rw [<-H1.out.2.2.2.1,SV];congr 1;show _=Zl (x/2 ^ i % 2) :: XV x i;rw [<-H1.out.2.2.2.2.1];rfl
     ·rw [Fx];exact N8
     ·rw [hL2];exact hoo
     ·intro j e5;exact H2.out.2.2.1 j (by rw [<-H2.out.2.2.2.2.2.2.2.2];exact e5)
     ·refine(H2.out.2.2.2.1.into H4.out.2.2 (fun j e5=>?_)).setCell (p:=⟨g,1,none⟩) (.inl (.inl rfl)) _;rcases H2.out.2.2.1 j (by rw [e5];rfl)with h7|h7
      ·exact .inl (.inr h7)
      ·exact .inr h7
    case measure=>simp [intOf]
def ahm(F code:List UInt8)(wide:Nat):Prop:=code.length<=F.length/\be code<=be (F.take code.length)/\be (F.take code.length)<be code+wide
def ahC(code:List UInt8)(wide:Nat):Prop:=16777216<=wide/\wide<4294967296/\be code+wide<=256 ^ code.length
structure alb(s:Es):Prop where
 code:ahC s.code s.wide
 len:s.ch.length=592
 ok:∀i,i<592->WJ (s.ch.getD i 0)=true
def Holds(F:List UInt8)(s:Es):Prop:=ahm F s.code s.wide
def ahK(F:List UInt8)(s:Es):St:=⟨s.ch,F.drop s.code.length,be (F.take s.code.length)-be s.code,s.wide⟩
def Rt{α:Type}(s s':Es)(g:St->Option (α × St))(v:α):Prop:=alb s'/\∀F,Holds F s'->Holds F s/\g (ahK F s)=some (v,ahK F s')
theorem Rt.bind{α β:Type}{s s1 s2:Es}{g:St->Option (α × St)}{f:α->St->Option (β × St)}{v:α}{u:β}(h:Rt s s1 g v)(k:Rt s1 s2 (f v) u):Rt s s2 (fun x=>(g x).bind fun y=>f y.1 y.2) u:=
 ⟨k.1,fun F hF=>by
  obtain⟨h1,h2⟩:=k.2 F hF;obtain⟨h3,h4⟩:=h.2 F h1;refine⟨h3,?_⟩;dsimp only;rw [h4];exact h2⟩
theorem abd{x:Nat}(h:0<x):2 ^ (Wj x-1)<=x/\x<2 ^ Wj x:=by
 unfold Wj;rw [Xb];have:=(Nat.log2_eq_iff (by omega:x≠0) (k:=Nat.log2 x)).1 rfl;simpa using this
theorem aj8(w:World):Calls prog 278 #[] w fun e w'=>∃g,e=.returned ↑(ZC g 0)/\gQ w' g ↑Zd []/\w.heap.size<=g/\Mod ↑ZW w w':=by
 go_enter func278,ntmps278;go_wp2_with fail;go_ret;exact⟨_,rfl,⟨ZI.new _ _ _,Bytes.nil _ _,fun i=>by simp⟩,ZY _,(Mod.refl _ _).alloc _⟩
theorem afL(w:World)(g:Nat)(A:Option Addr)(n c:Nat)(m:Int)(hn:n<=4096)(hb:ZI w g 440 #[.slice A n c,↑m]):
  Calls prog 281 #[↑(ZC g 0)] w fun e w'=>e=.returned ↑Z0/\ZI w' g 440 #[.slice A n c,.int .i64 (8*(n:Int))]/\Mod (·=g) w w':=by
 obtain⟨bc,bf⟩:=hb.both;have bl:=hb.lt;have H:=Z7 hb;clear hb;go_enter func281,ntmps281;go_wp2_with fail;go_ret;exact⟨rfl,H.out.put (i:=1) (u:=.int .i64 (8*(n:Int))) rfl,(Mod.refl (fun j=>j=g) w).setCell (p:=⟨g,1,none⟩) (.inl rfl) _⟩
theorem afK(w:World)(g:Nat)(A:Option Addr)(n c:Nat)(m:Int)(l:List UInt8)(hl:l.length=n)(hn:n<=4096)(hb:ZI w g 440 #[.slice A n c,↑m])(ho:Bytes w 0 (.slice A n c) l):
  Calls prog 282 #[↑(ZC g 0)] w (kE w n l):=by
 obtain⟨bc,bf⟩:=hb.both;have YZ:=ho.RU;have H:=Z5 hb (Z9 YZ hl);clear hb YZ ho hl;go_enter func282,ntmps282;go_upto_region 4 with(refine TV _ rfl (.tmp 10) (.tmp 10) rfl n rfl rfl Z8 ?_;intro w3 hb3 X7;have HO:=Z5 hb3 X7;clear hb3 X7)
 have hb3:=H.out.1.keep HO.out.2 (fun h=>h);have Nq:=H.out.2.1.quiet HO.out.2;obtain⟨bc3,bf3⟩:=hb3.both;have HF:Hid (0+n<=(Yw (ZM n 0)).length):=by show _<=_;rw [YG,XH];omega
 have H3:=Z5 hb3 Nq;clear bc bf hb3 Nq;go_wp2_with (refine Rw rfl (.tmp 12) (.tmp 16) _ _ rfl 5 underlying54 ZR (some ↑w.heap.size) n n A n c (Yw l) rfl rfl H3.out.2.2.2.1 w.heap.size 0 _ 5 HO.out.1 n (Nat.min_self _).symm (fun _=>rfl) HF.out (Pg _) ?_;intro w5 Ut UR;have GH:=Z5 Ut UR;clear Ut UR)
 go_ret;refine⟨w.heap.size,rfl,?_,ZY _,HO.out.2.into GH.out.2 (fun i e=>.inr Z8)⟩;have Ut:=GH.out.1;have e:splice (Yw (ZM n 0)) 0 ((Yw l).take n)=Yw l:=by
  rw [List.take_of_length_le (by rw [YG,H.out.2.2];exact ZY _),Eu];congr 1;unfold splice;rw [List.take_zero,List.nil_append,TM (by rw [XH,H.out.2.2];omega),List.append_nil]
 rwa [e]at Ut
theorem akN(w:World)(g:Nat)(v:Value)(L:List UInt8)(x:Nat)(hx:x<=60000)(hl:L.length+32<=4096)(h:gQ w g v L):
  Calls prog 280 #[↑(ZC g 0),.int .u64 (x:Int)] w (kS w g v (L++Pk x)):=by
 have hb1:=G8 (show 0<x+1 by omega);have hb2:Wj (x+1)<=16:=OU Z8;have LG:=abd (show 0<x+1 by omega);have hz:(x+1)/2 ^ (2*Wj (x+1)-1)=0:=by
  apply Nat.div_eq_of_lt;exact ZB LG.2 (Xx Z8 Z8)
 have hP:=ahI w g v L (x+1) (2*Wj (x+1)-1) Z8 Z8 hz Z8 h;have hL:=Ay w (x+1) Z8;have hC:Hid (Pk x=XV (x+1) (2*Wj (x+1)-1)):=rfl;generalize Wj (x+1)=b at *;obtain⟨y,hy⟩:=ZL (x+1);rw [<-hy]at hP hL hC;have e1:(x:Int)+1=(y:Int):=Z8;have sM:y<=60001:=Z8;clear hy;have d0:=Za (4294967294<(x:Int));have HP:=Z5 hP hL;clear hP hL h LG hz;obtain⟨nb,yD⟩:=ZL (2*b-1);have e2:2*(b:Int)-1=(nb:Int):=Z8;rw [<-yD]at HP hC;have Cs:nb<=31:=Z8;clear yD;have aja:Calls prog 341 #[.int .u64 (x:Int)] w fun e w'=>e=.returned ↑nb/\w=w':=by
  go_enter func341,ntmps341;go_wp2_with fail;refine HP.out.2.mono ?_;rintro e w1 ⟨rfl,rfl⟩;go_wp2_with fail;go_ret;exact⟨rfl,rfl⟩
 have HL:=Z7 aja;clear aja;go_enter func280,ntmps280;go_wp2_with fail;refine HL.out.mono ?_;rintro e w1 ⟨rfl,rfl⟩;go_wp2_with fail;refine HP.out.1.mono ?_;rintro e w2 ⟨v2,rfl,hW,hF,hM⟩;have H2:=Z5 hW (Z9 hF hM);clear hW hF hM;go_wp2_with fail;go_ret;rw [hC.out];exact⟨v2,rfl,H2.out.1,H2.out.2.1,H2.out.2.2⟩
def um(p:Nat × Nat):List UInt8:=if 0<p.2 then XV p.1 p.2 else Pk p.1
def Hw:List (Nat × Nat)->List UInt8
 | []=>[]
 | p :: r=>um p++Hw r
def Gh:List (Nat × Nat)->List Value
 | []=>[]
 | p :: r=>↑p.1 :: ↑p.2 :: Gh r
theorem rY:∀(fs:List (Nat × Nat)) (i:Nat) (h:i<fs.length),(Gh fs)[2*i]?=some ↑((fs[i]).1)/\(Gh fs)[2*i+1]?=some ↑((fs[i]).2)
 | [],i,h=>by simp at h
 | p :: r,0,_=>⟨rfl,rfl⟩
 | p :: r,i+1,h=>by
  have:=rY r i (by simpa using h);rw [show 2*(i+1)=2*i+1+1 by omega];exact this
def jV(p:Nat × Nat):Prop:=p.1<=60000/\p.2<=32/\(0<p.2->p.1/2 ^ p.2=0)
theorem AJ{x:Nat}(hx:x<=60000):(Pk x).length<=31:=by
 have hb2:Wj (x+1)<=16:=OU Z8;unfold Pk;rw [YR];omega
theorem adz{p:Nat × Nat}(h:jV p):(um p).length<=32:=by
 unfold um;split
 ·rw [YR];exact h.2.1
 ·have:=AJ h.1;omega
def ajA(w:World)(fb:Nat)(t:TypeId)(k:Nat)(fs:List (Nat × Nat))(T:List UInt8)(g:Nat)(v9:Value)(wr:World):Prop:=
 ∃(i:Nat) (L:List UInt8) (v:Value),i<=k/\v9=↑i/\L++Hw (fs.drop i)=T/\L.length<=32*i/\gQ wr g v L/\ZI wr fb t (Gh fs).toArray/\(∀j,v.ownBlock=some j->w.heap.size<=j)/\w.heap.size<=g/\Mod ↑ZW w wr
theorem acK(w:World)(fb:Nat)(t:TypeId)(k:Nat)(fs:List (Nat × Nat))(hk:k=fs.length)(hk8:k<=8)(hfs:∀p∈fs,jV p)(hb:ZI w fb t (Gh fs).toArray):
  Calls prog 207 #[↑(ZZ fb k k)] w fun e w'=>∃N,N=(TA (Hw fs)).length/\kE w N (TA (Hw fs)) e w':=by
 obtain⟨T,hT⟩:=ZL (Hw fs);rw [<-hT];have H0:=Z5 hk (Z9 hfs (Z9 hb hT));have Md:=hb.lt;clear hk hfs hb hT;go_enter func207,ntmps207;go_wp2_with fail;refine(aj8 _).mono ?_;rintro e w1 ⟨g,rfl,hW,hg,hm⟩;have H1:=Z5 hW (Z9 hg hm);clear hW hg hm;go_wp2_with fail;go_loopw [9] (ajA w fb t k fs T g) (fun i _=>k-(intOf i).toNat)
 case atStart=>exact⟨0,[],_,Z8,rfl,by rw [H0.out.2.2.2];rfl,Ze,H1.out.1,H0.out.2.2.1.keep H1.out.2.2 (fun h=>h),fun j e=>by simp [Value.ownBlock]at e,H1.out.2.1,H1.out.2.2⟩
 case round=>
  obtain⟨i,L,v,hi,rfl,hTL,jL,hW,Px,hown,hg,hm⟩:=hrel;rename World=>wr
  by_cases hlt:i<k
  ·have d1:=Zb ((i:Int)<(k:Int));have hif:i<fs.length:=by rw [<-H0.out.1];exact hlt
   obtain⟨f1,f2⟩:=rY fs i hif;have O1:=H0.out.2.1 fs[i] (List.getElem_mem hif);have hdr:Hw (fs.drop i)=um fs[i]++Hw (fs.drop (i+1)):=by rw [List.drop_eq_getElem_cons hif];rfl
   rw [hdr]at hTL;generalize fs[i]=p at *;obtain⟨a,b⟩:=p;dsimp only at f1 f2;have c1:wr.cell? ⟨fb,i*2,none⟩=some ↑a:=by rw [Px.cell,YA,Zo];exact f1
   have c2:wr.cell? ⟨fb,i*2+1,none⟩=some ↑b:=by rw [Px.cell,YA,Zo];exact f2
   have i0:(0:Int)<=(i:Int):=Z8;have i1:(i:Int)<(k:Int):=Z8;have hbl:=adz O1;obtain⟨ok1,ok2,ok3⟩:=O1;dsimp only at ok1 ok2 ok3;have HK:=Z5 hTL (Z9 hW (Z9 Px (Z9 hown (Z9 hg (Z9 hm ok3)))));clear hTL hW Px hown hg hm ok3 hdr f1 f2;go_upto_region 5 with(fail)
   have Me:Mod ↑ZW wr (wr.alloc (.cells #[↑a,↑b] 321)):=(Mod.refl _ wr).alloc _;have oZ:=ZI.new wr 321 #[↑a,↑b];obtain⟨q,hq⟩:=ZL (wr.heap.size);rw [<-hq]at oZ ⊢;generalize wr.alloc (.cells #[↑a,↑b] 321)=w3 at *;obtain⟨bc,bf⟩:=oZ.both;have hW3:=HK.out.2.1.quiet Me;have H3:=Z5 hW3 (Z9 (HK.out.2.2.1.keep Me (fun h=>h)) (Z9 Me hq));clear Me oZ hW3 hq c1 c2;have e64:IntKind.u64.wrap (a:Int)=(a:Int):=Ub _ ⟨Z8,Z8⟩;have ai9:Calls prog (if 0<b then 279 else 280) (if 0<b then #[↑(ZC g 0),.int .u64 (a:Int),↑b]else #[↑(ZC g 0),.int .u64 (a:Int)]) w3 (kS w3 g v (L++um (a,b))):=by
    unfold um;dsimp only;by_cases h0:0<b
    ·rw [if_pos h0,if_pos h0,if_pos h0];exact ahI w3 g v L a b Z8 ok2 (HK.out.2.2.2.2.2.2 h0) Z8 H3.out.1
    ·rw [if_neg h0,if_neg h0,if_neg h0];exact akN w3 g v L a ok1 Z8 H3.out.1
   have HP:=Z7 ai9;clear ai9;by_cases h0:0<b
   case' pos=>
    have d2:=Zb (0<(b:Int));have HP2:=HP.out;rw [if_pos h0,if_pos h0]at HP2
   case' neg=>
    have d2:=Za (0<(b:Int));have HP2:=HP.out;rw [if_neg h0,if_neg h0]at HP2
   all_goals
    have HPP:=Z7 HP2;clear HP HP2;go_wp2_with fail;refine HPP.out.mono ?_;rintro e w4 ⟨v4,rfl,vI,qh,Gm⟩
    have aiQ:ZI w4 fb t (Gh fs).toArray:=H3.out.2.1.keep Gm (by
     rintro(e|e)
     ·have:=HK.out.2.2.2.2.1;omega
     ·have:=HK.out.2.2.2.1 fb e;omega)
    have RO:Mod ↑ZW w w4:=(HK.out.2.2.2.2.2.1.trans H3.out.2.2.1).into Gm (fun j e=>.inr (by
     rcases e with e|e
     ·subst e;exact HK.out.2.2.2.2.1
     ·exact HK.out.2.2.2.1 j e))
    have hsz:w.heap.size<=w3.heap.size:=(HK.out.2.2.2.2.2.1.trans H3.out.2.2.1).size;have H4:=Z5 vI (Z9 aiQ (Z9 RO (fun j e=>(qh j e).elim (HK.out.2.2.2.1 j) (ZQ hsz))));clear vI qh Gm aiQ RO bc bf;go_wp2_with fail;go_roundw
    case rel=>exact⟨i+1,L++um (a,b),v4,Z8,Zr,by rw [SV];exact HK.out.1,by rw [YW];omega,H4.out.1,H4.out.2.1,H4.out.2.2.2,HK.out.2.2.2.2.1,H4.out.2.2.1⟩
    case measure=>exact YD
  ·obtain rfl:i=k:=Z8;have hLT:L=T:=by rw [<-hTL,TM (by rw [H0.out.1];exact ZY _)];simp [Hw]
   subst hLT;obtain⟨A,c,rfl⟩:=ZG hW.own;have hpl:(TA L).length<=40:=by rw [VQ];omega
   have HK:=Z5 hW (Z9 hown (Z9 hg hm));clear hTL hW Px hown hg hm;obtain⟨N,hN⟩:=ZL ((TA L).length);rw [<-hN]at HK hpl;have HN:=Z7 hN;clear hN;go_wp2_with fail;refine(afL _ g A N c _ Z8 HK.out.1.blk).mono ?_;rintro e w4 ⟨rfl,hb4,Xl⟩;have ho4:=HK.out.1.own.mod Xl (fun j e hj=>HK.out.1.own.apart HK.out.1.blk ZU (hj▸e));have H4:=Z5 hb4 (Z9 ho4 (HK.out.2.2.2.into Xl (fun j e=>.inr (e▸HK.out.2.2.1))));clear hb4 ho4 Xl;go_wp2_with fail;refine(afK _ g A N c _ (TA L) HN.out.symm Z8 H4.out.1 H4.out.2.1).mono ?_;rintro e w5 ⟨g5,rfl,Ut,o9,UR⟩;have H5:=Z5 Ut (Z9 (ZQ H4.out.2.2.size o9) (H4.out.2.2.trans UR));clear Ut o9 UR;go_wp2_with fail;go_ret;exact⟨N,HN.out,g5,rfl,H5.out.1,H5.out.2.1,H5.out.2.2⟩
end Go.Proofs.YthednemlahioeaaGreatDoor
