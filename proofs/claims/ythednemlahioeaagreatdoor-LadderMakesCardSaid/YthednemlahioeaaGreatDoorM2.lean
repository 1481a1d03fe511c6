/-
  intra: what is around a block, and the four modes.
-/
import Derived.Test.YthednemlahioeaaGreatDoorM1
import Derived.StillTailTactics
namespace Go.Proofs.YthednemlahioeaaGreatDoor
open Go.RowKit
open List renaming getElem?_toArray→Zo,getElem?_cons_succ→Yi,getElem?_append_left→Zv,getElem?_append_right→ZF,setIfInBounds_toArray→Xh,set_cons_succ→Rh,set_append_left→Sr,set_append_right→WM,range→Zz
open UInt8 renaming ofNat→Zl,toNat_lt→ZN
open IntWalk renaming i64_in→Z4
open And renaming intro→Z9
open Region renaming Mode→Wv,binds→WX,ready→Zj,noSelect→Vv,noSelect_spec→XQ,free_spec→WY,before→Yo,wanted→ZH
open Bool renaming not_true→VM,false_or→VL,and_eq_true→ZT,or_eq_true→Xd
open Oper renaming stillUpon→Uf
open Act renaming put_comm→TH
open Go.Proofs.Tryz
set_option maxRecDepth 100000
set_option maxHeartbeats 8000000
def Fa(ab lf:List UInt8)(co:UInt8):List Value:=.int .i64 8 :: (Yw ab++(Yw lf++[.int .u8 (co.toNat:Int)]))
def Oj(ab lf:List UInt8)(co:UInt8):Array Value:=(Fa ab lf co).toArray
section
variable {ab lf : List UInt8} {co : UInt8} {w : World} {p : Nat}
theorem ajw(hb:ZI w p 478 (Oj ab lf co)):w.cell? ↑p=some (.int .i64 8):=hb.cell 0
theorem GY(hb:ZI w p 478 (Oj ab lf co))(h1:ab.length=8){i:Nat}(hi:i<8):w.cell? ⟨p,1+i,none⟩=some (.int .u8 ((ab.getD i 0).toNat:Int)):=by
 rw [hb.cell,Oj,Zo,Fa,Nat.add_comm 1 i,Yi,Zv (by rw [YG];omega)];simp [Yw,h1,hi]
theorem GZ(hb:ZI w p 478 (Oj ab lf co))(h1:ab.length=8)(h2:lf.length=8){i:Nat}(hi:i<8):w.cell? ⟨p,9+i,none⟩=some (.int .u8 ((lf.getD i 0).toNat:Int)):=by
 rw [hb.cell,Oj,Zo,Fa,show 9+i=(8+i)+1 by omega,Yi,ZF (by rw [YG];omega),YG,h1,Nat.add_sub_cancel_left,Zv (by rw [YG];omega)];simp [Yw,h2,hi]
theorem Au(hb:ZI w p 478 (Oj ab lf co))(h1:ab.length=8)(h2:lf.length=8):w.cell? ⟨p,17,none⟩=some (.int .u8 (co.toNat:Int)):=by
 rw [hb.cell,Oj,Zo,Fa,show 17=16+1 by omega,Yi,ZF (by rw [YG];omega),YG,h1,ZF (by rw [YG];omega),YG,h2];rfl
theorem aaA{v:Nat}(h1:ab.length=8){i:Nat}(hi:i<8)(hv:v<256):(Oj ab lf co).setIfInBounds (1+i) (.int .u8 (v:Int))=Oj (ab.set i (Zl v)) lf co:=by
 have e:=EM ab i v hv;unfold Oj Fa;rw [Xh,Nat.add_comm 1 i,Rh,Sr _ _ (by rw [YG];omega),e]
theorem Fb{v:Nat}(h1:ab.length=8)(h2:lf.length=8){i:Nat}(hi:i<8)(hv:v<256):(Oj ab lf co).setIfInBounds (9+i) (.int .u8 (v:Int))=Oj ab (lf.set i (Zl v)) co:=by
 have e:=EM lf i v hv;unfold Oj Fa;rw [Xh,show 9+i=(8+i)+1 by omega,Rh,WM _ _ (by rw [YG];omega),YG,h1,Nat.add_sub_cancel_left,Sr _ _ (by rw [YG];omega),e]
theorem aan{v:Nat}(h1:ab.length=8)(h2:lf.length=8)(hv:v<256):(Oj ab lf co).setIfInBounds 17 (.int .u8 (v:Int))=Oj ab lf (Zl v):=by
 unfold Oj Fa;rw [Xh,show 17=16+1 by omega,Rh,WM _ _ (by rw [YG];omega),YG,h1,WM _ _ (by rw [YG];omega),YG,h2];simp [UInt8.toNat_ofNat',Nat.mod_eq_of_lt hv]
end
theorem aia(w:World)(ab lf:List UInt8)(co:UInt8)(h1:ab.length=8)(x:Nat)(y:Int)(hx:x<8):Calls prog 396 #[.agg (Oj ab lf co),↑x,↑y] w fun e w'=>e=.returned (.int .u8 ((ab.getD x 0).toNat:Int))/\Mod ↑ZW w w':=by
 have hb:ZI (w.alloc (.cells (Oj ab lf co) 478)) w.heap.size 478 (Oj ab lf co):=ZI.new _ _ _;have k0:=GY hb h1 hx;generalize (ab.getD x 0).toNat=v at *;generalize Oj ab lf co=cs at *;clear hb;go_enter func396,ntmps396;go_wp2_with fail;go_ret;exact⟨rfl,(Mod.refl _ _).alloc _⟩
theorem aeP(w:World)(ab lf:List UInt8)(co:UInt8)(h1:ab.length=8)(h2:lf.length=8)(x:Int)(y:Nat)(hy:y<8):Calls prog 397 #[.agg (Oj ab lf co),↑x,↑y] w fun e w'=>e=.returned (.int .u8 ((lf.getD y 0).toNat:Int))/\Mod ↑ZW w w':=by
 have hb:ZI (w.alloc (.cells (Oj ab lf co) 478)) w.heap.size 478 (Oj ab lf co):=ZI.new _ _ _;have k0:=GZ hb h1 h2 hy;generalize (lf.getD y 0).toNat=v at *;generalize Oj ab lf co=cs at *;clear hb;go_enter func397,ntmps397;go_wp2_with fail;go_ret;exact⟨rfl,(Mod.refl _ _).alloc _⟩
def uY(ab lf:List UInt8)(co:UInt8)(x y:Nat):Nat:=XM (((ab.getD x 0).toNat:Int)+((lf.getD y 0).toNat:Int)-(co.toNat:Int))
theorem age(w:World)(ab lf:List UInt8)(co:UInt8)(h1:ab.length=8)(h2:lf.length=8)(x y:Nat)(hx:x<8)(hy:y<8):Calls prog 398 #[.agg (Oj ab lf co),↑x,↑y] w fun e w'=>e=.returned (.int .u8 ((uY ab lf co x y:Nat):Int))/\Mod ↑ZW w w':=by
 have hb:ZI (w.alloc (.cells (Oj ab lf co) 478)) w.heap.size 478 (Oj ab lf co):=ZI.new _ _ _;have k0:=GY hb h1 hx;have k1:=GZ hb h1 h2 hy;have k2:=Au hb h1 h2;have x0:(ab.getD x 0).toNat<256:=ZN _;have x1:(lf.getD y 0).toNat<256:=ZN _;have x2:co.toNat<256:=ZN _;unfold uY;generalize (ab.getD x 0).toNat=u at *;generalize (lf.getD y 0).toNat=v at *;generalize co.toNat=z at *;have M0:Mod ↑ZW w (w.alloc (.cells (Oj ab lf co) 478)):=(Mod.refl _ _).alloc _;generalize Oj ab lf co=cs at *;clear hb;have e0:IntKind.i64.wrap (u:Int)=(u:Int):=Z4 _ ⟨Z8,Z8⟩;have e1:IntKind.i64.wrap (v:Int)=(v:Int):=Z4 _ ⟨Z8,Z8⟩;have e2:IntKind.i64.wrap (z:Int)=(z:Int):=Z4 _ ⟨Z8,Z8⟩;have e3:IntKind.i64.wrap ((u:Int)+(v:Int))=(u:Int)+(v:Int):=Z4 _ ⟨Z8,Z8⟩;have e4:IntKind.i64.wrap ((u:Int)+(v:Int)-(z:Int))=(u:Int)+(v:Int)-(z:Int):=Z4 _ ⟨Z8,Z8⟩;have p0:(0:Int)<=(x:Int):=Z8;have p1:(x:Int)<8:=Z8;have p2:(0:Int)<=(y:Int):=Z8;have p3:(y:Int)<8:=Z8;have q0:-9223372036854775808<=(u:Int)+(v:Int)-(z:Int)/\(u:Int)+(v:Int)-(z:Int)<=9223372036854775807:=⟨Z8,Z8⟩
 have HQ:=Z5 q0 (Z9 M0 (Z9 e0 (Z9 e1 (Z9 e2 (Z9 e3 e4)))));clear q0 M0 e0 e1 e2 e3 e4;go_enter func398,ntmps398;go_wp2_with fail;obtain⟨_,_,e0,e1,e2,e3,e4⟩:=HQ.out;go_quiet ((go_at_call 408;exact Calls.quiet_of_same ((wG _ _ HQ.out.1).mono fun _ _ ⟨a,b⟩=>⟨a,b.symm⟩)))
 clear e0 e1 e2 e3 e4;go_wp2_with fail;go_ret;exact⟨rfl,HQ.out.2.1.drewN _⟩
def rX(ab lf:List UInt8):Nat->Nat
 | 0=>8
 | k+1=>rX ab lf k+((ab.getD k 0).toNat+(lf.getD k 0).toNat)
theorem zx(ab lf:List UInt8):∀k,rX ab lf k<=8+510*k
 | 0=>Nat.le_refl _
 | k+1=>by
  have:=zx ab lf k;have h1:(ab.getD k 0).toNat<256:=ZN _;have h2:(lf.getD k 0).toNat<256:=ZN _;unfold rX;omega
def Be(ab lf:List UInt8):Nat:=rX ab lf 8/16
def afA(w:World)(p:Nat)(cs:Array Value)(ab lf:List UInt8)(s7 s13:Value)(wr:World):Prop:=
 ∃k:Nat,k<=8/\s13=↑k/\s7=↑(rX ab lf k:Nat)/\Sat ↑ZW w wr [⟨p,478,cs⟩] []
theorem ah9(w:World)(ab lf:List UInt8)(co:UInt8)(h1:ab.length=8)(h2:lf.length=8)(x y:Int):Calls prog 395 #[.agg (Oj ab lf co),↑x,↑y] w fun e w'=>e=.returned (.int .u8 ((Be ab lf:Nat):Int))/\Mod ↑ZW w w':=by
 have HS:=(Sat.nil ↑ZW w).alloc 478 (Oj ab lf co) rfl;have k0:=ajw (HS.ZX 0 rfl);have H0:=Lib.hid HS;clear HS;obtain⟨cs,hcs⟩:=ZL (Oj ab lf co);rw [<-hcs]at k0 H0 ⊢;have HC:=Lib.hid hcs;clear hcs;go_enter func395,ntmps395;go_wp2_with fail;clear k0;go_loopw [7,13] (afA w w.heap.size cs ab lf) (fun _ s _=>8-(intOf s).toNat)
 case atStart=>exact⟨0,Z8,rfl,rfl,H0.out⟩
 case round=>
  clear H0;obtain⟨k,hk,rfl,rfl,HS⟩:=hrel;have Md:=zx ab lf k;by_cases hlt:k<8
  ·have hb:=HS.ZX 0 rfl;dsimp only at hb;rw [HC.out]at hb;have c0:=GY hb h1 hlt;have c1:=GZ hb h1 h2 hlt;have x0:(ab.getD k 0).toNat<256:=ZN _;have x1:(lf.getD k 0).toNat<256:=ZN _;have hst:rX ab lf (k+1)=rX ab lf k+((ab.getD k 0).toNat+(lf.getD k 0).toNat):=rfl;generalize (ab.getD k 0).toNat=u at *;generalize (lf.getD k 0).toNat=v at *;obtain⟨z,hz⟩:=ZL (rX ab lf k);rw [<-hz]at Md hst ⊢;have e0:IntKind.i64.wrap (u:Int)=(u:Int):=Z4 _ ⟨Z8,Z8⟩;have e1:IntKind.i64.wrap (v:Int)=(v:Int):=Z4 _ ⟨Z8,Z8⟩;have e3:IntKind.i64.wrap ((u:Int)+(v:Int))=(u:Int)+(v:Int):=Z4 _ ⟨Z8,Z8⟩;have e4:IntKind.i64.wrap ((z:Int)+((u:Int)+(v:Int)))=(z:Int)+((u:Int)+(v:Int)):=Z4 _ ⟨Z8,Z8⟩;have p0:(0:Int)<=(k:Int):=Z8;have p1:(k:Int)<8:=Z8;have HK:=Z5 HS (Z9 hst (Z9 e0 (Z9 e1 (Z9 e3 e4))));clear HS hst hb e0 e1 e3 e4 hz;go_upto_region 5 with(fail)
   obtain⟨_,_,e0,e1,e3,e4⟩:=HK.out;go_quiet (fail)
   clear e0 e1 e3 e4;go_wp2_with fail;go_roundw
   case rel=>exact⟨k+1,Z8,Zr,by rw [HK.out.2.1];go_num,HK.out.1.drewN _⟩
   case measure=>exact YD
  ·obtain rfl:k=8:=Z8;have k0:wr.cell? ↑w.heap.size=some (.int .i64 8):=by
    have hb:=HS.ZX 0 rfl;dsimp only at hb;rw [HC.out]at hb;exact ajw hb
   have HK:=Lib.hid HS;clear HS;obtain⟨z,hz⟩:=ZL (rX ab lf 8);rw [<-hz]at Md ⊢;have HZ:=Lib.hid hz;clear hz;go_wp2_with fail;go_ret;refine⟨congrArg (fun z=>Ending.returned (.int .u8 z)) ?_,HK.out.mod⟩;unfold Be;rw [<-HZ.out];omega
section
variable {P : Program} {ops : Array Oper} {md : Wv} {loud ZO : List Nat} {Q : Exit → Act → World → Prop}
def N7(md:Wv)(ops:Array Oper)(B:Array Nat):Bool:=
 (Zz ops.size).all fun j=>(Zz ops.size).all fun i=>!(B.getD j 0).testBit i ||
  match ops[j]? with
  | some o=>o.after.any fun e=>WX md e&&decide (e.on<j)&&(e.on == i || (B.getD e.on 0).testBit i)
  | none=>false
def Closed(md:Wv)(ops:Array Oper)(listed:Array Bool):Prop:=
 ∀j oj,ops[j]?=some oj->listed.getD j false=true->∀e∈oj.after,WX md e=true->listed.getD e.on false=true
theorem Closed.set{i:Nat}{listed:Array Bool}(h:Closed md ops listed)(hi:i∈Zj md ops listed):Closed md ops (listed.setIfInBounds i true):=by
 obtain⟨_,oi,hoi,hall⟩:=mem_ready.1 hi;intro j oj hj hl e he hb;by_cases xg:i=j
 ·subst xg;obtain rfl:oj=oi:=Option.some.inj (hj.symm.trans hoi);exact getD_set_true (hall e he hb)
 ·rw [getD_set_ne false xg]at hl;exact getD_set_true (h j oj hj hl e he hb)
theorem Q0{B:Array Nat}{listed:Array Bool}(hB:N7 md ops B=true)(closed:Closed md ops listed):
  ∀(d t:Nat),t<=d->∀o,ops[t]?=some o->(∀e∈o.after,WX md e=true->listed.getD e.on false=true)->∀i,i<ops.size->(B.getD t 0).testBit i=true->listed.getD i false=true:=by
 intro d
 induction d with
 | zero=>
  intro t ht o ho hd i hi hb;obtain rfl:t=0:=Z8;have h1:=List.all_eq_true.1 (List.all_eq_true.1 hB 0 (List.mem_range.2 (Array.getElem?_eq_some_iff.1 ho).1)) i (List.mem_range.2 hi);rw [hb,ho]at h1;simp only [VM,VL]at h1;obtain⟨e,he,h2⟩:=Array.any_eq_true'.1 h1;simp at h2
 | succ d ih=>
  intro t ht o ho hd i hi hb;have h1:=List.all_eq_true.1 (List.all_eq_true.1 hB t (List.mem_range.2 (Array.getElem?_eq_some_iff.1 ho).1)) i (List.mem_range.2 hi);rw [hb,ho]at h1;simp only [VM,VL]at h1;obtain⟨e,he,h2⟩:=Array.any_eq_true'.1 h1;simp only [ZT,Xd,beq_iff_eq,decide_eq_true_eq]at h2;obtain⟨⟨LG,hlt⟩,h3⟩:=h2;have h4:=hd e he LG;rcases h3 with h3|h3
  ·rw [<-h3];exact h4
  ·have hon:e.on<ops.size:=by have:=(Array.getElem?_eq_some_iff.1 ho).1;omega
   exact ih e.on Z8 ops[e.on] (Array.getElem?_eq_getElem hon) (closed e.on _ (Array.getElem?_eq_getElem hon) h4) i hi h3
def gB(P:Program)(md:Wv)(ops:Array Oper)(loud:List Nat)(Q:Exit->Act->World->Prop):Nat->Array Bool->Act->World->Prop
 | 0,listed,a,w=>Zj md ops listed=[]/\Q .normal a w
 | f+1,listed,a,w=>(Zj md ops listed=[]->Q .normal a w)/\∀i∈Zj md ops listed,
   if i∈loud then wpOp P ops Q i (gB P md ops loud Q f (listed.setIfInBounds i true)) a w
   else stOp P ops w i (fun a'=>gB P md ops loud Q f (listed.setIfInBounds i true) a' w) a
theorem Ai:∀(f:Nat)(listed:Array Bool)(a:Act)(w:World),gB P md ops loud Q f listed a w->wpAny P md ops Q f listed a w
 | 0,_,_,_,h=>h
 | f+1,listed,a,w,h=>⟨h.1,fun i hi=>by
   have h2:=h.2 i hi;split at h2
   ·exact wpOp_mono (fun a' w' h'=>Ai f _ a' w' h') h2
   ·exact wpOp_of_stOp (fun a' h'=>Ai f _ a' w h') h2⟩
theorem Tj{i:Nat}{listed:Array Bool}{j:Nat}(h:Zj md ops (listed.setIfInBounds i true)=[])(hj:j∈Zj md ops listed):j=i:=by
 refine Classical.byContradiction fun OG=>?_;have:=ready_mono hj OG;rw [h]at this;cases this
theorem UH{i:Nat}{oj:Oper}{listed:Array Bool}(hr:i∈Zj md ops listed)(hall:∀e∈oj.after,WX md e=true->listed.getD e.on false=true):∀e∈oj.after,WX md e=true->e.on≠i:=fun e he hb heq=>by
 have h1:=hall e he hb;rw [heq,getD_both (mem_ready.1 hr).1]at h1;cases h1
theorem QT{i j:Nat}{oi:Oper}{listed:Array Bool}(U9:∀k ok,ops[k]?=some ok->k≠i->listed.getD k true=false->(∀e∈ok.after,WX md e=true->e.on≠i)->oi.apart ops ok=true)(QM:listed.getD j true=false):
  ∀k ok,ops[k]?=some ok->k≠i->(listed.setIfInBounds j true).getD k true=false->(∀e∈ok.after,WX md e=true->e.on≠i)->oi.apart ops ok=true:=fun k ok hk hki akA hno=>by
 refine U9 k ok hk hki ?_ hno;by_cases hjk:j=k
 ·subst hjk;exact QM
 ·rwa [getD_set_ne true hjk]at akA
theorem Gi{listed:Array Bool}{j k:Nat}(h:listed.getD k true=true):(listed.setIfInBounds j true).getD k true=true:=by
 by_cases hjk:j=k
 ·subst hjk;simp only [Array.getD_eq_getD_getElem?,Array.getElem?_setIfInBounds_self];split<;>rfl
 ·rw [getD_set_ne true hjk];exact h
theorem abT{B:Array Nat}(hB:N7 md ops B=true)(Ow:∀(j:Nat) (o:Oper) cs b,ops[j]?=some o->o.op≠.select cs b){i:Nat}{oi:Oper}{v:Value}(hi:ops[i]?=some oi)(JC:i ∉ loud){w:World}:
  ∀(f:Nat) (listed:Array Bool) (a:Act),(∀j∈loud,(B.getD j 0).testBit i=true\/listed.getD j true=true)->Closed md ops listed ->
   (∀j oj,ops[j]?=some oj->j≠i->listed.getD j true=false->(∀e∈oj.after,WX md e=true->e.on≠i)->oi.apart ops oj=true) ->
   i∈Zj md ops listed->YieldsAt P ops w oi v a ->
   gB P md ops loud Q f (listed.setIfInBounds i true) (a.put oi.dst v) w->gB P md ops loud Q (f+1) listed a w:=by
 intro f
 induction f with
 | zero=>
  intro listed a _ hc U9 hr hy H;refine⟨fun h=>(by rw [h]at hr;cases hr),fun j hj=>?_⟩;obtain rfl:=Tj H.1 hj;rw [if_neg JC];exact hy.stOp hi H
 | succ f ih=>
  intro listed a hw hc U9 hr hy H;refine⟨fun h=>(by rw [h]at hr;cases hr),fun j hj=>?_⟩;by_cases OG:j=i
  ·subst OG;rw [if_neg JC];exact hy.stOp hi H
  ·obtain⟨QM,oj,hoj,hall⟩:=mem_ready.1 hj
   have GL:j ∉ loud:=fun GL=>by
    rcases hw j GL with h|h
    ·have h2:=Q0 hB hc j j (Nat.le_refl _) oj hoj hall i (Array.getElem?_eq_some_iff.1 hi).1 h;rw [getD_both (mem_ready.1 hr).1]at h2;cases h2
    ·rw [QM]at h;cases h
   have h1:=H.2 j (ready_mono hj OG);rw [if_neg GL]at h1 ⊢
   refine stOp_mono (fun a' h3=>ih (listed.setIfInBounds j true) a' (fun k hk=>(hw k hk).imp id Gi) (hc.set hj) (QT U9 QM) (ready_mono hr (Ne.symm OG)) h3.1 ?_)
    (stOp_put hoj (U9 j oj hoj OG QM (UH hr hall)) (fun cs b=>Ow i oi cs b hi) (fun cs b=>Ow j oj cs b hoj) hy h1)
   rw [Array.setIfInBounds_comm _ _ OG];exact h3.2
theorem abW{j:Nat}{oi oj:Oper}{v:Value}{w:World}(hj:ops[j]?=some oj)(hap:oi.apart ops oj=true)
  (hsi:∀cs b,oi.op≠.select cs b)(hsj:∀cs b,oj.op≠.select cs b){K:Act->Prop}{a:Act}
  (hy:Yields P ops oi v a)(h:stOp P ops w j K (a.put oi.dst v)):
  stOp P ops w j (fun a'=>Yields P ops oi v a'/\K (a'.put oi.dst v)) a:=by
 obtain⟨h1,h2,h3⟩:=Oper.apart_spec hap;have keep:∀u,Yields P ops oi v (a.put oj.dst u):=fun u=>hy.of_same (execOp_put oi hsi a oj.dst u h3) (wanted_put oi a oj.dst u h3);unfold stOp at *;simp only [hj]at *;rw [wanted_put oj a oi.dst v h1]at h;split
 ·rename_i hw;simp only [hw,if_true]at h;unfold Oper.still at *;rw [execOp_put oj hsj a oi.dst v h1]at h;generalize (execOp a.eval oj).run P w=r at *;cases r with
  | ok n w'=>
   cases n<;>simp only [Uf]at h ⊢
   case value u=>exact⟨h.1,keep u,by rw [<-TH a v u h2];exact h.2⟩
   case skip=>exact⟨h.1,keep _,by rw [<-TH a v undef h2];exact h.2⟩
   case enter f args=>obtain⟨hw',u,hc,hn⟩:=h;exact⟨hw',u,hc,keep u,by rw [<-TH a v u h2];exact hn⟩
  | halt x w'=>simp only [Uf]at h
 ·rename_i hw;simp only [hw]at h;exact⟨keep _,by rw [<-TH a v undef h2];exact h⟩
theorem acJ(Ow:∀(j:Nat) (o:Oper) cs b,ops[j]?=some o->o.op≠.select cs b){i:Nat}{oi:Oper}{v:Value}(hi:ops[i]?=some oi)(JC:i ∉ loud)
  (hQ:∀c a w d u,Q (.panic c) (a.put d u) w->Q (.panic c) a w):
  ∀(f:Nat) (listed:Array Bool) (a:Act) (w:World),
   (∀j oj,ops[j]?=some oj->j≠i->listed.getD j true=false->(∀e∈oj.after,WX md e=true->e.on≠i)->oi.apart ops oj=true) ->
   i∈Zj md ops listed->Yields P ops oi v a ->
   gB P md ops loud Q f (listed.setIfInBounds i true) (a.put oi.dst v) w->gB P md ops loud Q (f+1) listed a w:=by
 have here:∀ {K:Act->Prop} {a:Act} {w:World},Yields P ops oi v a->K (a.put oi.dst v)->stOp P ops w i K a:=fun {K a w} hy h=>by
  unfold stOp;simp only [hi];rcases hy with⟨hw,hv⟩|⟨hw,rfl⟩
  ·simp only [hw,if_true,Oper.still,hv w,Uf];exact⟨trivial,h⟩
  ·simp only [hw,Bool.false_eq_true,if_false];exact h
 intro f
 induction f with
 | zero=>
  intro listed a w U9 hr hy H;refine⟨fun h=>(by rw [h]at hr;cases hr),fun j hj=>?_⟩;obtain rfl:=Tj H.1 hj;rw [if_neg JC];exact here hy H
 | succ f ih=>
  intro listed a w U9 hr hy H;refine⟨fun h=>(by rw [h]at hr;cases hr),fun j hj=>?_⟩;by_cases OG:j=i
  ·subst OG;rw [if_neg JC];exact here hy H
  ·obtain⟨QM,oj,hoj,hall⟩:=mem_ready.1 hj;have h1:=H.2 j (ready_mono hj OG);split
   ·rename_i GL;rw [if_pos GL]at h1
    refine wpOp_mono (fun a' w' h3=>ih (listed.setIfInBounds j true) a' w' (QT U9 QM) (ready_mono hr (Ne.symm OG)) h3.1 ?_)
     (wpOp_put hoj (U9 j oj hoj OG QM (UH hr hall)) (fun cs b=>Ow i oi cs b hi) (fun cs b=>Ow j oj cs b hoj) (fun c a w h=>hQ c a w _ _ h) hy h1)
    rw [Array.setIfInBounds_comm _ _ OG];exact h3.2
   ·rename_i GL;rw [if_neg GL]at h1
    refine stOp_mono (fun a' h3=>ih (listed.setIfInBounds j true) a' w (QT U9 QM) (ready_mono hr (Ne.symm OG)) h3.1 ?_)
     (abW hoj (U9 j oj hoj OG QM (UH hr hall)) (fun cs b=>Ow i oi cs b hi) (fun cs b=>Ow j oj cs b hoj) hy h1)
    rw [Array.setIfInBounds_comm _ _ OG];exact h3.2
def Oz(md:Wv)(ops:Array Oper)(loud ZO:List Nat)(B:Array Nat):List Nat->Array Bool->Bool
 | [],listed=>decide (Zj md ops listed=[])
 | i :: is,listed=>
   (if loud.contains i then decide (Zj md ops listed=[i])
    else(Zj md ops listed).contains i&&Region.free md ops listed i&&(ZO.contains i || loud.all fun j=>(B.getD j 0).testBit i || listed.getD j true)) &&
   Oz md ops loud ZO B is (listed.setIfInBounds i true)
def Uo(P:Program)(ops:Array Oper)(loud ZO:List Nat)(Q:Exit->Act->World->Prop):List Nat->Act->World->Prop
 | [],a,w=>Q .normal a w
 | i :: is,a,w=>if loud.contains i then wpOp P ops Q i (Uo P ops loud ZO Q is) a w
  else if ZO.contains i then ∃o v,ops[i]?=some o/\Yields P ops o v a/\Uo P ops loud ZO Q is (a.put o.dst v) w
  else stOp P ops w i (fun a'=>Uo P ops loud ZO Q is a' w) a
theorem IM{B:Array Nat}(hB:N7 md ops B=true)(hs:Vv ops=true)(hQ:∀c a w d u,Q (.panic c) (a.put d u) w->Q (.panic c) a w):
  ∀(is:List Nat) (listed:Array Bool) (a:Act) (w:World),Closed md ops listed->Oz md ops loud ZO B is listed=true->Uo P ops loud ZO Q is a w->gB P md ops loud Q is.length listed a w
 | [],listed,a,w,_,hp,h=>⟨by simpa [Oz]using hp,h⟩
 | i :: is,listed,a,w,hc,hp,h=>by
  simp only [Oz,ZT]at hp;obtain⟨h1,h2⟩:=hp;unfold Uo at h;by_cases hl:loud.contains i=true
  ·rw [if_pos hl,decide_eq_true_eq]at h1;rw [if_pos hl]at h;have hr:i∈Zj md ops listed:=by rw [h1];simp
   refine⟨fun h0=>(by rw [h0]at hr;cases hr),fun j hj=>?_⟩;rw [h1]at hj;obtain rfl:j=i:=by simpa using hj
   rw [if_pos (by simpa using hl)];exact wpOp_mono (fun a' w' h'=>IM hB hs hQ is _ a' w' (hc.set hr) h2 h') h
  ·rw [if_neg hl]at h1 h;simp only [ZT,Xd,List.all_eq_true]at h1;obtain⟨⟨hr,hf⟩,hw⟩:=h1;have Lp:i∈Zj md ops listed:=by simpa using hr
   have JC:i ∉ loud:=by simpa using hl
   by_cases EW:ZO.contains i=true
   ·rw [if_pos EW]at h;obtain⟨o,v,ho,hy,hk⟩:=h;exact acJ (XQ hs) ho JC hQ is.length listed a w (WY ho hf) Lp hy (IM hB hs hQ is _ _ w (hc.set Lp) h2 hk)
   ·rw [if_neg EW]at h;have hw':=hw.resolve_left EW;obtain⟨_,o,ho,_⟩:=mem_ready.1 Lp;obtain⟨v,hy,hk⟩:=yieldsAt_of_stOp ho h;exact abT hB (XQ hs) ho JC is.length listed a (fun j hj=>by simpa using hw' j hj) hc (WY ho hf) Lp hy (IM hB hs hQ is _ _ w (hc.set Lp) h2 hk)
def FH(ops:Array Oper)(loud ZO is:List Nat):Bool:=
 Vv ops&&N7 .any ops (Yo ops)&&decide (is.length=ops.size)&&Oz .any ops loud ZO (Yo ops) is (Array.replicate ops.size false)
theorem YK{id:Nat}{a:Act}{w:World}(loud ZO is:List Nat)(hm:P.follows .mixedOrders=true)(hB:FH ops loud ZO is=true)
  (hQ:∀c a w d u,Q (.panic c) (a.put d u) w->Q (.panic c) a w)(h:Uo P ops loud ZO Q is a w.drew):(Code.region id ops true).wp P Q a w:=by
 simp only [FH,ZT,decide_eq_true_eq]at hB;obtain⟨⟨⟨hs,hw⟩,hl⟩,hp⟩:=hB;refine wp_region_any hm ?_;have:=Ai _ _ _ _ (IM (md:=.any) hw hs hQ is _ a w.drew (fun j oj _ hl=>by rw [getD_replicate_false]at hl;cases hl) hp h);rw [hl]at this;exact this
theorem QC{i:Nat}{is:List Nat}{o:Oper}{a:Act}{w:World}(hl:(loud.contains i || ZO.contains i)=false)(ho:ops[i]?=some o)
  (h:∀K:Act->Prop,(∀a',Uo P ops loud ZO Q is a' w->K a')->if ZH o (yielded ops a.tmps)then o.still P a w K else K (a.put o.dst undef)):Uo P ops loud ZO Q (i :: is) a w:=by
 rw [Bool.or_eq_false_iff]at hl;unfold Uo;rw [if_neg (by simpa using hl.1),if_neg (by simpa using hl.2)];unfold stOp;simp only [ho];exact h _ (fun a' h'=>h')
theorem BN{i:Nat}{is:List Nat}{o:Oper}{a:Act}{w:World}{v:Value}(hl:(!loud.contains i&&ZO.contains i)=true)(ho:ops[i]?=some o)(hg:ZH o (yielded ops a.tmps)=true)
  (hr:∀w,(execOp a.eval o).run P w=.ok (.value v) w)(h:Uo P ops loud ZO Q is (a.put o.dst v) w):Uo P ops loud ZO Q (i :: is) a w:=by
 rw [ZT,Bool.not_eq_true']at hl;unfold Uo;rw [if_neg (by simpa using hl.1),if_pos hl.2];exact⟨o,v,ho,.inl ⟨hg,hr⟩,h⟩
theorem XJ{i:Nat}{is:List Nat}{o:Oper}{a:Act}{w:World}(hl:loud.contains i=true)(ho:ops[i]?=some o)
  (h:∀K:Act->World->Prop,(∀a w,Uo P ops loud ZO Q is a w->K a w)->if ZH o (yielded ops a.tmps)=true then Oper.wp P o a w K Q else K (a.put o.dst undef) w):Uo P ops loud ZO Q (i :: is) a w:=by
 unfold Uo;rw [if_pos hl];exact wpOp_step ho (fun K hK=>h K hK)
theorem ac6{i:Nat}{is:List Nat}{o:Oper}{a:Act}{w:World}(hl:(loud.contains i || ZO.contains i)=false)(ho:ops[i]?=some o)(hgd:o.guard=none)(ty:TypeId)(x:Operand)(hop:o.op=.load ty x)
  (g:Nat)(hx:a.eval x=↑(ZC g 0))(t:TypeId)(cs:Array Value)(d:TypeDesc)(hb:w.heap[g]?=some (.cells cs t (0,0)))
  (hu:P.underlying ty=some d)(hd:(match d with | .struct _ | .array _ _=>true|_=>false)=true)(hi:(P.info? ty).map (·.size)=some cs.size)
  (h:Uo P ops loud ZO Q is (a.put o.dst (.agg cs)) w):Uo P ops loud ZO Q (i :: is) a w:=by
 refine QC hl ho (fun K hK=>?_);have hw:ZH o (yielded ops a.tmps)=true:=by simp [ZH,hgd]
 rw [if_pos hw];unfold Oper.still execOp;simp only [hop,hx,Instr.loadAt,Instr.sureAddr,Sem.run_bind,Sem.run_pure,Result.andThen_ok,run_loadVar_row w g t ty cs (0,0) d hb hu hd hi];exact⟨rfl,hK _ h⟩
theorem Yd{i:Nat}{is:List Nat}{o:Oper}{a a':Act}{w:World}(h:Uo P ops loud ZO Q is a' w)(hl:(loud.contains i || ZO.contains i)=false:=by exact rfl)(ho:ops[i]?=some o:=by exact rfl)
  (hs:∀K:Act->Prop,K a'->if ZH o (yielded ops a.tmps)then o.still P a w K else K (a.put o.dst undef):=by intro K hK;go_simp;exact hK):Uo P ops loud ZO Q (i :: is) a w:=
 QC hl ho (fun K hK=>hs K (hK _ h))
theorem XD{a:Act}{w:World}(h:Q .normal a w):Uo P ops loud ZO Q [] a w:=h
end
end Go.Proofs.YthednemlahioeaaGreatDoor
