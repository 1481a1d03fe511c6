/-
  intra: what is around a block, and the four modes.
-/
import Derived.Test.YtnnpoodcdibpiaaGreatDoorB2
import Derived.StillTailTactics
import Derived.Laws.Rows
namespace Go.Proofs.YtnnpoodcdibpiaaGreatDoor
open Go.RowKit
set_option maxRecDepth 100000
set_option maxHeartbeats 8000000
def arL(ab lf:List UInt8)(co:UInt8):List Value:=.int .i64 8 :: (u8s ab++(u8s lf++[.int .u8 (co.toNat:Int)]))
def arV(ab lf:List UInt8)(co:UInt8):Array Value:=(arL ab lf co).toArray
section
variable {ab lf : List UInt8} {co : UInt8} {w : World} {p : Nat}
theorem ar_n(hb:Blk w p 470 (arV ab lf co)):w.cell? ⟨p,0,none⟩=some (.int .i64 8):=hb.cell 0
theorem ar_above(hb:Blk w p 470 (arV ab lf co))(h1:ab.length=8){i:Nat}(hi:i<8):w.cell? ⟨p,1+i,none⟩=some (.int .u8 ((ab.getD i 0).toNat:Int)):=by
 rw [hb.cell,arV,List.getElem?_toArray,arL,Nat.add_comm 1 i,List.getElem?_cons_succ,List.getElem?_append_left (by rw [u8s_length];omega)];simp [u8s,h1,hi]
theorem ar_left(hb:Blk w p 470 (arV ab lf co))(h1:ab.length=8)(h2:lf.length=8){i:Nat}(hi:i<8):w.cell? ⟨p,9+i,none⟩=some (.int .u8 ((lf.getD i 0).toNat:Int)):=by
 rw [hb.cell,arV,List.getElem?_toArray,arL,show 9+i=(8+i)+1 by omega,List.getElem?_cons_succ,List.getElem?_append_right (by rw [u8s_length];omega),u8s_length,h1,Nat.add_sub_cancel_left,List.getElem?_append_left (by rw [u8s_length];omega)];simp [u8s,h2,hi]
theorem ar_corner(hb:Blk w p 470 (arV ab lf co))(h1:ab.length=8)(h2:lf.length=8):w.cell? ⟨p,17,none⟩=some (.int .u8 (co.toNat:Int)):=by
 rw [hb.cell,arV,List.getElem?_toArray,arL,show 17=16+1 by omega,List.getElem?_cons_succ,List.getElem?_append_right (by rw [u8s_length];omega),u8s_length,h1,List.getElem?_append_right (by rw [u8s_length];omega),u8s_length,h2];rfl
theorem ar_set_above{v:Nat}(h1:ab.length=8){i:Nat}(hi:i<8)(hv:v<256):(arV ab lf co).setIfInBounds (1+i) (.int .u8 (v:Int))=arV (ab.set i (UInt8.ofNat v)) lf co:=by
 have e:=u8s_set ab i v hv;unfold arV arL;rw [List.setIfInBounds_toArray,Nat.add_comm 1 i,List.set_cons_succ,List.set_append_left _ _ (by rw [u8s_length];omega),e]
theorem ar_set_left{v:Nat}(h1:ab.length=8)(h2:lf.length=8){i:Nat}(hi:i<8)(hv:v<256):(arV ab lf co).setIfInBounds (9+i) (.int .u8 (v:Int))=arV ab (lf.set i (UInt8.ofNat v)) co:=by
 have e:=u8s_set lf i v hv;unfold arV arL;rw [List.setIfInBounds_toArray,show 9+i=(8+i)+1 by omega,List.set_cons_succ,List.set_append_right _ _ (by rw [u8s_length];omega),u8s_length,h1,Nat.add_sub_cancel_left,List.set_append_left _ _ (by rw [u8s_length];omega),e]
theorem ar_set_corner{v:Nat}(h1:ab.length=8)(h2:lf.length=8)(hv:v<256):(arV ab lf co).setIfInBounds 17 (.int .u8 (v:Int))=arV ab lf (UInt8.ofNat v):=by
 unfold arV arL;rw [List.setIfInBounds_toArray,show 17=16+1 by omega,List.set_cons_succ,List.set_append_right _ _ (by rw [u8s_length];omega),u8s_length,h1,List.set_append_right _ _ (by rw [u8s_length];omega),u8s_length,h2];simp [UInt8.toNat_ofNat',Nat.mod_eq_of_lt hv]
end
theorem iDown(w:World)(ab lf:List UInt8)(co:UInt8)(h1:ab.length=8)(x:Nat)(y:Int)(hx:x<8):Calls Tryz.prog 388 #[.agg (arV ab lf co),.int .i64 (x:Int),.int .i64 y] w fun e w'=>e=.returned (.int .u8 ((ab.getD x 0).toNat:Int))/\Mod (fun _=>False) w w':=by
 have hb:Blk (w.alloc (.cells (arV ab lf co) 470)) w.heap.size 470 (arV ab lf co):=Blk.new _ _ _;have k0:=ar_above hb h1 hx;generalize (ab.getD x 0).toNat=v at *;generalize arV ab lf co=cs at *;clear hb;go_enter Tryz.func388,Tryz.ntmps388;go_wp2_with fail;go_ret;exact⟨rfl,(Mod.refl _ _).alloc _⟩
theorem iAcross(w:World)(ab lf:List UInt8)(co:UInt8)(h1:ab.length=8)(h2:lf.length=8)(x:Int)(y:Nat)(hy:y<8):Calls Tryz.prog 389 #[.agg (arV ab lf co),.int .i64 x,.int .i64 (y:Int)] w fun e w'=>e=.returned (.int .u8 ((lf.getD y 0).toNat:Int))/\Mod (fun _=>False) w w':=by
 have hb:Blk (w.alloc (.cells (arV ab lf co) 470)) w.heap.size 470 (arV ab lf co):=Blk.new _ _ _;have k0:=ar_left hb h1 h2 hy;generalize (lf.getD y 0).toNat=v at *;generalize arV ab lf co=cs at *;clear hb;go_enter Tryz.func389,Tryz.ntmps389;go_wp2_with fail;go_ret;exact⟨rfl,(Mod.refl _ _).alloc _⟩
def slopeN(ab lf:List UInt8)(co:UInt8)(x y:Nat):Nat:=clipN (((ab.getD x 0).toNat:Int)+((lf.getD y 0).toNat:Int)-(co.toNat:Int))
theorem iSlope(w:World)(ab lf:List UInt8)(co:UInt8)(h1:ab.length=8)(h2:lf.length=8)(x y:Nat)(hx:x<8)(hy:y<8):Calls Tryz.prog 390 #[.agg (arV ab lf co),.int .i64 (x:Int),.int .i64 (y:Int)] w fun e w'=>e=.returned (.int .u8 ((slopeN ab lf co x y:Nat):Int))/\Mod (fun _=>False) w w':=by
 have hb:Blk (w.alloc (.cells (arV ab lf co) 470)) w.heap.size 470 (arV ab lf co):=Blk.new _ _ _;have k0:=ar_above hb h1 hx;have k1:=ar_left hb h1 h2 hy;have k2:=ar_corner hb h1 h2;have x0:(ab.getD x 0).toNat<256:=UInt8.toNat_lt _;have x1:(lf.getD y 0).toNat<256:=UInt8.toNat_lt _;have x2:co.toNat<256:=UInt8.toNat_lt _;unfold slopeN;generalize (ab.getD x 0).toNat=u at *;generalize (lf.getD y 0).toNat=v at *;generalize co.toNat=z at *;have M0:Mod (fun _=>False) w (w.alloc (.cells (arV ab lf co) 470)):=(Mod.refl _ _).alloc _;generalize arV ab lf co=cs at *;clear hb;have e0:IntKind.i64.wrap (u:Int)=(u:Int):=IntWalk.i64_in _ ⟨by omega,by omega⟩;have e1:IntKind.i64.wrap (v:Int)=(v:Int):=IntWalk.i64_in _ ⟨by omega,by omega⟩;have e2:IntKind.i64.wrap (z:Int)=(z:Int):=IntWalk.i64_in _ ⟨by omega,by omega⟩;have e3:IntKind.i64.wrap ((u:Int)+(v:Int))=(u:Int)+(v:Int):=IntWalk.i64_in _ ⟨by omega,by omega⟩;have e4:IntKind.i64.wrap ((u:Int)+(v:Int)-(z:Int))=(u:Int)+(v:Int)-(z:Int):=IntWalk.i64_in _ ⟨by omega,by omega⟩;have p0:(0:Int)<=(x:Int):=by omega
 have p1:(x:Int)<8:=by omega
 have p2:(0:Int)<=(y:Int):=by omega
 have p3:(y:Int)<8:=by omega
 have q0:-9223372036854775808<=(u:Int)+(v:Int)-(z:Int)/\(u:Int)+(v:Int)-(z:Int)<=9223372036854775807:=⟨by omega,by omega⟩
 have HQ:=Lib.hid (And.intro q0 (And.intro M0 (And.intro e0 (And.intro e1 (And.intro e2 (And.intro e3 e4))))));clear q0 M0 e0 e1 e2 e3 e4;go_enter Tryz.func390,Tryz.ntmps390;go_wp2_with fail;obtain⟨_,_,e0,e1,e2,e3,e4⟩:=HQ.out;go_quiet ((go_at_call 400;exact Calls.quiet_of_same ((clip_any _ _ HQ.out.1).mono fun _ _ ⟨a,b⟩=>⟨a,b.symm⟩)))
 clear e0 e1 e2 e3 e4;go_wp2_with fail;go_ret;exact⟨rfl,HQ.out.2.1.drewN _⟩
def flS(ab lf:List UInt8):Nat->Nat
 | 0=>8
 | k+1=>flS ab lf k+((ab.getD k 0).toNat+(lf.getD k 0).toNat)
theorem flS_le(ab lf:List UInt8):∀k,flS ab lf k<=8+510*k
 | 0=>Nat.le_refl _
 | k+1=>by
  have:=flS_le ab lf k;have h1:(ab.getD k 0).toNat<256:=UInt8.toNat_lt _;have h2:(lf.getD k 0).toNat<256:=UInt8.toNat_lt _;unfold flS;omega
def flatN(ab lf:List UInt8):Nat:=flS ab lf 8/16
def FlatRel(w:World)(p:Nat)(cs:Array Value)(ab lf:List UInt8)(s7 s13:Value)(wr:World):Prop:=
 ∃k:Nat,k<=8/\s13=.int .i64 (k:Int)/\s7=.int .i64 ((flS ab lf k:Nat):Int)/\Sat (fun _=>False) w wr [⟨p,470,cs⟩] []
theorem iFlat(w:World)(ab lf:List UInt8)(co:UInt8)(h1:ab.length=8)(h2:lf.length=8)(x y:Int):Calls Tryz.prog 387 #[.agg (arV ab lf co),.int .i64 x,.int .i64 y] w fun e w'=>e=.returned (.int .u8 ((flatN ab lf:Nat):Int))/\Mod (fun _=>False) w w':=by
 have HS:=(Sat.nil (fun _=>False) w).alloc 470 (arV ab lf co) rfl;have k0:=ar_n (HS.own_ 0 rfl);have H0:=Lib.hid HS;clear HS;obtain⟨cs,hcs⟩:∃cs,cs=arV ab lf co:=⟨_,rfl⟩
 rw [<-hcs]at k0 H0 ⊢;have HC:=Lib.hid hcs;clear hcs;go_enter Tryz.func387,Tryz.ntmps387;go_wp2_with fail;clear k0;go_loopw [7,13] (FlatRel w w.heap.size cs ab lf) (fun _ s _=>8-(intOf s).toNat)
 case atStart=>exact⟨0,by omega,rfl,rfl,H0.out⟩
 case round=>
  clear H0;obtain⟨k,hk,rfl,rfl,HS⟩:=hrel;have hfl:=flS_le ab lf k;by_cases hlt:k<8
  ·have hb:=HS.own_ 0 rfl;dsimp only at hb;rw [HC.out]at hb;have c0:=ar_above hb h1 hlt;have c1:=ar_left hb h1 h2 hlt;have x0:(ab.getD k 0).toNat<256:=UInt8.toNat_lt _;have x1:(lf.getD k 0).toNat<256:=UInt8.toNat_lt _;have hst:flS ab lf (k+1)=flS ab lf k+((ab.getD k 0).toNat+(lf.getD k 0).toNat):=rfl;generalize (ab.getD k 0).toNat=u at *;generalize (lf.getD k 0).toNat=v at *;obtain⟨z,hz⟩:∃z,z=flS ab lf k:=⟨_,rfl⟩
   rw [<-hz]at hfl hst ⊢;have e0:IntKind.i64.wrap (u:Int)=(u:Int):=IntWalk.i64_in _ ⟨by omega,by omega⟩;have e1:IntKind.i64.wrap (v:Int)=(v:Int):=IntWalk.i64_in _ ⟨by omega,by omega⟩;have e3:IntKind.i64.wrap ((u:Int)+(v:Int))=(u:Int)+(v:Int):=IntWalk.i64_in _ ⟨by omega,by omega⟩;have e4:IntKind.i64.wrap ((z:Int)+((u:Int)+(v:Int)))=(z:Int)+((u:Int)+(v:Int)):=IntWalk.i64_in _ ⟨by omega,by omega⟩;have p0:(0:Int)<=(k:Int):=by omega
   have p1:(k:Int)<8:=by omega
   have HK:=Lib.hid (And.intro HS (And.intro hst (And.intro e0 (And.intro e1 (And.intro e3 e4)))));clear HS hst hb e0 e1 e3 e4 hz;go_upto_region 5 with(fail)
   obtain⟨_,_,e0,e1,e3,e4⟩:=HK.out;go_quiet (fail)
   clear e0 e1 e3 e4;go_wp2_with fail;go_roundw
   case rel=>exact⟨k+1,by omega,by go_num,by rw [HK.out.2.1];go_num,HK.out.1.drewN _⟩
   case measure=>simp [intOf];omega
  ·obtain rfl:k=8:=by omega
   have k0:wr.cell? ⟨w.heap.size,0,none⟩=some (.int .i64 8):=by
    have hb:=HS.own_ 0 rfl;dsimp only at hb;rw [HC.out]at hb;exact ar_n hb
   have HK:=Lib.hid HS;clear HS;obtain⟨z,hz⟩:∃z,z=flS ab lf 8:=⟨_,rfl⟩
   rw [<-hz]at hfl ⊢;have HZ:=Lib.hid hz;clear hz;go_wp2_with fail;go_ret;refine⟨congrArg (fun z=>Ending.returned (.int .u8 z)) ?_,HK.out.mod⟩;unfold flatN;rw [<-HZ.out];omega
section
variable {P : Program} {ops : Array Oper} {md : Region.Mode} {loud pure_ : List Nat} {Q : Exit → Act → World → Prop}
def waitB(md:Region.Mode)(ops:Array Oper)(B:Array Nat):Bool:=
 (List.range ops.size).all fun j=>(List.range ops.size).all fun i=>!(B.getD j 0).testBit i ||
  match ops[j]? with
  | some o=>o.after.any fun e=>Region.binds md e&&decide (e.on<j)&&(e.on == i || (B.getD e.on 0).testBit i)
  | none=>false
def Closed(md:Region.Mode)(ops:Array Oper)(listed:Array Bool):Prop:=
 ∀j oj,ops[j]?=some oj->listed.getD j false=true->∀e∈oj.after,Region.binds md e=true->listed.getD e.on false=true
theorem Closed.set{i:Nat}{listed:Array Bool}(h:Closed md ops listed)(hi:i∈Region.ready md ops listed):Closed md ops (listed.setIfInBounds i true):=by
 obtain⟨_,oi,hoi,hall⟩:=mem_ready.1 hi;intro j oj hj hl e he hb;by_cases hij:i=j
 ·subst hij;obtain rfl:oj=oi:=Option.some.inj (hj.symm.trans hoi);exact getD_set_true (hall e he hb)
 ·rw [getD_set_ne false hij]at hl;exact getD_set_true (h j oj hj hl e he hb)
theorem waits_listed{B:Array Nat}{listed:Array Bool}(hB:waitB md ops B=true)(closed:Closed md ops listed):
  ∀(d t:Nat),t<=d->∀o,ops[t]?=some o->(∀e∈o.after,Region.binds md e=true->listed.getD e.on false=true)->∀i,i<ops.size->(B.getD t 0).testBit i=true->listed.getD i false=true:=by
 intro d
 induction d with
 | zero=>
  intro t ht o ho hd i hi hb;obtain rfl:t=0:=by omega
  have h1:=List.all_eq_true.1 (List.all_eq_true.1 hB 0 (List.mem_range.2 (Array.getElem?_eq_some_iff.1 ho).1)) i (List.mem_range.2 hi);rw [hb,ho]at h1;simp only [Bool.not_true,Bool.false_or]at h1;obtain⟨e,he,h2⟩:=Array.any_eq_true'.1 h1;simp at h2
 | succ d ih=>
  intro t ht o ho hd i hi hb;have h1:=List.all_eq_true.1 (List.all_eq_true.1 hB t (List.mem_range.2 (Array.getElem?_eq_some_iff.1 ho).1)) i (List.mem_range.2 hi);rw [hb,ho]at h1;simp only [Bool.not_true,Bool.false_or]at h1;obtain⟨e,he,h2⟩:=Array.any_eq_true'.1 h1;simp only [Bool.and_eq_true,Bool.or_eq_true,beq_iff_eq,decide_eq_true_eq]at h2;obtain⟨⟨hbd,hlt⟩,h3⟩:=h2;have h4:=hd e he hbd;rcases h3 with h3|h3
  ·rw [<-h3];exact h4
  ·have hon:e.on<ops.size:=by have:=(Array.getElem?_eq_some_iff.1 ho).1;omega
   exact ih e.on (by omega) ops[e.on] (Array.getElem?_eq_getElem hon) (closed e.on _ (Array.getElem?_eq_getElem hon) h4) i hi h3
def wpX(P:Program)(md:Region.Mode)(ops:Array Oper)(loud:List Nat)(Q:Exit->Act->World->Prop):Nat->Array Bool->Act->World->Prop
 | 0,listed,a,w=>Region.ready md ops listed=[]/\Q .normal a w
 | f+1,listed,a,w=>(Region.ready md ops listed=[]->Q .normal a w)/\∀i∈Region.ready md ops listed,
   if i∈loud then wpOp P ops Q i (wpX P md ops loud Q f (listed.setIfInBounds i true)) a w
   else stOp P ops w i (fun a'=>wpX P md ops loud Q f (listed.setIfInBounds i true) a' w) a
theorem wpX_any:∀(f:Nat)(listed:Array Bool)(a:Act)(w:World),wpX P md ops loud Q f listed a w->wpAny P md ops Q f listed a w
 | 0,_,_,_,h=>h
 | f+1,listed,a,w,h=>⟨h.1,fun i hi=>by
   have h2:=h.2 i hi;split at h2
   ·exact wpOp_mono (fun a' w' h'=>wpX_any f _ a' w' h') h2
   ·exact wpOp_of_stOp (fun a' h'=>wpX_any f _ a' w h') h2⟩
theorem ready_set_nil{i:Nat}{listed:Array Bool}{j:Nat}(h:Region.ready md ops (listed.setIfInBounds i true)=[])(hj:j∈Region.ready md ops listed):j=i:=by
 refine Classical.byContradiction fun hji=>?_;have:=ready_mono hj hji;rw [h]at this;cases this
theorem not_waiting{i:Nat}{oj:Oper}{listed:Array Bool}(hr:i∈Region.ready md ops listed)(hall:∀e∈oj.after,Region.binds md e=true->listed.getD e.on false=true):∀e∈oj.after,Region.binds md e=true->e.on≠i:=fun e he hb heq=>by
 have h1:=hall e he hb;rw [heq,getD_both (mem_ready.1 hr).1]at h1;cases h1
theorem free_set{i j:Nat}{oi:Oper}{listed:Array Bool}(hfree:∀k ok,ops[k]?=some ok->k≠i->listed.getD k true=false->(∀e∈ok.after,Region.binds md e=true->e.on≠i)->oi.apart ops ok=true)(hjun:listed.getD j true=false):
  ∀k ok,ops[k]?=some ok->k≠i->(listed.setIfInBounds j true).getD k true=false->(∀e∈ok.after,Region.binds md e=true->e.on≠i)->oi.apart ops ok=true:=fun k ok hk hki hkun hno=>by
 refine hfree k ok hk hki ?_ hno;by_cases hjk:j=k
 ·subst hjk;exact hjun
 ·rwa [getD_set_ne true hjk]at hkun
theorem getD_keep{listed:Array Bool}{j k:Nat}(h:listed.getD k true=true):(listed.setIfInBounds j true).getD k true=true:=by
 by_cases hjk:j=k
 ·subst hjk;simp only [Array.getD_eq_getD_getElem?,Array.getElem?_setIfInBounds_self];split<;>rfl
 ·rw [getD_set_ne true hjk];exact h
theorem wpX_still{B:Array Nat}(hB:waitB md ops B=true)(hsel:∀(j:Nat) (o:Oper) cs b,ops[j]?=some o->o.op≠.select cs b){i:Nat}{oi:Oper}{v:Value}(hi:ops[i]?=some oi)(hil:i ∉ loud){w:World}:
  ∀(f:Nat) (listed:Array Bool) (a:Act),(∀j∈loud,(B.getD j 0).testBit i=true\/listed.getD j true=true)->Closed md ops listed ->
   (∀j oj,ops[j]?=some oj->j≠i->listed.getD j true=false->(∀e∈oj.after,Region.binds md e=true->e.on≠i)->oi.apart ops oj=true) ->
   i∈Region.ready md ops listed->YieldsAt P ops w oi v a ->
   wpX P md ops loud Q f (listed.setIfInBounds i true) (a.put oi.dst v) w->wpX P md ops loud Q (f+1) listed a w:=by
 intro f
 induction f with
 | zero=>
  intro listed a _ hc hfree hr hy H;refine⟨fun h=>(by rw [h]at hr;cases hr),fun j hj=>?_⟩;obtain rfl:=ready_set_nil H.1 hj;rw [if_neg hil];exact hy.stOp hi H
 | succ f ih=>
  intro listed a hw hc hfree hr hy H;refine⟨fun h=>(by rw [h]at hr;cases hr),fun j hj=>?_⟩;by_cases hji:j=i
  ·subst hji;rw [if_neg hil];exact hy.stOp hi H
  ·obtain⟨hjun,oj,hoj,hall⟩:=mem_ready.1 hj
   have hjl:j ∉ loud:=fun hjl=>by
    rcases hw j hjl with h|h
    ·have h2:=waits_listed hB hc j j (Nat.le_refl _) oj hoj hall i (Array.getElem?_eq_some_iff.1 hi).1 h;rw [getD_both (mem_ready.1 hr).1]at h2;cases h2
    ·rw [hjun]at h;cases h
   have h1:=H.2 j (ready_mono hj hji);rw [if_neg hjl]at h1 ⊢
   refine stOp_mono (fun a' h3=>ih (listed.setIfInBounds j true) a' (fun k hk=>(hw k hk).imp id getD_keep) (hc.set hj) (free_set hfree hjun) (ready_mono hr (Ne.symm hji)) h3.1 ?_)
    (stOp_put hoj (hfree j oj hoj hji hjun (not_waiting hr hall)) (fun cs b=>hsel i oi cs b hi) (fun cs b=>hsel j oj cs b hoj) hy h1)
   rw [Array.setIfInBounds_comm _ _ hji];exact h3.2
theorem stOp_putY{j:Nat}{oi oj:Oper}{v:Value}{w:World}(hj:ops[j]?=some oj)(hap:oi.apart ops oj=true)
  (hsi:∀cs b,oi.op≠.select cs b)(hsj:∀cs b,oj.op≠.select cs b){K:Act->Prop}{a:Act}
  (hy:Yields P ops oi v a)(h:stOp P ops w j K (a.put oi.dst v)):
  stOp P ops w j (fun a'=>Yields P ops oi v a'/\K (a'.put oi.dst v)) a:=by
 obtain⟨h1,h2,h3⟩:=Oper.apart_spec hap;have keep:∀u,Yields P ops oi v (a.put oj.dst u):=fun u=>hy.of_same (execOp_put oi hsi a oj.dst u h3) (wanted_put oi a oj.dst u h3);unfold stOp at *;simp only [hj]at *;rw [wanted_put oj a oi.dst v h1]at h;split
 ·rename_i hw;simp only [hw,if_true]at h;unfold Oper.still at *;rw [execOp_put oj hsj a oi.dst v h1]at h;generalize (execOp a.eval oj).run P w=r at *;cases r with
  | ok n w'=>
   cases n<;>simp only [Oper.stillUpon]at h ⊢
   case value u=>exact⟨h.1,keep u,by rw [<-Act.put_comm a v u h2];exact h.2⟩
   case skip=>exact⟨h.1,keep _,by rw [<-Act.put_comm a v undef h2];exact h.2⟩
   case enter f args=>obtain⟨hw',u,hc,hn⟩:=h;exact⟨hw',u,hc,keep u,by rw [<-Act.put_comm a v u h2];exact hn⟩
  | halt x w'=>simp only [Oper.stillUpon]at h
 ·rename_i hw;simp only [hw]at h;exact⟨keep _,by rw [<-Act.put_comm a v undef h2];exact h⟩
theorem wpX_pure(hsel:∀(j:Nat) (o:Oper) cs b,ops[j]?=some o->o.op≠.select cs b){i:Nat}{oi:Oper}{v:Value}(hi:ops[i]?=some oi)(hil:i ∉ loud)
  (hQ:∀c a w d u,Q (.panic c) (a.put d u) w->Q (.panic c) a w):
  ∀(f:Nat) (listed:Array Bool) (a:Act) (w:World),
   (∀j oj,ops[j]?=some oj->j≠i->listed.getD j true=false->(∀e∈oj.after,Region.binds md e=true->e.on≠i)->oi.apart ops oj=true) ->
   i∈Region.ready md ops listed->Yields P ops oi v a ->
   wpX P md ops loud Q f (listed.setIfInBounds i true) (a.put oi.dst v) w->wpX P md ops loud Q (f+1) listed a w:=by
 have here:∀ {K:Act->Prop} {a:Act} {w:World},Yields P ops oi v a->K (a.put oi.dst v)->stOp P ops w i K a:=fun {K a w} hy h=>by
  unfold stOp;simp only [hi];rcases hy with⟨hw,hv⟩|⟨hw,rfl⟩
  ·simp only [hw,if_true,Oper.still,hv w,Oper.stillUpon];exact⟨trivial,h⟩
  ·simp only [hw,Bool.false_eq_true,if_false];exact h
 intro f
 induction f with
 | zero=>
  intro listed a w hfree hr hy H;refine⟨fun h=>(by rw [h]at hr;cases hr),fun j hj=>?_⟩;obtain rfl:=ready_set_nil H.1 hj;rw [if_neg hil];exact here hy H
 | succ f ih=>
  intro listed a w hfree hr hy H;refine⟨fun h=>(by rw [h]at hr;cases hr),fun j hj=>?_⟩;by_cases hji:j=i
  ·subst hji;rw [if_neg hil];exact here hy H
  ·obtain⟨hjun,oj,hoj,hall⟩:=mem_ready.1 hj;have h1:=H.2 j (ready_mono hj hji);split
   ·rename_i hjl;rw [if_pos hjl]at h1
    refine wpOp_mono (fun a' w' h3=>ih (listed.setIfInBounds j true) a' w' (free_set hfree hjun) (ready_mono hr (Ne.symm hji)) h3.1 ?_)
     (wpOp_put hoj (hfree j oj hoj hji hjun (not_waiting hr hall)) (fun cs b=>hsel i oi cs b hi) (fun cs b=>hsel j oj cs b hoj) (fun c a w h=>hQ c a w _ _ h) hy h1)
    rw [Array.setIfInBounds_comm _ _ hji];exact h3.2
   ·rename_i hjl;rw [if_neg hjl]at h1
    refine stOp_mono (fun a' h3=>ih (listed.setIfInBounds j true) a' w (free_set hfree hjun) (ready_mono hr (Ne.symm hji)) h3.1 ?_)
     (stOp_putY hoj (hfree j oj hoj hji hjun (not_waiting hr hall)) (fun cs b=>hsel i oi cs b hi) (fun cs b=>hsel j oj cs b hoj) hy h1)
    rw [Array.setIfInBounds_comm _ _ hji];exact h3.2
def planOk(md:Region.Mode)(ops:Array Oper)(loud pure_:List Nat)(B:Array Nat):List Nat->Array Bool->Bool
 | [],listed=>decide (Region.ready md ops listed=[])
 | i :: is,listed=>
   (if loud.contains i then decide (Region.ready md ops listed=[i])
    else(Region.ready md ops listed).contains i&&Region.free md ops listed i&&(pure_.contains i || loud.all fun j=>(B.getD j 0).testBit i || listed.getD j true)) &&
   planOk md ops loud pure_ B is (listed.setIfInBounds i true)
def wpPlan(P:Program)(ops:Array Oper)(loud pure_:List Nat)(Q:Exit->Act->World->Prop):List Nat->Act->World->Prop
 | [],a,w=>Q .normal a w
 | i :: is,a,w=>if loud.contains i then wpOp P ops Q i (wpPlan P ops loud pure_ Q is) a w
  else if pure_.contains i then ∃o v,ops[i]?=some o/\Yields P ops o v a/\wpPlan P ops loud pure_ Q is (a.put o.dst v) w
  else stOp P ops w i (fun a'=>wpPlan P ops loud pure_ Q is a' w) a
theorem wpX_plan{B:Array Nat}(hB:waitB md ops B=true)(hs:Region.noSelect ops=true)(hQ:∀c a w d u,Q (.panic c) (a.put d u) w->Q (.panic c) a w):
  ∀(is:List Nat) (listed:Array Bool) (a:Act) (w:World),Closed md ops listed->planOk md ops loud pure_ B is listed=true->wpPlan P ops loud pure_ Q is a w->wpX P md ops loud Q is.length listed a w
 | [],listed,a,w,_,hp,h=>⟨by simpa [planOk]using hp,h⟩
 | i :: is,listed,a,w,hc,hp,h=>by
  simp only [planOk,Bool.and_eq_true]at hp;obtain⟨h1,h2⟩:=hp;unfold wpPlan at h;by_cases hl:loud.contains i=true
  ·rw [if_pos hl,decide_eq_true_eq]at h1;rw [if_pos hl]at h;have hr:i∈Region.ready md ops listed:=by rw [h1];simp
   refine⟨fun h0=>(by rw [h0]at hr;cases hr),fun j hj=>?_⟩;rw [h1]at hj;obtain rfl:j=i:=by simpa using hj
   rw [if_pos (by simpa using hl)];exact wpOp_mono (fun a' w' h'=>wpX_plan hB hs hQ is _ a' w' (hc.set hr) h2 h') h
  ·rw [if_neg hl]at h1 h;simp only [Bool.and_eq_true,Bool.or_eq_true,List.all_eq_true]at h1;obtain⟨⟨hr,hf⟩,hw⟩:=h1;have hr':i∈Region.ready md ops listed:=by simpa using hr
   have hil:i ∉ loud:=by simpa using hl
   by_cases hpu:pure_.contains i=true
   ·rw [if_pos hpu]at h;obtain⟨o,v,ho,hy,hk⟩:=h;exact wpX_pure (Region.noSelect_spec hs) ho hil hQ is.length listed a w (Region.free_spec ho hf) hr' hy (wpX_plan hB hs hQ is _ _ w (hc.set hr') h2 hk)
   ·rw [if_neg hpu]at h;have hw':=hw.resolve_left hpu;obtain⟨_,o,ho,_⟩:=mem_ready.1 hr';obtain⟨v,hy,hk⟩:=yieldsAt_of_stOp ho h;exact wpX_still hB (Region.noSelect_spec hs) ho hil is.length listed a (fun j hj=>by simpa using hw' j hj) hc (Region.free_spec ho hf) hr' hy (wpX_plan hB hs hQ is _ _ w (hc.set hr') h2 hk)
def planB(ops:Array Oper)(loud pure_ is:List Nat):Bool:=
 Region.noSelect ops&&waitB .any ops (Region.before ops)&&decide (is.length=ops.size)&&planOk .any ops loud pure_ (Region.before ops) is (Array.replicate ops.size false)
theorem wp_region_plan{id:Nat}{a:Act}{w:World}(loud pure_ is:List Nat)(hm:P.follows .mixedOrders=true)(hB:planB ops loud pure_ is=true)
  (hQ:∀c a w d u,Q (.panic c) (a.put d u) w->Q (.panic c) a w)(h:wpPlan P ops loud pure_ Q is a w.drew):(Code.region id ops true).wp P Q a w:=by
 simp only [planB,Bool.and_eq_true,decide_eq_true_eq]at hB;obtain⟨⟨⟨hs,hw⟩,hl⟩,hp⟩:=hB;refine wp_region_any hm ?_;have:=wpX_any _ _ _ _ (wpX_plan (md:=.any) hw hs hQ is _ a w.drew (fun j oj _ hl=>by rw [getD_replicate_false]at hl;cases hl) hp h);rw [hl]at this;exact this
theorem plan_still{i:Nat}{is:List Nat}{o:Oper}{a:Act}{w:World}(hl:(loud.contains i || pure_.contains i)=false)(ho:ops[i]?=some o)
  (h:∀K:Act->Prop,(∀a',wpPlan P ops loud pure_ Q is a' w->K a')->if Region.wanted o (yielded ops a.tmps)then o.still P a w K else K (a.put o.dst undef)):wpPlan P ops loud pure_ Q (i :: is) a w:=by
 rw [Bool.or_eq_false_iff]at hl;unfold wpPlan;rw [if_neg (by simpa using hl.1),if_neg (by simpa using hl.2)];unfold stOp;simp only [ho];exact h _ (fun a' h'=>h')
theorem plan_pure{i:Nat}{is:List Nat}{o:Oper}{a:Act}{w:World}{v:Value}(hl:(!loud.contains i&&pure_.contains i)=true)(ho:ops[i]?=some o)(hg:Region.wanted o (yielded ops a.tmps)=true)
  (hr:∀w,(execOp a.eval o).run P w=.ok (.value v) w)(h:wpPlan P ops loud pure_ Q is (a.put o.dst v) w):wpPlan P ops loud pure_ Q (i :: is) a w:=by
 rw [Bool.and_eq_true,Bool.not_eq_true']at hl;unfold wpPlan;rw [if_neg (by simpa using hl.1),if_pos hl.2];exact⟨o,v,ho,.inl ⟨hg,hr⟩,h⟩
theorem plan_loud{i:Nat}{is:List Nat}{o:Oper}{a:Act}{w:World}(hl:loud.contains i=true)(ho:ops[i]?=some o)
  (h:∀K:Act->World->Prop,(∀a w,wpPlan P ops loud pure_ Q is a w->K a w)->if Region.wanted o (yielded ops a.tmps)=true then Oper.wp P o a w K Q else K (a.put o.dst undef) w):wpPlan P ops loud pure_ Q (i :: is) a w:=by
 unfold wpPlan;rw [if_pos hl];exact wpOp_step ho (fun K hK=>h K hK)
theorem plan_row{i:Nat}{is:List Nat}{o:Oper}{a:Act}{w:World}(hl:(loud.contains i || pure_.contains i)=false)(ho:ops[i]?=some o)(hgd:o.guard=none)(ty:TypeId)(x:Operand)(hop:o.op=.load ty x)
  (g:Nat)(hx:a.eval x=.pointer (some ⟨g,0,none⟩))(t:TypeId)(cs:Array Value)(d:TypeDesc)(hb:w.heap[g]?=some (.cells cs t (0,0)))
  (hu:P.underlying ty=some d)(hd:(match d with | .struct _ | .array _ _=>true|_=>false)=true)(hi:(P.info? ty).map (·.size)=some cs.size)
  (h:wpPlan P ops loud pure_ Q is (a.put o.dst (.agg cs)) w):wpPlan P ops loud pure_ Q (i :: is) a w:=by
 refine plan_still hl ho (fun K hK=>?_);have hw:Region.wanted o (yielded ops a.tmps)=true:=by simp [Region.wanted,hgd]
 rw [if_pos hw];unfold Oper.still execOp;simp only [hop,hx,Instr.loadAt,Instr.sureAddr,Sem.run_bind,Sem.run_pure,Result.andThen_ok,run_loadVar_row w g t ty cs (0,0) d hb hu hd hi];exact⟨rfl,hK _ h⟩
theorem plan_done{a:Act}{w:World}(h:Q .normal a w):wpPlan P ops loud pure_ Q [] a w:=h
end
end Go.Proofs.YtnnpoodcdibpiaaGreatDoor
