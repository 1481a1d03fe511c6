/-
  A region that draws its order, walked by a plan, where some reads may float past calls that make memory: they read the same in every world that meets S, and each write and call leaves S.
-/
import Derived.Test.YthednemlahioeaaGreatDoorM7
import Derived.OrdersHeld
namespace Go.Proofs.YthednemlahioeaaGreatDoor
open Go.RowKit
open Region renaming Mode→Wv,ready→Zj,binds→WX,noSelect_spec→XQ,free_spec→WY,wanted→ZH
open Nat renaming le_refl→ZY,le_trans→ZQ,zero_le→XI,pow_le_pow_right→Xx,pow_succ→XF
open Oper renaming stillUpon→Uf,wp→Wh
open Act renaming put_comm→TH
open Bool renaming and_eq_true→ZT,not_eq_true'→Xy
open List renaming getD_eq_getElem?_getD→Z6,map_set→WU,length_set→V7
open IntWalk renaming i64_in→Z4,u64_in→Ub
open World renaming cell?_of_block→ZV
open UInt8 renaming toNat_lt→ZN,ofNat→Zl
open Lib renaming hid→Z7
open Value renaming ownBlock→YQ
open And renaming intro→Z9
open Option.some renaming injEq→X3
open BitVec renaming ofInt→YI,toNat_ofInt→Xe
open Go.Proofs.Tryz
set_option maxRecDepth 100000
set_option maxHeartbeats 8000000
section
variable {P : Program} {ops : Array Oper} {md : Wv} {loud ZO : List Nat} {S : World → Prop} {Q : Exit → Act → World → Prop}
def gD(P:Program)(md:Wv)(ops:Array Oper)(loud:List Nat)(S:World->Prop)(Q:Exit->Act->World->Prop):Nat->Array Bool->Act->World->Prop
 | 0,listed,a,w=>Zj md ops listed=[]/\Q .normal a w
 | f+1,listed,a,w=>(Zj md ops listed=[]->Q .normal a w)/\∀i∈Zj md ops listed,
   if i∈loud then wpOp P ops Q i (fun a' w'=>S w'/\gD P md ops loud S Q f (listed.setIfInBounds i true) a' w') a w
   else stOp P ops w i (fun a'=>gD P md ops loud S Q f (listed.setIfInBounds i true) a' w) a
theorem Aj:∀(f:Nat)(listed:Array Bool)(a:Act)(w:World),gD P md ops loud S Q f listed a w->wpAny P md ops Q f listed a w
 | 0,_,_,_,h=>h
 | f+1,listed,a,w,h=>⟨h.1,fun i hi=>by
   have h2:=h.2 i hi;split at h2
   ·exact wpOp_mono (fun a' w' h'=>Aj f _ a' w' h'.2) h2
   ·exact wpOp_of_stOp (fun a' h'=>Aj f _ a' w h') h2⟩
theorem abS{B:Array Nat}(hB:N7 md ops B=true)(Ow:∀(j:Nat) (o:Oper) cs b,ops[j]?=some o->o.op≠.select cs b){i:Nat}{oi:Oper}{v:Value}(hi:ops[i]?=some oi)(JC:i ∉ loud){w:World}:
  ∀(f:Nat) (listed:Array Bool) (a:Act),(∀j∈loud,(B.getD j 0).testBit i=true\/listed.getD j true=true)->Closed md ops listed ->
   (∀j oj,ops[j]?=some oj->j≠i->listed.getD j true=false->(∀e∈oj.after,WX md e=true->e.on≠i)->oi.apart ops oj=true) ->
   i∈Zj md ops listed->YieldsAt P ops w oi v a ->
   gD P md ops loud S Q f (listed.setIfInBounds i true) (a.put oi.dst v) w->gD P md ops loud S Q (f+1) listed a w:=by
 intro f
 induction f with
 | zero=>
  intro listed a _ hc U9 hr hy H;refine⟨fun h=>(by rw [h]at hr;cases hr),fun j hj=>?_⟩;obtain rfl:=Tj H.1 hj;rw [if_neg JC];exact hy.stOp hi H
 | succ f ih=>
  intro listed a hw hc U9 hr hy H;refine⟨fun h=>(by rw [h]at hr;cases hr),fun j hj=>?_⟩;by_cases OG:j=i
  ·subst OG;rw [if_neg JC];exact hy.stOp hi H
  ·obtain⟨QM,oj,hoj,hall⟩:=mem_ready.1 hj
   have GL:j ∉ loud:=fun GL=>by
    rcases hw j GL with h|h
    ·have h2:=Q0 hB hc j j (ZY _) oj hoj hall i (Array.getElem?_eq_some_iff.1 hi).1 h;rw [getD_both (mem_ready.1 hr).1]at h2;cases h2
    ·rw [QM]at h;cases h
   have h1:=H.2 j (ready_mono hj OG);rw [if_neg GL]at h1 ⊢
   refine stOp_mono (fun a' h3=>ih (listed.setIfInBounds j true) a' (fun k hk=>(hw k hk).imp id Gi) (hc.set hj) (QT U9 QM) (ready_mono hr (Ne.symm OG)) h3.1 ?_)
    (stOp_put hoj (U9 j oj hoj OG QM (UH hr hall)) (fun cs b=>Ow i oi cs b hi) (fun cs b=>Ow j oj cs b hoj) hy h1)
   rw [Array.setIfInBounds_comm _ _ OG];exact h3.2
theorem Er{j:Nat}{oi oj:Oper}{v:Value}{w:World}(hj:ops[j]?=some oj)(hap:oi.apart ops oj=true)
  (hsi:∀cs b,oi.op≠.select cs b)(hsj:∀cs b,oj.op≠.select cs b){K:Act->Prop}{a:Act}
  (hy:YieldsIf P ops S oi v a)(h:stOp P ops w j K (a.put oi.dst v)):
  stOp P ops w j (fun a'=>YieldsIf P ops S oi v a'/\K (a'.put oi.dst v)) a:=by
 obtain⟨h1,h2,h3⟩:=Oper.apart_spec hap;have keep:∀u,YieldsIf P ops S oi v (a.put oj.dst u):=fun u=>hy.of_same (execOp_put oi hsi a oj.dst u h3) (wanted_put oi a oj.dst u h3);unfold stOp at *;simp only [hj]at *;rw [wanted_put oj a oi.dst v h1]at h;split
 ·rename_i hw;simp only [hw,if_true]at h;unfold Oper.still at *;rw [execOp_put oj hsj a oi.dst v h1]at h;generalize (execOp a.eval oj).run P w=r at *;cases r with
  | ok n w'=>
   cases n<;>simp only [Uf]at h ⊢
   case value u=>exact⟨h.1,keep u,by rw [<-TH a v u h2];exact h.2⟩
   case skip=>exact⟨h.1,keep _,by rw [<-TH a v undef h2];exact h.2⟩
   case enter f args=>obtain⟨hw',u,hc,hn⟩:=h;exact⟨hw',u,hc,keep u,by rw [<-TH a v u h2];exact hn⟩
  | halt x w'=>simp only [Uf]at h
 ·rename_i hw;simp only [hw]at h;exact⟨keep _,by rw [<-TH a v undef h2];exact h⟩
theorem afJ(Ow:∀(j:Nat) (o:Oper) cs b,ops[j]?=some o->o.op≠.select cs b){i:Nat}{oi:Oper}{v:Value}(hi:ops[i]?=some oi)(JC:i ∉ loud)
  (hQ:∀c a w d u,Q (.panic c) (a.put d u) w->Q (.panic c) a w):
  ∀(f:Nat) (listed:Array Bool) (a:Act) (w:World),S w ->
   (∀j oj,ops[j]?=some oj->j≠i->listed.getD j true=false->(∀e∈oj.after,WX md e=true->e.on≠i)->oi.apart ops oj=true) ->
   i∈Zj md ops listed->YieldsIf P ops S oi v a ->
   gD P md ops loud S Q f (listed.setIfInBounds i true) (a.put oi.dst v) w->gD P md ops loud S Q (f+1) listed a w:=by
 have here:∀ {K:Act->Prop} {a:Act} {w:World},S w->YieldsIf P ops S oi v a->K (a.put oi.dst v)->stOp P ops w i K a:=fun {K a w} hS hy h=>by
  unfold stOp;simp only [hi];rcases hy with⟨hw,hv⟩|⟨hw,rfl⟩
  ·simp only [hw,if_true,Oper.still,hv w hS,Uf];exact⟨trivial,h⟩
  ·simp only [hw,Bool.false_eq_true,if_false];exact h
 intro f
 induction f with
 | zero=>
  intro listed a w hS U9 hr hy H;refine⟨fun h=>(by rw [h]at hr;cases hr),fun j hj=>?_⟩;obtain rfl:=Tj H.1 hj;rw [if_neg JC];exact here hS hy H
 | succ f ih=>
  intro listed a w hS U9 hr hy H;refine⟨fun h=>(by rw [h]at hr;cases hr),fun j hj=>?_⟩;by_cases OG:j=i
  ·subst OG;rw [if_neg JC];exact here hS hy H
  ·obtain⟨QM,oj,hoj,hall⟩:=mem_ready.1 hj;have h1:=H.2 j (ready_mono hj OG);split
   ·rename_i GL;rw [if_pos GL]at h1
    refine wpOp_mono (fun a' w' h3=>⟨h3.2.1,ih (listed.setIfInBounds j true) a' w' h3.2.1 (QT U9 QM) (ready_mono hr (Ne.symm OG)) h3.1 ?_⟩)
     (wpOp_putIf hoj (U9 j oj hoj OG QM (UH hr hall)) (fun cs b=>Ow i oi cs b hi) (fun cs b=>Ow j oj cs b hoj) (fun c a w h=>hQ c a w _ _ h) hy h1)
    rw [Array.setIfInBounds_comm _ _ OG];exact h3.2.2
   ·rename_i GL;rw [if_neg GL]at h1
    refine stOp_mono (fun a' h3=>ih (listed.setIfInBounds j true) a' w hS (QT U9 QM) (ready_mono hr (Ne.symm OG)) h3.1 ?_)
     (Er hoj (U9 j oj hoj OG QM (UH hr hall)) (fun cs b=>Ow i oi cs b hi) (fun cs b=>Ow j oj cs b hoj) hy h1)
    rw [Array.setIfInBounds_comm _ _ OG];exact h3.2
def VE(P:Program)(ops:Array Oper)(loud ZO:List Nat)(S:World->Prop)(Q:Exit->Act->World->Prop):List Nat->Act->World->Prop
 | [],a,w=>Q .normal a w
 | i :: is,a,w=>if loud.contains i then wpOp P ops Q i (fun a' w'=>S w'/\VE P ops loud ZO S Q is a' w') a w
  else if ZO.contains i then ∃o v,ops[i]?=some o/\YieldsIf P ops S o v a/\VE P ops loud ZO S Q is (a.put o.dst v) w
  else stOp P ops w i (fun a'=>VE P ops loud ZO S Q is a' w) a
theorem IP{B:Array Nat}(hB:N7 md ops B=true)(hs:Region.noSelect ops=true)(hQ:∀c a w d u,Q (.panic c) (a.put d u) w->Q (.panic c) a w):
  ∀(is:List Nat) (listed:Array Bool) (a:Act) (w:World),S w->Closed md ops listed->Oz md ops loud ZO B is listed=true->VE P ops loud ZO S Q is a w->gD P md ops loud S Q is.length listed a w
 | [],listed,a,w,_,hc,hp,h=>⟨by simpa [Oz]using hp,h⟩
 | i :: is,listed,a,w,hS,hc,hp,h=>by
  simp only [Oz,ZT]at hp;obtain⟨h1,h2⟩:=hp;unfold VE at h;by_cases hl:loud.contains i=true
  ·rw [if_pos hl,decide_eq_true_eq]at h1;rw [if_pos hl]at h;have hr:i∈Zj md ops listed:=by rw [h1];simp
   refine⟨fun h0=>(by rw [h0]at hr;cases hr),fun j hj=>?_⟩;rw [h1]at hj;obtain rfl:j=i:=by simpa using hj
   rw [if_pos (by simpa using hl)];exact wpOp_mono (fun a' w' h'=>⟨h'.1,IP hB hs hQ is _ a' w' h'.1 (hc.set hr) h2 h'.2⟩) h
  ·rw [if_neg hl]at h1 h;simp only [ZT,Bool.or_eq_true,List.all_eq_true]at h1;obtain⟨⟨hr,hf⟩,hw⟩:=h1;have Lp:i∈Zj md ops listed:=by simpa using hr
   have JC:i ∉ loud:=by simpa using hl
   by_cases EW:ZO.contains i=true
   ·rw [if_pos EW]at h;obtain⟨o,v,ho,hy,hk⟩:=h;exact afJ (XQ hs) ho JC hQ is.length listed a w hS (WY ho hf) Lp hy (IP hB hs hQ is _ _ w hS (hc.set Lp) h2 hk)
   ·rw [if_neg EW]at h;have hw':=hw.resolve_left EW;obtain⟨_,o,ho,_⟩:=mem_ready.1 Lp;obtain⟨v,hy,hk⟩:=yieldsAt_of_stOp ho h;exact abS hB (XQ hs) ho JC is.length listed a (fun j hj=>by simpa using hw' j hj) hc (WY ho hf) Lp hy (IP hB hs hQ is _ _ w hS (hc.set Lp) h2 hk)
theorem aac{id:Nat}{a:Act}{w:World}(loud ZO is:List Nat)(S:World->Prop)(hm:P.follows .mixedOrders=true)(hB:FH ops loud ZO is=true)
  (hQ:∀c a w d u,Q (.panic c) (a.put d u) w->Q (.panic c) a w)(hS:S w.drew)(h:VE P ops loud ZO S Q is a w.drew):(Code.region id ops true).wp P Q a w:=by
 simp only [FH,ZT,decide_eq_true_eq]at hB;obtain⟨⟨⟨hs,hw⟩,hl⟩,hp⟩:=hB;refine wp_region_any hm ?_;have:=Aj _ _ _ _ (IP (md:=.any) hw hs hQ is _ a w.drew hS (fun j oj _ hl=>by rw [getD_replicate_false]at hl;cases hl) hp h);rw [hl]at this;exact this
theorem aat{i:Nat}{is:List Nat}{o:Oper}{a:Act}{w:World}(hl:(loud.contains i || ZO.contains i)=false)(ho:ops[i]?=some o)
  (h:∀K:Act->Prop,(∀a',VE P ops loud ZO S Q is a' w->K a')->if ZH o (yielded ops a.tmps)then o.still P a w K else K (a.put o.dst undef)):VE P ops loud ZO S Q (i :: is) a w:=by
 rw [Bool.or_eq_false_iff]at hl;unfold VE;rw [if_neg (by simpa using hl.1),if_neg (by simpa using hl.2)];unfold stOp;simp only [ho];exact h _ (fun a' h'=>h')
theorem aaU{i:Nat}{is:List Nat}{o:Oper}{a:Act}{w:World}{v:Value}(hl:(!loud.contains i&&ZO.contains i)=true)(ho:ops[i]?=some o)(hg:ZH o (yielded ops a.tmps)=true)
  (hr:∀w,S w->(execOp a.eval o).run P w=.ok (.value v) w)(h:VE P ops loud ZO S Q is (a.put o.dst v) w):VE P ops loud ZO S Q (i :: is) a w:=by
 rw [ZT,Xy]at hl;unfold VE;rw [if_neg (by simpa using hl.1),if_pos hl.2];exact⟨o,v,ho,.inl ⟨hg,hr⟩,h⟩
theorem abq{i:Nat}{is:List Nat}{o:Oper}{a:Act}{w:World}(hl:(!loud.contains i&&ZO.contains i)=true)(ho:ops[i]?=some o)(hg:ZH o (yielded ops a.tmps)=false)
  (h:VE P ops loud ZO S Q is (a.put o.dst undef) w):VE P ops loud ZO S Q (i :: is) a w:=by
 rw [ZT,Xy]at hl;unfold VE;rw [if_neg (by simpa using hl.1),if_pos hl.2];exact⟨o,undef,ho,.inr ⟨hg,rfl⟩,h⟩
theorem aaV{i:Nat}{is:List Nat}{o:Oper}{a:Act}{w:World}(hl:loud.contains i=true)(ho:ops[i]?=some o)
  (h:∀K:Act->World->Prop,(∀a w,S w->VE P ops loud ZO S Q is a w->K a w)->if ZH o (yielded ops a.tmps)=true then Wh P o a w K Q else K (a.put o.dst undef) w):VE P ops loud ZO S Q (i :: is) a w:=by
 unfold VE;rw [if_pos hl];exact wpOp_step ho (fun K hK=>h K (fun a w h1 h2=>hK a w ⟨h1,h2⟩))
theorem aaW{a:Act}{w:World}(h:Q .normal a w):VE P ops loud ZO S Q [] a w:=h
structure LC(P:Program)(ops:Array Oper)(loud ZO:List Nat)(S:World->Prop)(Q:Exit->Act->World->Prop)(is:List Nat)(a:Act)(w:World):Prop where
 out:VE P ops loud ZO S Q is a w
theorem YY{id:Nat}{a:Act}{w:World}(loud ZO is:List Nat)(S:World->Prop)(hm:P.follows .mixedOrders=true)(hB:FH ops loud ZO is=true)
  (hQ:∀c a w d u,Q (.panic c) (a.put d u) w->Q (.panic c) a w)(hS:S w.drew)(h:LC P ops loud ZO S Q is a w.drew):(Code.region id ops true).wp P Q a w:=
 aac loud ZO is S hm hB hQ hS h.out
theorem Vm{i:Nat}{is:List Nat}{o:Oper}{a:Act}{w:World}(hl:(loud.contains i || ZO.contains i)=false)(ho:ops[i]?=some o)
  (h:∀K:Act->Prop,(∀a',LC P ops loud ZO S Q is a' w->K a')->if ZH o (yielded ops a.tmps)then o.still P a w K else K (a.put o.dst undef)):LC P ops loud ZO S Q (i :: is) a w:=
 ⟨aat hl ho (fun K hK=>h K (fun a' h'=>hK a' h'.out))⟩
theorem Yc{i:Nat}{is:List Nat}{o:Oper}{a:Act}{w:World}{v:Value}(hl:(!loud.contains i&&ZO.contains i)=true)(ho:ops[i]?=some o)(hg:ZH o (yielded ops a.tmps)=true)
  (hr:∀w,S w->(execOp a.eval o).run P w=.ok (.value v) w)(h:LC P ops loud ZO S Q is (a.put o.dst v) w):LC P ops loud ZO S Q (i :: is) a w:=
 ⟨aaU hl ho hg hr h.out⟩
theorem ab8{i:Nat}{is:List Nat}{o:Oper}{a:Act}{w:World}(hl:(!loud.contains i&&ZO.contains i)=true)(ho:ops[i]?=some o)(hg:ZH o (yielded ops a.tmps)=false)
  (h:LC P ops loud ZO S Q is (a.put o.dst undef) w):LC P ops loud ZO S Q (i :: is) a w:=
 ⟨abq hl ho hg h.out⟩
theorem Zf{i:Nat}{is:List Nat}{o:Oper}{a:Act}{w:World}(hl:loud.contains i=true)(ho:ops[i]?=some o)
  (h:∀K:Act->World->Prop,(∀a w,S w->LC P ops loud ZO S Q is a w->K a w)->if ZH o (yielded ops a.tmps)=true then Wh P o a w K Q else K (a.put o.dst undef) w):LC P ops loud ZO S Q (i :: is) a w:=
 ⟨aaV hl ho (fun K hK=>h K (fun a w h1 h2=>hK a w h1 h2.out))⟩
theorem Zc{i:Nat}{is:List Nat}{o:Oper}{a a':Act}{w:World}(h:LC P ops loud ZO S Q is a' w)(hl:(loud.contains i || ZO.contains i)=false:=by exact rfl)(ho:ops[i]?=some o:=by exact rfl)
  (hs:∀K:Act->Prop,K a'->if ZH o (yielded ops a.tmps)then o.still P a w K else K (a.put o.dst undef):=by intro K hK;go_simp;exact hK):LC P ops loud ZO S Q (i :: is) a w:=
 Vm hl ho (fun K hK=>hs K (hK _ h))
theorem Yg{a:Act}{w:World}(h:Q .normal a w):LC P ops loud ZO S Q [] a w:=⟨aaW h⟩
end
def afG(a b:List UInt8)(n:Nat)(w:World)(v3 v7:Value)(wr:World):Prop:=∃k:Nat,k<=n/\v7=↑k/\v3=↑(UZ a b k:Nat)/\Mod ↑ZW w wr
theorem agR(x y s z:Nat)(hx:x<256)(hy:y<256)(hz:((x:Int)-(y:Int)).natAbs=z)(hs:s<=1048576):
  IntKind.i64.wrap ((s:Int)+IntKind.i64.wrap ((if IntKind.i64.wrap (x:Int)<IntKind.i64.wrap (y:Int)then IntKind.i64.wrap (y:Int)else IntKind.i64.wrap (x:Int))-if IntKind.i64.wrap (y:Int)<IntKind.i64.wrap (x:Int)then IntKind.i64.wrap (y:Int)else IntKind.i64.wrap (x:Int)))=((s+z:Nat):Int):=by
 rw [Z4 (x:Int) ⟨Z8,Z8⟩,Z4 (y:Int) ⟨Z8,Z8⟩];have h:((if(x:Int)<(y:Int)then(y:Int)else(x:Int))-if(y:Int)<(x:Int)then(y:Int)else(x:Int))=(z:Int):=by
  split<;>split<;>omega
 rw [h,Z4 (z:Int) ⟨Z8,Z8⟩,Z4 _ ⟨Z8,Z8⟩];omega
theorem agV(w:World)(A:Option Addr)(n c:Nat)(a:List UInt8)(A2:Option Addr)(c2:Nat)(b:List UInt8)(YZ:BytesIn w A n c a)(Vr:BytesIn w A2 n c2 b)(JD:0<n)(hn:n<=4096):
  Calls prog 285 #[.slice A n c,.slice A2 n c2] w fun e w'=>e=.returned ↑(UZ a b n:Nat)/\Mod ↑ZW w w':=by
 obtain⟨ba,oa,rfl,oZ,Bl⟩:=YZ.place JD;obtain⟨bb,om,rfl,N8,hcb⟩:=Vr.place JD;have HC:=Z5 Bl hcb;clear Bl hcb YZ Vr;go_enter func285,ntmps285;go_wp2_with fail;go_loopw [5,12] (afG a b n w) (fun _ i _=>n-(intOf i).toNat)
 case atStart=>exact⟨0,Z8,rfl,rfl,Mod.refl _ _⟩
 case round=>
  obtain⟨k,hk,rfl,rfl,hM⟩:=hrel;rename World=>wr
  by_cases hlt:k<n
  ·have lL:=hM.drew;have M9:wr.drew.cell? ⟨ba,oa+k,none⟩=some (.int .u8 ((a.getD k 0).toNat:Int)):=(ZV (lL.block ba oZ (fun h=>h))).trans (HC.out.1 k hlt);have Lm:wr.drew.cell? ⟨bb,om+k,none⟩=some (.int .u8 ((b.getD k 0).toNat:Int)):=(ZV (lL.block bb N8 (fun h=>h))).trans (HC.out.2 k hlt);have hx:(a.getD k 0).toNat<256:=ZN _;have hy:(b.getD k 0).toNat<256:=ZN _;have Md:=Ot a b k;have HF:Hid (UZ a b (k+1)=UZ a b k+(((a.getD k 0).toNat:Int)-((b.getD k 0).toNat:Int)).natAbs):=rfl;generalize (a.getD k 0).toNat=x at *;generalize (b.getD k 0).toNat=y at *;generalize UZ a b k=s at *;obtain⟨p,hp⟩:=ZL (max x y);obtain⟨q,hq⟩:=ZL (min x y);have e1:max (x:Int) (y:Int)=(p:Int):=Z8;have e2:min (x:Int) (y:Int)=(q:Int):=Z8;have hqp:q<=p:=Z8;have hp8:p<256:=Z8;obtain⟨z,ez⟩:∃z:Nat,(p:Int)-(q:Int)=(z:Int):=⟨p-q,Z8⟩
   have hz:((x:Int)-(y:Int)).natAbs=z:=Z8;have hz8:z<256:=Z8;rw [hz]at HF;have i1:(0:Int)<=(k:Int):=Z8;have i2:(k:Int)<(n:Int):=Z8;have HM:=Z7 lL;have HV:=Z7 (agR x y s z hx hy hz Z8);clear hp hq hz hM lL e1 e2 ez;go_upto_region 5 with(fail)
   refine YY [] [] (0 :: 1 :: 2 :: 3 :: 4 :: 5 :: 6 :: 7 :: 8 :: 9 :: 10 :: 11 :: 12 :: 13 :: 14 :: 15 :: 16 :: 17 :: 18 :: 19 :: 20 :: 21 :: 22 :: 23 :: 24 :: 25 :: []) (fun _=>True) ZR ZR Xc trivial ?_;iterate 26 (refine Zc ?_)
   refine Yg ?_;go_wp2_with fail;go_roundw
   case rel=>exact⟨k+1,Z8,Zr,by rw [HF.out,HV.out],HM.out⟩
   case measure=>exact YD
  ·obtain rfl:k=n:=Z8;have HM:=Z7 hM;clear hM;go_wp2_with fail;go_ret;exact⟨rfl,HM.out⟩
def sumTo(b:List UInt8):Nat->Nat
 | 0=>0
 | k+1=>sumTo b k+(b.getD k 0).toNat
def NM(b:List UInt8)(m:Nat):Nat->Nat
 | 0=>0
 | k+1=>NM b m k+(((b.getD k 0).toNat:Int)-(m:Int)).natAbs
def Mk(b:List UInt8):Nat:=NM b (sumTo b 256/256) 256
theorem sumTo_le(b:List UInt8)(k:Nat):sumTo b k<=k*255:=by
 induction k with
 | zero=>exact ZY _
 | succ k ih=>
  have:=ZN (b.getD k 0);unfold sumTo;omega
theorem Ir(b:List UInt8)(m k:Nat)(hm:m<=255):NM b m k<=k*255:=by
 induction k with
 | zero=>exact ZY _
 | succ k ih=>
  have:=ZN (b.getD k 0);unfold NM;omega
theorem ab2(b:List UInt8):Mk b<=65280:=by
 have h:=sumTo_le b 256;exact Ir b _ 256 Z8
def ag7(b:List UInt8)(w:World)(v3 v12:Value)(wr:World):Prop:=∃k:Nat,k<=256/\v12=↑k/\v3=↑(sumTo b k:Nat)/\w=wr
def ahi(b:List UInt8)(m:Nat)(w:World)(v7 v25:Value)(wr:World):Prop:=∃k:Nat,k<=256/\v25=↑k/\v7=↑(NM b m k:Nat)/\w=wr
theorem agS(w:World)(A:Option Addr)(c:Nat)(b:List UInt8)(YZ:BytesIn w A 256 c b):Calls prog 289 #[.slice A 256 c] w fun e w'=>e=.returned ↑(Mk b:Nat)/\w=w':=by
 obtain⟨ba,oa,rfl,oZ,Bl⟩:=YZ.place Z8;have HC:=Z7 Bl;clear Bl YZ;go_enter func289,ntmps289;go_wp2_with fail;go_loopw [3,12] (ag7 b w) (fun _ i _=>256-(intOf i).toNat)
 case atStart=>exact⟨0,Z8,rfl,rfl,rfl⟩
 case round=>
  obtain⟨k,hk,rfl,rfl,rfl⟩:=hrel;by_cases hlt:k<256
  ·have d1:=Zb ((k:Int)<256);have M9:=HC.out k hlt;have hx:=ZN (b.getD k 0);have hs:=sumTo_le b k;have HF:Hid (sumTo b (k+1)=sumTo b k+(b.getD k 0).toNat):=rfl;generalize (b.getD k 0).toNat=x at *;generalize sumTo b k=s at *;have i1:(0:Int)<=(k:Int):=Z8;have hs2:s<=65280:=Z8;go_wp2_with fail;go_roundw
   case rel=>exact⟨k+1,Z8,Zr,by rw [HF.out];push_cast;rfl,rfl⟩
   case measure=>exact YD
  ·obtain rfl:k=256:=Z8;obtain⟨m,hm⟩:=ZL (sumTo b 256/256);have hs:=sumTo_le b 256;have HR:Hid (Mk b=NM b m 256):=by show _=_;rw [hm];rfl
   generalize sumTo b 256=s at *;have hs2:s<=65280:=Z8;have Y3:m<=255:=Z8;have q1:(s:Int).tdiv 256=(m:Int):=by rw [Int.tdiv_eq_ediv_of_nonneg Z8];omega
   clear hm hs;go_wp2_with fail;go_loopw [7,25] (ahi b m w) (fun _ i _=>256-(intOf i).toNat)
   case atStart=>exact⟨0,Z8,rfl,rfl,rfl⟩
   case round=>
    obtain⟨k,hk,rfl,rfl,rfl⟩:=hrel;by_cases uE:k<256
    ·have d1:=Zb ((k:Int)<256);have M9:=HC.out k uE;have hx:=ZN (b.getD k 0);have hs:=Ir b m k Y3;have HF:Hid (NM b m (k+1)=NM b m k+(((b.getD k 0).toNat:Int)-(m:Int)).natAbs):=rfl;generalize (b.getD k 0).toNat=x at *;generalize NM b m k=t at *;have i1:(0:Int)<=(k:Int):=Z8;have DJ:t<=65280:=Z8;go_wp2_with fail;go_roundw
     case rel=>exact⟨k+1,Z8,Zr,congrArg (Value.int .i64) (by rw [HF.out];split<;>split<;>omega),rfl⟩
     case measure=>exact YD
    ·obtain rfl:k=256:=Z8;go_wp2_with fail;go_ret;exact⟨by rw [HR.out];rfl,rfl⟩
def P9(b:List Int):Nat->List Int
 | 0=>List.replicate 64 0
 | k+1=>(P9 b k).set k (b.getD (JR.getD k 0).toNat 0)
theorem Pd(b:List Int)(k:Nat):(P9 b k).length=64:=by
 induction k with
 | zero=>simp [P9]
 | succ k ih=>simp [P9,ih]
def Un(b:List Int):List Int:=P9 b 64
def ag8(w:World)(ob:Nat)(b:List Int)(v18:Value)(wr:World):Prop:=∃k:Nat,k<=64/\v18=↑k/\ZI wr ob 3 (Y4 (P9 b k)).toArray/\Mod (·=ob) w wr
theorem ah5(w:World)(A:Option Addr)(c:Nat)(l:List Int)(YZ:IntsIn w A 64 c l):Calls prog 362 #[.slice A 64 c] w fun e w'=>∃ob,e=.returned ↑(ZZ ob 64 64)/\ZI w' ob 3 (Y4 (Un l)).toArray/\w.heap.size<=ob/\Mod ↑ZW w w':=by
 obtain⟨b,off,hA,hb,hcell⟩:=YZ.place Z8;subst hA;have HC:=Z7 hcell;clear hcell YZ;go_enter func362,ntmps362;go_wp2_with fail;refine YH (DL _ 64 Z8) ?_;rw [show((XL 64:Nat):Int)=8 from rfl];go_wp2_with (refine JL _ rfl (.tmp 13) (.tmp 13) rfl 64 rfl rfl Z8 ?_;intro w1 hb1 Y6;have HO:=Z5 hb1 Y6;clear hb1 Y6)
 refine(agd _).mono ?_;rintro e w2 ⟨b2,c2,rfl,agu,Vr,Y3⟩;obtain⟨_,Iq,CB,hb2,hcell2⟩:=Vr.place Z8;injection CB with CB;injection CB with CB hA3 _;subst CB hA3;have TY:=HO.out.1.keep Y3 (fun h=>h);have M2:=HO.out.2.trans Y3;have gH:=Z7 hcell2;obtain⟨ob,Ih⟩:=ZL (w.heap.size);rw [<-Ih]at TY ⊢;have IZ:=HO.out.1.lt;have akI:¬b2=ob:=Z8;clear IZ agu;have hbn:¬b=ob:=Z8;have how:w.heap.size<=ob:=Z8;have HH:=Z5 TY M2;clear hcell2 Vr Y3 HO TY M2 Ih;go_wp2_with fail;go_loopw [18] (ag8 w2 ob l) (fun i _=>64-(intOf i).toNat)
 case atStart=>exact⟨0,Z8,rfl,HH.out.1,Mod.refl _ _⟩
 case round=>
  obtain⟨k,hk,rfl,UQ,hM⟩:=hrel;by_cases hlt:k<64
  ·have dk:=Zb ((k:Int)<64);have p0:(0:Int)<=(k:Int):=Z8;have p1:(k:Int)<64:=Z8;have lM:Mod (·=ob) w wr:=(HH.out.2.mono (fun _ h=>h.elim)).trans hM;have k2:wr.cell? ⟨b2,k,none⟩=some (.int .i64 (JR.getD k 0)):=(ZV (hM.block b2 hb2 akI)).trans (by have:=gH.out k hlt;rwa [Nat.zero_add]at this);have hpl:=Mg.2 k hlt;obtain⟨pl,pz⟩:∃pl:Nat,(pl:Int)=JR.getD k 0:=⟨(JR.getD k 0).toNat,Z8⟩
   rw [<-pz]at k2 hpl;have k1:wr.cell? ⟨b,off+pl,none⟩=some (.int .i64 (l.getD pl 0)):=(ZV (lM.block b hb hbn)).trans (HC.out pl Z8);have HS:Hid (P9 l (k+1)=(P9 l k).set k (l.getD pl 0)):=by show _=_;rw [P9,<-pz];simp
   clear pz;generalize l.getD pl 0=v at *;have p2:(0:Int)<=(pl:Int):=Z8;have p3:(pl:Int)<64:=Z8;have k3:wr.cell? ⟨ob,k,none⟩=some (.int .i64 ((P9 l k).getD k 0)):=by rw [UQ.cell];simp [Y4,Z6,Pd,show k<64 by omega]
   have f3:=UQ.frozen k;have HB:=Z5 UQ (Z9 hM lM);have hl:=UQ.lt;clear UQ hM lM hpl;generalize (P9 l k).getD k 0=old at *;go_wp2_with fail;go_roundw
   case rel=>
    refine⟨k+1,Z8,Zr,?_,HB.out.2.1.setCell (.inl rfl) _⟩;rw [HS.out];exact HB.out.1.put (by simp [Y4,WU])
   case measure=>exact YD
  ·obtain rfl:k=64:=Z8;have HB:=Z5 UQ hM;clear UQ hM;go_wp2_with fail;go_ret;exact⟨ob,rfl,HB.out.1,how,HH.out.2.into HB.out.2 (fun i e=>.inr Z8)⟩
def Nj:Nat->List UInt8->Nat->List UInt8
 | 0,L,_=>L
 | i+1,L,c=>if c=0 then L else Nj i (L.set i (Zl ((c+(L.getD i 0).toNat) % 256))) ((c+(L.getD i 0).toNat)/256)
def za(code:List UInt8)(c:Nat):List UInt8:=Nj code.length code c
def Ky(code:List UInt8)(w:Nat):List UInt8 × Nat:=if w<16777216 then(code++[0],w*256)else(code,w)
def Nk(code:List UInt8)(wide c bit:Nat):List UInt8 × Nat:=if bit=0 then Ky code (wide/2048*c)else Ky (za code (wide/2048*c)) (wide-wide/2048*c)
theorem aak(i:Nat):∀(L:List UInt8) (c:Nat),(Nj i L c).length=L.length:=by
 induction i with
 | zero=>intro L c;rfl
 | succ i ih=>
  intro L c;unfold Nj;split
  ·rfl
  ·rw [ih,V7]
theorem Sy(L:List UInt8)(c:Nat):(za L c).length=L.length:=aak _ _ _
theorem wK(i:Nat)(L:List UInt8):Nj i L 0=L:=by
 cases i<;>simp [Nj]
theorem Ho(L:List UInt8)(w:Nat):L.length<=(Ky L w).1.length/\(Ky L w).1.length<=L.length+1:=by
 unfold Ky;split<;>simp
theorem Fj(L:List UInt8)(w c b:Nat):L.length<=(Nk L w c b).1.length/\(Nk L w c b).1.length<=L.length+1:=by
 unfold Nk;split
 ·exact Ho _ _
 ·have:=Ho (za L (w/2048*c)) (w-w/2048*c);rwa [Sy]at this
theorem AO{w c:Nat}(hc:31<=c/\c<=2017)(hw:16777216<=w/\w<4294967296):253952<=w/2048*c/\w/2048*c+253952<=w:=by
 obtain⟨h1,h2⟩:=hc;have a1:8192*31<=w/2048*c:=Nat.mul_le_mul Z8 h1;have a2:w/2048*c<=w/2048*2017:=Nat.mul_le_mul_left _ h2;omega
theorem Bytes.SL{w:World}{B b n c:Nat}{l:List UInt8}(h:Bytes w B ↑(ZZ b n c) l){g:Nat}{t:TypeId}{cs:Array Value}(hb:ZI w g t cs)(ht:t≠5):b≠g:=by
 rintro rfl;rcases h.2 with⟨h',_⟩|⟨g',cap',cur,h',_,hg,_⟩
 ·cases h'
 ·injection h' with e1 e2 e3;injection e1 with e1;injection e1 with e1 _ _;subst e1;have h2:w.heap[b]?=some (.cells cs t (0,0)):=hb;rw [hg]at h2;injection h2 with h2;injection h2 with _ h3 _;exact ht h3.symm
theorem Bytes.far{w:World}{B b n c:Nat}{l:List UInt8}(h:Bytes w B ↑(ZZ b n c) l){p:Addr}(hp:b≠p.block)(u:Value):Bytes (w.setCell p u) B ↑(ZZ b n c) l:=
 h.mod ((Mod.refl (·=p.block) w).setCell (.inl rfl) u) (fun g e=>by simp only [YQ,X3]at e;subst e;exact hp)
theorem Bytes.put{w:World}{B b n c:Nat}{l:List UInt8}(h:Bytes w B ↑(ZZ b n c) l)(i:Nat)(x:UInt8):Bytes (w.setCell ⟨b,i,none⟩ (.int .u8 (x.toNat:Int))) B ↑(ZZ b n c) (l.set i x):=by
 have hn:n=l.length:=by
  rcases h.2 with⟨h',_⟩|⟨g',cap',cur,h',_⟩
  ·cases h'
  ·injection h'
 subst hn;have h1:=(World.ownsRow.stored h i (.int .u8 (x.toNat:Int))).1;have e:Yw (l.set i x)=(Yw l).set i (.int .u8 (x.toNat:Int)):=by simp [Yw,WU]
 unfold Bytes;rw [e,V7];exact h1
theorem Bytes.low{w:World}{B b n c:Nat}{l:List UInt8}(h:Bytes w B ↑(ZZ b n c) l):B<=b/\b<w.heap.size:=World.ownsRow.lt h b rfl
theorem Bytes.frozen{w:World}{B b n c:Nat}{l:List UInt8}(h:Bytes w B ↑(ZZ b n c) l)(j:Nat):w.frozen? ⟨b,j,none⟩=false:=by
 have hn:n=l.length:=by
  rcases h.2 with⟨h',_⟩|⟨g',cap',cur,h',_⟩
  ·cases h'
  ·injection h'
 subst hn;exact World.ownsRow.frozenAt h j
theorem Bytes.ji{w:World}{B b n c:Nat}{l:List UInt8}(h:Bytes w B ↑(ZZ b n c) l)(i v:Nat)(hv:v<256):Bytes (w.setCell ⟨b,i,none⟩ (.int .u8 (v:Int))) B ↑(ZZ b n c) (l.set i (Zl v)):=by
 have h1:=h.put i (Zl v);rwa [UInt8.toNat_ofNat',Nat.mod_eq_of_lt hv]at h1
theorem Bytes.apart{w:World}{B:Nat}{v:Value}{l:List UInt8}(h:Bytes w B v l){g:Nat}{t:TypeId}{cs:Array Value}(hb:ZI w g t cs)(ht:t≠5):¬v.ownBlock=some g:=by
 intro e;rcases h.2 with⟨h',_⟩|⟨g',cap',cur,h',_,hg,_⟩
 ·rw [h']at e;cases e
 ·rw [h']at e;simp only [YQ,X3]at e;subst e;have h2:w.heap[g']?=some (.cells cs t (0,0)):=hb;rw [hg]at h2;injection h2 with h2;injection h2 with _ h3 _;exact ht h3.symm
theorem Bytes.down{w:World}{B B':Nat}{v:Value}{l:List UInt8}(h:Bytes w B v l)(hB:B'<=B):Bytes w B' v l:=
 ⟨h.1,h.2.imp id fun⟨g,cap,cur,h1,h2,h3⟩=>⟨g,cap,cur,h1,ZQ hB h2,h3⟩⟩
structure vT(w:World)(g:Nat)(v:Value)(code:List UInt8)(wide:Nat):Prop where
 blk:ZI w g 337 #[v,.int .u32 (wide:Int)]
 own:Bytes w 0 v code
 four:4<=code.length
 lo:16777216<=wide
 hi:wide<4294967296
theorem vT.quiet{w w':World}{g:Nat}{v:Value}{code:List UInt8}{wide:Nat}(h:vT w g v code wide)(hm:Mod ↑ZW w w'):vT w' g v code wide:=⟨h.blk.keep hm (fun h=>h),h.own.quiet hm,h.four,h.lo,h.hi⟩
theorem vT.shape{w:World}{g:Nat}{v:Value}{code:List UInt8}{wide:Nat}(h:vT w g v code wide):∃r k,v=↑(ZZ r code.length k)/\r≠g:=by
 obtain⟨A,k,rfl⟩:=ZG h.own;obtain⟨r,rfl,_⟩:=h.own.some_ (by have:=h.four;omega);exact⟨r,k,rfl,h.own.SL h.blk ZU⟩
theorem lg(w:World)(g:Nat)(v:Value)(code:List UInt8)(wide:Nat)(h:vT w g v code wide):Calls prog 211 #[↑(ZC g 0)] w fun e w'=>e=.returned (.tuple #[])/\w=w':=by
 obtain⟨r,k,rfl,_⟩:=h.shape;obtain⟨bc,bf⟩:=h.blk.both;have d1:(((code.length:Nat):Int) == 0)=false:=by have:=h.four;simp;intro e;simp [e]at this
 clear h;go_enter func211,ntmps211;go_wp2_with fail;go_end0
 exact⟨rfl,rfl⟩
theorem ae8(w:World)(g:Nat)(h:ZI w g 337 #[↑Zd,.int .u32 0]):Calls prog 211 #[↑(ZC g 0)] w fun e w'=>e=.returned (.tuple #[])/\vT w' g ↑(ZZ w.heap.size 4 4) [0,0,0,0] 4294967295/\Mod (·=g) w w':=by
 obtain⟨bc,bf⟩:=h.both;have bl:=h.lt;have Dv:(Instr.makeSlice 54 (.int .i64 4) (.int .i64 4)).run prog w=.ok ↑(ZZ w.heap.size 4 4) (w.alloc (.cells (Yw [0,0,0,0]).toArray 5)):=Gz w 4 Z8;have H:=Z7 h;clear h;go_enter func211,ntmps211;go_wp2_with fail;go_end0
 have hb:=((H.out.put (i:=0) (u:=↑(ZZ w.heap.size 4 4)) rfl).put (i:=1) (u:=.int .u32 4294967295) rfl).alloc (.cells (Yw [0,0,0,0]).toArray 5);have hr:ZI (((w.setCell ↑g ↑(ZZ w.heap.size 4 4)).setCell ⟨g,1,none⟩ (.int .u32 4294967295)).alloc (.cells (Yw [0,0,0,0]).toArray 5)) w.heap.size 5 (Yw [0,0,0,0]).toArray:=by
  have:=ZI.new ((w.setCell ↑g ↑(ZZ w.heap.size 4 4)).setCell ⟨g,1,none⟩ (.int .u32 4294967295)) 5 (Yw [0,0,0,0]).toArray;simpa using this
 exact⟨rfl,⟨hb,Bytes.DW (l:=[0,0,0,0]) (XI _) hr ZU,ZU,Z8,Z8⟩,(((Mod.refl (fun j=>j=g) w).setCell (p:=↑g) (.inl rfl) _).setCell (p:=⟨g,1,none⟩) (.inl rfl) _).alloc _⟩
theorem eNew(w:World):Calls prog 152 #[] w fun e w'=>∃g v,e=.returned ↑(ZC g 0)/\vT w' g v [0,0,0,0] 4294967295/\w.heap.size<=g/\(∀j,v.ownBlock=some j->w.heap.size<=j)/\Mod ↑ZW w w':=by
 have hb:=ZI.new w 337 #[↑Zd,.int .u32 0];have H:=Z7 hb;clear hb;go_enter func152,ntmps152;go_wp2_with fail;refine(ae8 _ _ H.out).mono ?_;rintro e w1 ⟨rfl,hE,hm⟩;have H1:=Z5 hE hm;clear hE hm;go_wp2_with fail;go_ret;refine⟨_,_,rfl,H1.out.1,ZY _,fun j e=>?_,((Mod.refl ↑ZW w).alloc _).into H1.out.2 (fun i e=>.inr Z8)⟩;simp only [YQ,X3]at e;subst e;simp
def ahG(w:World)(g r n k:Nat)(wide:Nat)(R:List UInt8)(v4 v5:Value)(wr:World):Prop:=
 ∃(m c:Nat) (L:List UInt8),m<=n/\v4=.int .u64 (c:Int)/\v5=.int .i64 ((m:Int)-1)/\L.length=n/\c<4294967296/\Nj m L c=R/\Bytes wr 0 ↑(ZZ r n k) L/\ZI wr g 337 #[↑(ZZ r n k),.int .u32 (wide:Int)]/\Mod (·=r) w wr
theorem akR(w:World)(g r k:Nat)(code:List UInt8)(wide:Nat)(h:vT w g ↑(ZZ r code.length k) code wide)(hl:code.length<=1048576)(c:Nat)(hc:c<4294967296):
  Calls prog 391 #[↑(ZC g 0),.int .u32 (c:Int)] w fun e w'=>e=.returned (.tuple #[])/\vT w' g ↑(ZZ r code.length k) (za code c) wide/\Mod (·=r) w w':=by
 obtain⟨n,hn⟩:=ZL (code.length);rw [<-hn]at h hl ⊢;obtain⟨bc,bf⟩:=h.blk.both;have H:=Z5 h hn;clear h hn;go_enter func391,ntmps391;go_wp2_with fail;go_loopw [4,5] (ahG w g r n k wide (za code c)) (fun _ v _=>(intOf v+1).toNat)
 case atStart=>exact⟨n,c,code,ZY _,rfl,rfl,H.out.2.symm,hc,by rw [H.out.2];rfl,H.out.1.own,H.out.1.blk,Mod.refl _ _⟩
 case round=>
  clear bc bf;obtain⟨m,cc,L,hm,rfl,rfl,hL,hcc,hR,ho,hb,hM⟩:=hrel;rename World=>wr
  obtain⟨bc,bf⟩:=hb.both;by_cases QN:m=0
  ·subst QN;have HE:=Z5 hR (Z9 ho (Z9 hb (Z9 hM hL)));clear hR ho hb hM hL;go_wp2_with fail;go_end0
   refine⟨rfl,⟨HE.out.2.2.1,?_,?_,H.out.1.lo,H.out.1.hi⟩,HE.out.2.2.2.1⟩
   ·rw [<-HE.out.1];exact HE.out.2.1
   ·rw [Sy];exact H.out.1.four
  ·obtain⟨m,rfl⟩:∃m',m=m'+1:=⟨m-1,Z8⟩
   have e1:(((m+1:Nat):Int)-1)=(m:Int):=Z8;rw [e1];by_cases hc0:cc=0
   ·subst hc0;rw [wK]at hR;have HE:=Z5 hR (Z9 ho (Z9 hb (Z9 hM hL)));clear hR ho hb hM hL e1;go_wp2_with fail;go_end0
    refine⟨rfl,⟨HE.out.2.2.1,?_,?_,H.out.1.lo,H.out.1.hi⟩,HE.out.2.2.2.1⟩
    ·rw [<-HE.out.1];exact HE.out.2.1
    ·rw [Sy];exact H.out.1.four
   ·have xy:m<L.length:=Z8;have CU:=ho.cell m xy;have bfr:=ho.frozen m;have brl:=ho.low.2;obtain⟨x,hx⟩:=ZL ((L.getD m 0).toNat);have fD:x<256:=by rw [hx];exact ZN _
    rw [<-hx]at CU;have d1:=Zb (0<(cc:Int));unfold Nj at hR;rw [if_neg hc0,<-hx]at hR;have hne:=ho.SL hb ZU;have sK:IntKind.u64.wrap (x:Int)=(x:Int):=Ub _ ⟨Z8,Z8⟩;have hw2:IntKind.u64.wrap ((cc:Int)+(x:Int))=(cc:Int)+(x:Int):=Ub _ ⟨Z8,Z8⟩;have HX:=Z7 hx;clear hx;have HE:=Z5 hR (Z9 ho (Z9 hb (Z9 hM hL)));clear hR ho hb hM hL e1;go_wp2_with fail;rw [show((cc:Int)+(x:Int)) % 256=(((cc+x) % 256:Nat):Int)by omega,show((cc:Int)+(x:Int))/256=(((cc+x)/256:Nat):Int)by omega];refine⟨⟨m,(cc+x)/256,L.set m (Zl ((cc+x) % 256)),Z8,rfl,rfl,by rw [V7];exact HE.out.2.2.2.2,Z8,HE.out.1,HE.out.2.1.ji m _ (Nat.mod_lt _ Z8),HE.out.2.2.1.far (p:=⟨r,m,none⟩) (Ne.symm hne) _,HE.out.2.2.2.1.setCell (p:=⟨r,m,none⟩) (.inl rfl) _⟩,?_⟩;simp only [intOf];omega
def EPost(w:World)(g:Nat)(v:Value)(x:List UInt8 × Nat)(e:Ending)(w':World):Prop:=
 ∃v',e=.returned ↑Z0/\vT w' g v' x.1 x.2/\(∀j,v'.ownBlock=some j->v.ownBlock=some j\/w.heap.size<=j)/\Mod (fun j=>j=g\/v.ownBlock=some j) w w'
def qQ(w:World)(g:Nat)(v:Value)(x:List UInt8 × Nat)(wr:World):Prop:=
 ∃v1 Ui w1,ZI wr g 337 #[v1,.int .u32 ((w1:Nat):Int)]/\Bytes wr 0 v1 Ui/\4<=Ui.length/\(w1<16777216->Ui.length<=1048575)/\65536<=w1/\w1<4294967296/\Ky Ui w1=x/\(∀j,v1.ownBlock=some j->v.ownBlock=some j\/w.heap.size<=j)/\Mod (fun j=>j=g\/v.ownBlock=some j) w wr
def rO(g:Nat)(w:World):Nat:=match w.cell? ⟨g,1,none⟩with|some (.int _ n)=>4294967296-n.toNat|_=>0
theorem Hm{w:World}{g:Nat}{v:Value}{x:Nat}(h:ZI w g 337 #[v,.int .u32 (x:Int)]):rO g w=4294967296-x:=by
 unfold rO;rw [show w.cell? ⟨g,1,none⟩=some (.int .u32 (x:Int))from h.cell 1];simp
theorem Qw{code:List UInt8}{w:Nat}(h:16777216<=w):Ky code w=(code,w):=by
 unfold Ky;rw [Xb]
theorem Jb{code:List UInt8}{w:Nat}(h:w<16777216):Ky code w=(code++[0],w*256):=by
 unfold Ky;rw [if_pos h]
theorem akQ(w:World)(g:Nat)(v:Value)(code:List UInt8)(wide c bit:Nat)(h:vT w g v code wide)(hl:code.length<=1048575)(hc:WJ c=true)(hb:bit<=1):
  Calls prog 347 #[.pointer (some ⟨g,0,none⟩),.int .u16 (c:Int),.int .i64 (bit:Int)] w (EPost w g v (Nk code wide c bit)):=by
 obtain⟨r,k,rfl,hrg⟩:=h.shape;have hcb:31<=c/\c<=2017:=by unfold WJ at hc;rwa [decide_eq_true_eq]at hc
 have LG:=AO hcb ⟨h.lo,h.hi⟩;have IZ:=h.lo;have Fv:=h.hi;obtain⟨bd,si⟩:∃bd,bd=wide/2048*c:=⟨_,rfl⟩
 rw [<-si]at LG;obtain⟨hb1,hb2⟩:=LG;have e1:(wide:Int)/2048*(c:Int) % 4294967296=(bd:Int):=by
  have:(wide:Int)/2048*(c:Int)=(bd:Int):=by rw [si];simp
  rw [this];omega
 have hEB:=lg w g _ code wide h;obtain⟨bc,bf⟩:=h.blk.both;have bl:=h.blk.lt;obtain⟨hc1,hc2⟩:=hcb;have H:=Z7 (Z9 h (Z9 hc (Z9 e1 (Z9 si hEB))));clear h hc e1 si hEB;have Sk:bit=0\/bit=1:=by omega
 refine Calls.mono (R:=EPost w g (.slice (some ⟨r,0,none⟩) code.length k) (Nk code wide c bit)) ?_ (fun _ _ h=>h);have hmv:Mod (fun j=>j=g\/(Value.slice (some ⟨r,0,none⟩) code.length k).ownBlock=some j) w (w.setCell ⟨g,1,none⟩ (.int .u32 (bd:Int))):=(Mod.refl _ w).setCell (p:=⟨g,1,none⟩) (.inl (.inl rfl)) _;go_enter func347,ntmps347;rcases Sk with rfl|rfl
 ·go_wp2_with fail;refine(kX _ c).mono ?_;rintro e w1 ⟨rfl,rfl⟩;rw [H.out.2.1];go_wp2_with fail;refine H.out.2.2.2.2.mono ?_;rintro e w1 ⟨rfl,rfl⟩;go_upto_region 5 with(fail)
  rw [H.out.2.2.1]
  have hN:qQ w g (.slice (some ⟨r,0,none⟩) code.length k) (Nk code wide c 0) (w.setCell ⟨g,1,none⟩ (.int .u32 (bd:Int))):=
   ⟨_,code,bd,H.out.1.blk.put (i:=1) rfl,H.out.1.own.far (p:=⟨g,1,none⟩) hrg _,H.out.1.four,fun _=>hl,by omega,by omega,by rw [H.out.2.2.2.1];rfl,fun j e=>.inl e,hmv⟩
  have HN:=Z7 hN;clear hN hmv;go_wp2_with fail;go_loopw [] (qQ w g (.slice (some ⟨r,0,none⟩) code.length k) (Nk code wide c 0)) (fun wr=>rO g wr)
  case atStart=>exact HN.out
  case round=>
   clear HN;obtain⟨v1,Ui,x1,hb1,Gp,h41,KR,hlo1,hhi1,hx1,Jd,Y6⟩:=hrel;rename World=>wr
   clear bc bf bl;obtain⟨bc,bf⟩:=hb1.both;have bl:=hb1.lt;by_cases hn:x1<16777216
   ·have dZ:=Hm hb1;obtain⟨A1,k1,rfl⟩:=ZG Gp;obtain⟨r1,rfl,_⟩:=Gp.some_ (by omega);have hr1:=Gp.SL hb1 (by decide);have hl2:=KR hn;clear KR;have d9:decide ((x1:Int)<16777216)=true:=decide_eq_true (by omega);obtain⟨y,hy⟩:∃y,y=x1*256:=⟨_,rfl⟩
    have aY:IntKind.u32.wrap ((x1:Int)*256)=(y:Int):=by
     rw [show(x1:Int)*256=(y:Int)by omega];exact IntWalk.u32_in _ ⟨by omega,by omega⟩
    have Bt:16777216<=y:=by omega
    have sM:y<4294967296:=by omega
    have hb2:=hb1.put (i:=1) (u:=.int .u32 (y:Int)) rfl;have mP:=Gp.far (p:=⟨g,1,none⟩) hr1 (.int .u32 (y:Int));have Y3:=Y6.setCell (p:=⟨g,1,none⟩) (.inl (.inl rfl)) (.int .u32 (y:Int));rw [Jb hn,<-hy]at hx1;have HA:=Z7 (Z9 mP (Z9 hb2 (Z9 Y3 (Z9 Jd (Z9 hx1 (Z9 dZ hy))))));clear hy Gp mP hb1 hb2 Y6 Y3 Jd hx1 dZ;go_upto_region 11 with(fail)
    clear bc bf bl;have vJ:ZI (wr.setCell ⟨g,1,none⟩ (.int .u32 (y:Int))) g 337 #[.slice (some ⟨r1,0,none⟩) Ui.length k1,.int .u32 (y:Int)]:=HA.out.2.1;generalize wr.setCell ⟨g,1,none⟩ (.int .u32 (y:Int))=wz at *;obtain⟨bc,bf⟩:=vJ.both;have bl:=vJ.lt;have HZ:=Z7 vJ;clear vJ;go_wp2_with (at_builtin;have _t:=HA;refine VR _ rfl (.tmp 66) (.tmp 67) rfl 0 (.slice (some ⟨r1,0,none⟩) Ui.length k1) Ui 0 rfl rfl HA.out.1 (XI _) (by omega) ?_;intro v5 w5 PV RO jF Jz;clear jF;have HO:=Z7 (Z9 PV (Z9 RO Jz));have Ut:=HZ.out.keep RO (HA.out.1.apart HZ.out (by decide));obtain⟨bc5,bf5⟩:=Ut.both;have bl5:=Ut.lt;have H5:=Z7 Ut;clear Ut PV RO Jz;refine Hid.out ?_)
    refine Z7 ?_;clear bc bf bl d9 aY;obtain⟨A5,k5,hv5⟩:=ZG HO.out.1;obtain⟨n5,Cr⟩:∃n5,n5=(Ui++[0]).length:=⟨_,rfl⟩
    rw [<-Cr]at hv5;subst hv5;have HN5:=Z7 Cr;clear Cr;go_wp2_with fail;have ET:=H5.out.put (i:=0) (u:=.slice A5 n5 k5) rfl;have jd:=HA.out.2.2.1.size;refine⟨⟨_,Ui++[0],y,ET,HO.out.1.mod ((Mod.refl (fun j=>j=g) w5).setCell (p:=⟨g,0,none⟩) (.inl rfl) _) (fun j e hj=>HO.out.1.apart H5.out (by decide) (hj▸e)),by simp;omega,fun h=>by omega,by omega,sM,(Qw Bt).trans HA.out.2.2.2.2.1,fun j e=>?_,(HA.out.2.2.1.into HO.out.2.1 (fun j e=>?_)).setCell (p:=⟨g,0,none⟩) (.inl (.inl rfl)) _⟩,?_⟩
    ·rcases HO.out.2.2 j e with h1|h1
     ·exact HA.out.2.2.2.1 j h1
     ·exact .inr (ZQ jd h1)
    ·rcases HA.out.2.2.2.1 j e with h1|h1
     ·exact .inl (.inr h1)
     ·exact .inr h1
    ·rw [Hm ET,HA.out.2.2.2.2.2.1];omega
   ·have d9:decide ((x1:Int)<16777216)=false:=decide_eq_false (by omega);rw [Qw (by omega)]at hx1;have HX:=Z7 (Z9 hx1 (Z9 hb1 (Z9 Gp (Z9 Jd Y6))));clear hx1 hb1 Gp Jd Y6;go_wp2_with fail;go_ret;rw [<-HX.out.1];exact⟨v1,rfl,⟨HX.out.2.1,HX.out.2.2.1,h41,by omega,hhi1⟩,HX.out.2.2.2.1,HX.out.2.2.2.2⟩
 ·go_wp2_with fail;refine(kX _ c).mono ?_;rintro e w1 ⟨rfl,rfl⟩;rw [H.out.2.1];go_wp2_with fail;refine H.out.2.2.2.2.mono ?_;rintro e w1 ⟨rfl,rfl⟩;go_upto_region 5 with(fail)
  rw [H.out.2.2.1];go_wp2_with fail;refine(akR w g r k code wide H.out.1 (by omega) bd (by omega)).mono ?_;rintro e w2 ⟨rfl,uq,Y3⟩;clear bc bf bl hmv;obtain⟨bc,bf⟩:=uq.blk.both;have bl:=uq.blk.lt;have hws:IntKind.u32.wrap ((wide:Int)-(bd:Int))=((wide-bd:Nat):Int):=by
   rw [show(wide:Int)-(bd:Int)=((wide-bd:Nat):Int)by omega];exact IntWalk.u32_in _ ⟨by omega,by omega⟩
  have hN:qQ w g (.slice (some ⟨r,0,none⟩) code.length k) (Nk code wide c 1) (w2.setCell ⟨g,1,none⟩ (.int .u32 ((wide-bd:Nat):Int))):=
   ⟨_,za code bd,wide-bd,uq.blk.put (i:=1) rfl,uq.own.far (p:=⟨g,1,none⟩) hrg _,uq.four,fun _=>by rw [Sy];exact hl,by omega,by omega,by rw [H.out.2.2.2.1];rfl,fun j e=>.inl e,(Y3.mono (fun j e=>.inr (by subst e;rfl))).setCell (p:=⟨g,1,none⟩) (.inl (.inl rfl)) _⟩
  have HN:=Z7 hN;clear hN uq Y3;go_wp2_with fail;go_loopw [] (qQ w g (.slice (some ⟨r,0,none⟩) code.length k) (Nk code wide c 1)) (fun wr=>rO g wr)
  case atStart=>exact HN.out
  case round=>
   clear HN;obtain⟨v1,Ui,x1,hb1,Gp,h41,KR,hlo1,hhi1,hx1,Jd,Y6⟩:=hrel;rename World=>wr
   clear bc bf bl;obtain⟨bc,bf⟩:=hb1.both;have bl:=hb1.lt;by_cases hn:x1<16777216
   ·have dZ:=Hm hb1;obtain⟨A1,k1,rfl⟩:=ZG Gp;obtain⟨r1,rfl,_⟩:=Gp.some_ (by omega);have hr1:=Gp.SL hb1 (by decide);have hl2:=KR hn;clear KR;have d9:decide ((x1:Int)<16777216)=true:=decide_eq_true (by omega);obtain⟨y,hy⟩:∃y,y=x1*256:=⟨_,rfl⟩
    have aY:IntKind.u32.wrap ((x1:Int)*256)=(y:Int):=by
     rw [show(x1:Int)*256=(y:Int)by omega];exact IntWalk.u32_in _ ⟨by omega,by omega⟩
    have Bt:16777216<=y:=by omega
    have sM:y<4294967296:=by omega
    have hb2:=hb1.put (i:=1) (u:=.int .u32 (y:Int)) rfl;have mP:=Gp.far (p:=⟨g,1,none⟩) hr1 (.int .u32 (y:Int));have Y3:=Y6.setCell (p:=⟨g,1,none⟩) (.inl (.inl rfl)) (.int .u32 (y:Int));rw [Jb hn,<-hy]at hx1;have HA:=Z7 (Z9 mP (Z9 hb2 (Z9 Y3 (Z9 Jd (Z9 hx1 (Z9 dZ hy))))));clear hy Gp mP hb1 hb2 Y6 Y3 Jd hx1 dZ;go_upto_region 11 with(fail)
    clear bc bf bl;have vJ:ZI (wr.setCell ⟨g,1,none⟩ (.int .u32 (y:Int))) g 337 #[.slice (some ⟨r1,0,none⟩) Ui.length k1,.int .u32 (y:Int)]:=HA.out.2.1;generalize wr.setCell ⟨g,1,none⟩ (.int .u32 (y:Int))=wz at *;obtain⟨bc,bf⟩:=vJ.both;have bl:=vJ.lt;have HZ:=Z7 vJ;clear vJ;go_wp2_with (at_builtin;have _t:=HA;refine VR _ rfl (.tmp 66) (.tmp 67) rfl 0 (.slice (some ⟨r1,0,none⟩) Ui.length k1) Ui 0 rfl rfl HA.out.1 (XI _) (by omega) ?_;intro v5 w5 PV RO jF Jz;clear jF;have HO:=Z7 (Z9 PV (Z9 RO Jz));have Ut:=HZ.out.keep RO (HA.out.1.apart HZ.out (by decide));obtain⟨bc5,bf5⟩:=Ut.both;have bl5:=Ut.lt;have H5:=Z7 Ut;clear Ut PV RO Jz;refine Hid.out ?_)
    refine Z7 ?_;clear bc bf bl d9 aY;obtain⟨A5,k5,hv5⟩:=ZG HO.out.1;obtain⟨n5,Cr⟩:∃n5,n5=(Ui++[0]).length:=⟨_,rfl⟩
    rw [<-Cr]at hv5;subst hv5;have HN5:=Z7 Cr;clear Cr;go_wp2_with fail;have ET:=H5.out.put (i:=0) (u:=.slice A5 n5 k5) rfl;have jd:=HA.out.2.2.1.size;refine⟨⟨_,Ui++[0],y,ET,HO.out.1.mod ((Mod.refl (fun j=>j=g) w5).setCell (p:=⟨g,0,none⟩) (.inl rfl) _) (fun j e hj=>HO.out.1.apart H5.out (by decide) (hj▸e)),by simp;omega,fun h=>by omega,by omega,sM,(Qw Bt).trans HA.out.2.2.2.2.1,fun j e=>?_,(HA.out.2.2.1.into HO.out.2.1 (fun j e=>?_)).setCell (p:=⟨g,0,none⟩) (.inl (.inl rfl)) _⟩,?_⟩
    ·rcases HO.out.2.2 j e with h1|h1
     ·exact HA.out.2.2.2.1 j h1
     ·exact .inr (ZQ jd h1)
    ·rcases HA.out.2.2.2.1 j e with h1|h1
     ·exact .inl (.inr h1)
     ·exact .inr h1
    ·rw [Hm ET,HA.out.2.2.2.2.2.1];omega
   ·have d9:decide ((x1:Int)<16777216)=false:=decide_eq_false (by omega);rw [Qw (by omega)]at hx1;have HX:=Z7 (Z9 hx1 (Z9 hb1 (Z9 Gp (Z9 Jd Y6))));clear hx1 hb1 Gp Jd Y6;go_wp2_with fail;go_ret;rw [<-HX.out.1];exact⟨v1,rfl,⟨HX.out.2.1,HX.out.2.2.1,h41,by omega,hhi1⟩,HX.out.2.2.2.1,HX.out.2.2.2.2⟩
structure Es where
 ch:List Nat
 code:List UInt8
 wide:Nat
def UU(s:Es)(i bit:Nat):Es:=⟨s.ch.set i (Q7 (s.ch.getD i 0) bit),(Nk s.code s.wide (s.ch.getD i 0) bit).1,(Nk s.code s.wide (s.ch.getD i 0) bit).2⟩
def Kz(s:Es)(bit:Nat):Es:=⟨s.ch,(Nk s.code s.wide 1024 bit).1,(Nk s.code s.wide 1024 bit).2⟩
structure Od(w:World)(bk g:Nat)(v:Value)(s:Es):Prop where
 Ju:ZI w bk 335 (UJ s.ch).toArray
 len:s.ch.length=592
 ok:∀i,i<592->WJ (s.ch.getD i 0)=true
 enc:vT w g v s.code s.wide
def TJ(w:World)(bk g:Nat)(v:Value)(s':Es)(e:Ending)(w':World):Prop:=
 ∃v',e=.returned ↑Z0/\Od w' bk g v' s'/\(∀j,v'.ownBlock=some j->v.ownBlock=some j\/w.heap.size<=j)/\Mod (fun j=>j=g\/j=bk\/v.ownBlock=some j) w w'
theorem Od.apart{w:World}{bk g:Nat}{v:Value}{s:Es}(h:Od w bk g v s):g≠bk/\¬v.ownBlock=some bk:=
 ⟨fun e=>by subst e;exact h.enc.blk.SL h.Ju ZU rfl,h.enc.own.apart h.Ju ZU⟩
theorem Od.quiet{w w':World}{bk g:Nat}{v:Value}{s:Es}(h:Od w bk g v s)(hm:Mod ↑ZW w w'):Od w' bk g v s:=⟨h.Ju.keep hm (fun h=>h),h.len,h.ok,h.enc.quiet hm⟩
theorem AQ{s:Es}{i bit:Nat}(hl:s.ch.length=592)(h:∀j,j<592->WJ (s.ch.getD j 0)=true)(hi:i<592):(UU s i bit).ch.length=592/\∀j,j<592->WJ ((UU s i bit).ch.getD j 0)=true:=by
 refine⟨by simp [UU,hl],fun j hj=>?_⟩;unfold UU;dsimp only;rw [Z6,List.getElem?_set];split
 ·rename_i e;subst e;rw [VI];exact adL _ _ (h i hi)
 ·rw [<-Z6];exact h j hj
theorem dC(w:World)(g gb:Nat)(tb:TypeId)(cs:Array Value)(i p bit:Nat)(v:Value)(code:List UInt8)(wide:Nat)(h:vT w g v code wide)(hl:code.length<=1048575)(hgb:g≠gb)(hgo:¬v.ownBlock=some gb)(hb:ZI w gb tb cs)(hi:cs[i]?=some (.int .u16 (p:Int)))(hp:WJ p=true)(Sk:bit<=1):
  Calls prog 293 #[↑(ZC g 0),↑(ZC gb i),↑bit] w fun e w'=>
   ∃v',e=.returned ↑Z0/\vT w' g v' (Nk code wide p bit).1 (Nk code wide p bit).2/\(∀j,v'.ownBlock=some j->v.ownBlock=some j\/w.heap.size<=j)/\ZI w' gb tb (cs.setIfInBounds i (.int .u16 ((Q7 p bit:Nat):Int)))/\Mod (fun j=>j=g\/j=gb\/v.ownBlock=some j) w w':=by
 have c0:w.cell? ⟨gb,i,none⟩=some (.int .u16 (p:Int)):=(hb.cell i).trans hi;have G1:=akQ w g v code wide p bit h hl hp Sk;have HH:=Z5 hb (Z9 hi (Z9 G1 (Z9 hp hgo)));clear hb hi G1 hp h hgo;go_enter func293,ntmps293;go_wp2_with fail;refine HH.out.2.2.1.mono ?_;rintro e w1 ⟨v1,rfl,yw,rZ,hm⟩
 have hap:¬(gb=g\/v.ownBlock=some gb):=fun h=>by
  rcases h with h|h
  ·exact hgb h.symm
  ·exact HH.out.2.2.2.2 h
 have hb1:=HH.out.1.keep hm hap;have k0:w1.cell? ⟨gb,i,none⟩=some (.int .u16 (p:Int)):=(hb1.cell i).trans HH.out.2.1;have f0:=hb1.frozen i;have KR:=hb1.lt;have KO:=HH.out.1.lt;have HR:=Z5 yw (Z9 rZ (Z9 hm hb1));clear yw rZ hm hb1 c0 hap;go_wp2_with fail;refine YH (ajs _ p bit Sk HH.out.2.2.2.1) ?_;go_wp2_with fail;go_ret;obtain⟨yw,rZ,hm,hb1⟩:=HR.out;have hs:Mod (fun j=>j=gb) w1 (w1.setCell ⟨gb,i,none⟩ (.int .u16 ((Q7 p bit:Nat):Int))):=(Mod.refl (fun j=>j=gb) w1).setCell (p:=⟨gb,i,none⟩) (.inl rfl) _;refine⟨v1,rfl,⟨yw.blk.keep hs hgb,yw.own.mod hs (fun j e hj=>?_),yw.four,yw.lo,yw.hi⟩,rZ,hb1.UY i _,?_⟩
 ·subst hj;rcases rZ _ e with h|h
  ·exact HH.out.2.2.2.2 h
  ·omega
 ·exact(hm.mono (fun _ h=>by rcases h with h|h;exact .inl h;exact .inr (.inr h))).setCell (p:=⟨gb,i,none⟩) (.inl (.inr (.inl rfl))) _
theorem Kr(w:World)(bk g:Nat)(v:Value)(s:Es)(i bit:Nat)(hi:i<592)(Sk:bit<=1)(h:Od w bk g v s)(hl:s.code.length<=1048575):
  Calls prog 293 #[↑(ZC g 0),↑(ZC bk i),↑bit] w (TJ w bk g v (UU s i bit)):=by
 obtain⟨a1,a2⟩:=h.apart;have hx:(UJ s.ch).toArray[i]?=some (.int .u16 ((s.ch.getD i 0:Nat):Int)):=by simp [UJ,Z6,h.len,hi]
 refine(dC w g bk _ _ i _ bit v _ _ h.enc hl a1 a2 h.Ju hx (h.ok i hi) Sk).mono ?_;rintro e w1 ⟨v1,rfl,hE,hF,hb1,hm⟩;have e1:((UJ s.ch).toArray.setIfInBounds i (.int .u16 ((Q7 (s.ch.getD i 0) bit:Nat):Int)))=(UJ (s.ch.set i (Q7 (s.ch.getD i 0) bit))).toArray:=by simp [UJ,WU]
 rw [e1]at hb1;obtain⟨k1,k2⟩:=AQ (bit:=bit) h.len h.ok hi;exact⟨v1,rfl,⟨hb1,k1,k2,hE⟩,hF,hm⟩
theorem abN(w:World)(bk g:Nat)(v:Value)(s:Es)(ge bit:Nat)(Sk:bit<=1)(Dt:g≠ge)(si:bk≠ge)(hve:¬v.ownBlock=some ge)(h:Od w bk g v s)(hl:s.code.length<=1048575)(he:ZI w ge 328 #[.int .u16 1024]):
  Calls prog 293 #[↑(ZC g 0),↑(ZC ge 0),↑bit] w fun e w'=>
   ∃v',e=.returned ↑Z0/\Od w' bk g v' (Kz s bit)/\(∀j,v'.ownBlock=some j->v.ownBlock=some j\/w.heap.size<=j)/\Mod (fun j=>j=g\/j=ge\/v.ownBlock=some j) w w':=by
 obtain⟨a1,a2⟩:=h.apart;refine(dC w g ge _ _ 0 1024 bit v _ _ h.enc hl Dt hve he rfl ZU Sk).mono ?_;rintro e w1 ⟨v1,rfl,hE,hF,_,hm⟩;exact⟨v1,rfl,⟨h.Ju.keep hm (fun h=>by rcases h with h|h|h;exact a1 h.symm;exact si h;exact a2 h),h.len,h.ok,hE⟩,hF,hm⟩
def NF(s:Es)(t i ahead bit:Nat):Es:=if i<4 then UU s (t*37+atIdx i ahead) bit else Kz s bit
def Qv(t x:Nat):Nat->Nat->Nat->Es->Es
 | 0,_,_,s=>s
 | m+1,i,ahead,s=>Qv t x m (i+1) (2*ahead+x/2 ^ m % 2) (NF s t i ahead (x/2 ^ m % 2))
theorem Ri(s:Es)(i bit:Nat):s.code.length<=(UU s i bit).code.length/\(UU s i bit).code.length<=s.code.length+1:=Fj _ _ _ _
theorem aax(s:Es)(bit:Nat):s.code.length<=(Kz s bit).code.length/\(Kz s bit).code.length<=s.code.length+1:=Fj _ _ _ _
theorem J3(s:Es)(t i a bit:Nat):s.code.length<=(NF s t i a bit).code.length/\(NF s t i a bit).code.length<=s.code.length+1:=by
 unfold NF;split
 ·exact Ri _ _ _
 ·exact aax _ _
theorem Kw(t x m:Nat):∀(i a:Nat) (s:Es),s.code.length<=(Qv t x m i a s).code.length/\(Qv t x m i a s).code.length<=s.code.length+m:=by
 induction m with
 | zero=>intro i a s;exact⟨ZY _,ZY _⟩
 | succ m ih=>
  intro i a s;have h1:=J3 s t i a (x/2 ^ m % 2);have h2:=ih (i+1) (2*a+x/2 ^ m % 2) (NF s t i a (x/2 ^ m % 2));unfold Qv;omega
theorem ajx(y:Nat)(hy:y<1099511627776):bits BinOp.and IntKind.i64 (y:Int) 1=((y % 2:Nat):Int):=by
 have e1:(YI 64 (y:Int)).toNat=y:=by rw [Xe];omega
 have e2:(YI 64 1).toNat=1:=by rw [Xe];omega
 have key:(YI 64 (y:Int) &&& YI 64 1).toNat=y % 2:=by
  rw [BitVec.toNat_and,e1,e2,Nat.and_one_is_mod]
 show IntKind.i64.wrap ((YI 64 (y:Int) &&& YI 64 1).toNat:Nat)=_;rw [key];exact Z4 _ ⟨Z8,Z8⟩
def afD(w:World)(bk g:Nat)(v:Value)(t x n:Nat)(tg:Es)(v9 v16:Value)(wr:World):Prop:=
 ∃(i ahead:Nat) (s:Es) (v1:Value),i<=n/\ahead<2 ^ i/\v9=↑ahead/\v16=↑i/\Od wr bk g v1 s/\Qv t x (n-i) i ahead s=tg/\s.code.length+(n-i)<=1048575+1 /\
  (∀j,v1.ownBlock=some j->v.ownBlock=some j\/w.heap.size<=j)/\Mod (fun j=>j=g\/j=bk\/v.ownBlock=some j) w wr
theorem CZ(w:World)(bk g:Nat)(v:Value)(s:Es)(t x n:Nat)(ht:t<16)(hn:n<=20)(hx:x<4294967296)(h:Od w bk g v s)(hl:s.code.length+n<=1048575+1):
  Calls prog 291 #[↑(ZC bk (t*37)),↑(ZC g 0),↑x,↑n] w (TJ w bk g v (Qv t x n 0 0 s)):=by
 obtain⟨tg,PX⟩:=ZL (Qv t x n 0 0 s);rw [<-PX];have lW:=h.Ju.lt;have eH:=h.enc.blk.lt;have HH:=Z5 h (Z9 PX hl);clear h PX hl;go_enter func291,ntmps291;go_wp2_with fail;go_loopw [9,16] (afD w bk g v t x n tg) (fun _ i _=>n-(intOf i).toNat)
 case atStart=>exact⟨0,0,s,v,Z8,Ze,rfl,rfl,HH.out.1,HH.out.2.1.symm,HH.out.2.2,fun j e=>.inl e,Mod.refl _ _⟩
 case round=>
  obtain⟨i,ahead,s1,v1,hi,ha,rfl,rfl,hs,hg,KR,vK,hM⟩:=hrel;rename World=>wr
  have alT:ahead<1048576:=Nat.lt_of_lt_of_le ha (Xx (n:=2) Z8 (show i<=20 by omega));by_cases hlt:i<n
  ·have hsz:=hM.size;obtain⟨m,hm⟩:∃m,n-i=m+1:=⟨n-i-1,Z8⟩
   have em:((n:Int)-1-(i:Int))=(m:Int):=Z8;obtain⟨bt,hbt⟩:=ZL (x/2 ^ m % 2);have hb1:bt<=1:=Z8;have eb:bits BinOp.and IntKind.i64 ((x:Int)/2 ^ m) 1=(bt:Int):=by
    have h1:x/2 ^ m<=x:=Nat.div_le_self _ _;have:=ajx (x/2 ^ m) Z8;rw [hbt,<-this];congr 1
   have Dt:Qv t x (n-i) i ahead s1=Qv t x (n-(i+1)) (i+1) (2*ahead+bt) (NF s1 t i ahead bt):=by
    rw [hbt,hm,show n-(i+1)=m by omega];rfl
   rw [hg]at Dt;have hs2:=hs.quiet ((Mod.refl ↑ZW wr).alloc (.cells #[.int .u16 1024] 328));have si:ZI (wr.alloc (.cells #[.int .u16 1024] 328)) wr.heap.size 328 #[.int .u16 1024]:=ZI.new _ _ _;have RZ:=hM.alloc (.cells #[.int .u16 1024] 328);have hlen:=J3 s1 t i ahead bt;have hvl:∀j,v1.ownBlock=some j->j<wr.heap.size:=fun j e=>(World.ownsRow.lt hs.enc.own j e).2;have HB:=Z5 hs2 (Z9 Dt (Z9 KR (Z9 vK (Z9 RZ (Z9 ha (Z9 si (Z9 hbt (Z9 hlen hvl))))))));clear hs2 hs hg Dt KR vK hM RZ ha si hbt hlen hvl;by_cases h4:i<4
   ·have d4:=Zb ((i:Int)<4);have hia:t*37+atIdx i ahead<592:=by
     have:ahead<2 ^ i:=HB.out.2.2.2.2.2.1;have h3:2 ^ i<=8:=Xx (n:=2) (j:=3) Z8 Z8;unfold atIdx;omega
    have HA:=Z7 hia;clear hia;go_wp2_with fail;refine YX (bAt _ bk (t*37) i ahead h4 HB.out.2.2.2.2.2.1) fun w2 Y3=>?_;have G2:=Kr w2 bk g v1 s1 (t*37+atIdx i ahead) bt HA.out hb1 (HB.out.1.quiet Y3) (by have:=HB.out.2.2.1;omega);have HM2:=Z5 G2 Y3;clear Y3 G2;go_wp2_with fail;refine HM2.out.1.mono ?_;rintro e w3 ⟨v3,rfl,hs3,hf3,X7⟩;have H3:=Z5 hs3 (Z9 hf3 (HM2.out.2.mono (S':=fun j=>j=g\/j=bk\/v1.ownBlock=some j) (fun _ h=>h.elim) |>.trans X7));have aO:=HM2.out.2.size;have HO:=Z7 (ah0 ahead bt Z8 hb1);clear hs3 hf3 X7;go_wp2_with fail;go_roundw
    case rel=>
     have hE:=H3.out.1;refine⟨i+1,2*ahead+bt,NF s1 t i ahead bt,v3,Z8,by have:=HB.out.2.2.2.2.2.1;rw [XF];omega,?_,Zr,by unfold NF;rw [if_pos h4];exact hE,HB.out.2.1.symm,by have:=HB.out.2.2.1;have:=HB.out.2.2.2.2.2.2.2.2.1;omega,fun j e=>?_,HB.out.2.2.2.2.1.into H3.out.2.2 (fun j e=>?_)⟩
     ·rw [HO.out]
     ·rcases H3.out.2.1 j e with h1|h1
      ·exact HB.out.2.2.2.1 j h1
      ·exact .inr (by first|(simp at aO;omega)|(simp at h1;omega))
     ·rcases e with e|e|e
      ·exact .inl (.inl e)
      ·exact .inl (.inr (.inl e))
      ·rcases HB.out.2.2.2.1 j e with h1|h1
       ·exact .inl (.inr (.inr h1))
       ·exact .inr h1
    case measure=>exact YD
   ·have d4:=Za ((i:Int)<4);have G2:=abN (wr.alloc (.cells #[.int .u16 1024] 328)) bk g v1 s1 wr.heap.size bt hb1 Z8 Z8 (fun e=>by have:=HB.out.2.2.2.2.2.2.2.2.2 _ e;omega) HB.out.1 (by have:=HB.out.2.2.1;omega) HB.out.2.2.2.2.2.2.1;have HG2:=Z7 G2;clear G2;go_wp2_with fail;refine HG2.out.mono ?_;rintro e w3 ⟨v3,rfl,hs3,hf3,X7⟩;have H3:=Z5 hs3 (Z9 hf3 X7);have aO:wr.heap.size<=(wr.alloc (.cells #[.int .u16 1024] 328)).heap.size:=Ze;have HO:=Z7 (ah0 ahead bt Z8 hb1);clear hs3 hf3 X7;go_wp2_with fail;go_roundw
    case rel=>
     have hE:=H3.out.1;refine⟨i+1,2*ahead+bt,NF s1 t i ahead bt,v3,Z8,by have:=HB.out.2.2.2.2.2.1;rw [XF];omega,?_,Zr,by unfold NF;rw [if_neg h4];exact hE,HB.out.2.1.symm,by have:=HB.out.2.2.1;have:=HB.out.2.2.2.2.2.2.2.2.1;omega,fun j e=>?_,HB.out.2.2.2.2.1.into H3.out.2.2 (fun j e=>?_)⟩
     ·rw [HO.out]
     ·rcases H3.out.2.1 j e with h1|h1
      ·exact HB.out.2.2.2.1 j h1
      ·exact .inr (by first|(simp at aO;omega)|(simp at h1;omega))
     ·rcases e with e|e|e
      ·exact .inl (.inl e)
      ·exact .inr Z8
      ·rcases HB.out.2.2.2.1 j e with h1|h1
       ·exact .inl (.inr (.inr h1))
       ·exact .inr h1
    case measure=>exact YD
  ·obtain rfl:i=n:=Z8;have HB:=Z5 hs (Z9 hg (Z9 vK hM));clear hs hg KR vK hM;go_wp2_with fail;go_ret;refine⟨v1,rfl,?_,HB.out.2.2.1,HB.out.2.2.2⟩;have:=HB.out.2.1;rw [Nat.sub_self]at this;rw [<-this];exact HB.out.1
end Go.Proofs.YthednemlahioeaaGreatDoor
