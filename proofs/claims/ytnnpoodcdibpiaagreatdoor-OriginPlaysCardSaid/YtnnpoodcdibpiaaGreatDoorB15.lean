/-
  intra.Rest.
-/
import Derived.Test.YtnnpoodcdibpiaaGreatDoorB14
namespace Go.Proofs.YtnnpoodcdibpiaaGreatDoor
open Go.RowKit
set_option maxRecDepth 100000
set_option maxHeartbeats 8000000
def restAt(a b:List UInt8)(i:Nat):Int:=((a.getD i 0).toNat:Int)-((b.getD i 0).toNat:Int)
def rsL(a b:List UInt8)(k:Nat):List Int:=(List.range a.length).map fun i=>if i<k then restAt a b i else 0
def restL(a b:List UInt8):List Int:=rsL a b a.length
theorem rsL_length(a b:List UInt8)(k:Nat):(rsL a b k).length=a.length:=by simp [rsL]
theorem restL_length(a b:List UInt8):(restL a b).length=a.length:=rsL_length _ _ _
theorem rsL_zero(a b:List UInt8):rsL a b 0=List.replicate a.length 0:=by
 unfold rsL;apply List.ext_getElem
 ·simp
 ·intro i h1 h2;simp
theorem rsL_set(a b:List UInt8)(k:Nat):(rsL a b k).set k (restAt a b k)=rsL a b (k+1):=by
 unfold rsL;apply List.ext_getElem
 ·simp
 ·intro i h1 h2;rw [List.getElem_set];simp only [List.getElem_map,List.getElem_range];by_cases e:k=i
  ·subst e;rw [if_pos rfl,if_pos (by omega)]
  ·rw [if_neg e];by_cases e2:i<k
   ·rw [if_pos e2,if_pos (by omega)]
   ·rw [if_neg e2,if_neg (by omega)]
def RestRel(w4:World)(ob:Nat)(a b:List UInt8)(i:Value)(wr:World):Prop:=
 ∃k:Nat,k<=a.length/\i=.int .i64 (k:Int)/\Blk wr ob 3 (i64s (rsL a b k)).toArray/\Mod (·=ob) w4 wr
theorem iRest(w:World)(A:Option Addr)(n c:Nat)(a:List UInt8)(A2:Option Addr)(c2:Nat)(b:List UInt8)(hin:BytesIn w A n c a)(hin2:BytesIn w A2 n c2 b)(hn0:0<n)(hn:n<=4096):
  Calls Tryz.prog 314 #[.slice A n c,.slice A2 n c2] w fun e w'=>∃ob,e=.returned (.slice (some ⟨ob,0,none⟩) n n)/\Blk w' ob 3 (i64s (restL a b)).toArray/\w.heap.size<=ob/\Mod (fun _=>False) w w':=by
 obtain rfl:a.length=n:=hin.1;obtain⟨ba,oa,rfl,hba,hca⟩:=hin.place hn0;obtain⟨bb,ob2,rfl,hbb,hcb⟩:=hin2.place hn0;have HC:=Lib.hid (And.intro hca hcb);clear hca hcb hin hin2;go_enter Tryz.func314,Tryz.ntmps314;go_upto_region 4 with(refine wpList_mk_int _ rfl (.tmp 14) (.tmp 14) rfl a.length rfl rfl (by omega) ?_;intro w4 hob hm4;have HO:=Lib.hid (And.intro hob hm4);clear hob hm4)
 have hob:=HO.out.1;rw [<-rsL_zero a b]at hob;obtain⟨ob,hobe⟩:∃ob,ob=w.heap.size:=⟨_,rfl⟩
 rw [<-hobe]at hob ⊢;have m4:=HO.out.2;have how:w.heap.size<=ob:=by omega
 have hbo:¬ba=ob:=by omega
 have hbo2:¬bb=ob:=by omega
 clear HO hobe;go_wp2_with fail;go_loopw [18] (RestRel w4 ob a b) (fun i _=>a.length-(intOf i).toNat)
 case atStart=>exact⟨0,by omega,rfl,hob,Mod.refl _ _⟩
 case round=>
  clear hob;obtain⟨k,hk,rfl,hob,hM⟩:=hrel;by_cases hlt:k<a.length
  ·have hMw:Mod (·=ob) w wr:=(m4.mono (fun _ h=>h.elim)).trans hM;have hck:wr.cell? ⟨ba,oa+k,none⟩=some (.int .u8 ((a.getD k 0).toNat:Int)):=(World.cell?_of_block (hMw.block ba hba hbo)).trans (HC.out.1 k hlt);have hck2:wr.cell? ⟨bb,ob2+k,none⟩=some (.int .u8 ((b.getD k 0).toNat:Int)):=(World.cell?_of_block (hMw.block bb hbb hbo2)).trans (HC.out.2 k hlt);have hx:(a.getD k 0).toNat<256:=UInt8.toNat_lt _;have hy:(b.getD k 0).toNat<256:=UInt8.toNat_lt _;have HFA:Hid (restAt a b k=((a.getD k 0).toNat:Int)-((b.getD k 0).toNat:Int)):=rfl;generalize (a.getD k 0).toNat=x at *;generalize (b.getD k 0).toNat=y at *;have hoc:wr.cell? ⟨ob,k,none⟩=some (.int .i64 ((rsL a b k).getD k 0)):=by rw [hob.cell k];simp [i64s,rsL_length,hlt]
   have hof:=hob.frozen k;have i1:(0:Int)<=(k:Int):=by omega
   have i2:(k:Int)<(a.length:Int):=by omega
   have hobl:=hob.lt;have HB:=Lib.hid (And.intro hob hM);clear hob hM hMw;generalize (rsL a b k).getD k 0=old at *;go_wp2_with fail;go_roundw
   case rel=>
    obtain⟨hob,hM⟩:=HB.out;exact⟨k+1,by omega,by go_num,hob.put (by rw [<-rsL_set,HFA.out];simp [i64s,List.map_set]),hM.setCell (p:=⟨ob,k,none⟩) (.inl rfl) _⟩
   case measure=>simp [intOf];omega
  ·obtain rfl:k=a.length:=by omega
   have HB:=Lib.hid (And.intro hob hM);clear hob hM;go_wp2_with fail;go_ret;exact⟨ob,rfl,HB.out.1,how,m4.into HB.out.2 (fun i e=>.inr (by omega))⟩
def absTo(l:List Int):Nat->Nat
 | 0=>0
 | k+1=>absTo l k+(l.getD k 0).natAbs
theorem absTo_le{M:Nat}{l:List Int}(h:∀i,(l.getD i 0).natAbs<=M)(k:Nat):absTo l k<=k*M:=by
 induction k with
 | zero=>simp [absTo]
 | succ k ih=>
  have:=h k;rw [absTo,Nat.add_mul,Nat.one_mul];omega
def modeFar(W:Nat)(pix:List UInt8)(x y:Nat)(b:List UInt8)(m:Nat):Nat:=absTo (restL b (guessL W pix x y m)) 64
def chTo(W:Nat)(pix:List UInt8)(x y:Nat)(b:List UInt8):Nat->Nat × Nat
 | 0=>(0,0)
 | k+1=>if k=0\/modeFar W pix x y b k<(chTo W pix x y b k).2 then(k,modeFar W pix x y b k)else chTo W pix x y b k
def chMode(W:Nat)(pix:List UInt8)(x y:Nat)(b:List UInt8):Nat:=(chTo W pix x y b 4).1
theorem chTo_lt(W:Nat)(pix:List UInt8)(x y:Nat)(b:List UInt8)(k:Nat):(chTo W pix x y b k).1<=k-1:=by
 induction k with
 | zero=>exact Nat.le_refl _
 | succ k ih=>
  unfold chTo;split
  ·exact Nat.le_refl _
  ·omega
theorem chMode_lt(W:Nat)(pix:List UInt8)(x y:Nat)(b:List UInt8):chMode W pix x y b<4:=by
 have:=chTo_lt W pix x y b 4;unfold chMode;omega
theorem restL_abs(a b:List UInt8)(i:Nat):((restL a b).getD i 0).natAbs<=255:=by
 unfold restL rsL;rw [List.getD_eq_getElem?_getD,List.getElem?_map];by_cases h:i<a.length
 ·rw [List.getElem?_range h];have h1:=UInt8.toNat_lt (a.getD i 0);have h2:=UInt8.toNat_lt (b.getD i 0);show(if i<a.length then restAt a b i else 0).natAbs<=255;rw [if_pos h];unfold restAt;omega
 ·rw [List.getElem?_eq_none (by simp;omega)];show(0:Int).natAbs<=255;decide
def ChBlk(w:World)(l:List UInt8)(k:Nat)(v15:Value)(wr:World):Prop:=0<k->∃g,v15=.slice (some ⟨g,0,none⟩) 64 64/\Blk wr g 5 (u8s l).toArray/\w.heap.size<=g
theorem ChBlk.quiet{w wr wr':World}{l:List UInt8}{k:Nat}{v15:Value}(h:ChBlk w l k v15 wr)(hm:Mod (fun _=>False) wr wr'):ChBlk w l k v15 wr':=fun h0=>by
 obtain⟨g,h1,h2,h3⟩:=h h0;exact⟨g,h1,h2.keep hm (fun h=>h),h3⟩
def ChRel(w:World)(pb W:Nat)(pv:Array Value)(pix:List UInt8)(x y:Nat)(b:List UInt8)(v13 v14 v15 v24:Value)(wr:World):Prop:=
 ∃k:Nat,k<=4/\v24=.int .i64 (k:Int)/\v13=.int .i64 ((chTo W pix x y b k).1:Int)/\v14=.int .i64 ((chTo W pix x y b k).2:Int)/\Sat (fun _=>False) w wr [⟨pb,108,pv⟩] [] /\
  ChBlk w (guessL W pix x y (chTo W pix x y b k).1) k v15 wr
def ChRel2(wq:World)(l:List Int)(v19 v48:Value)(wr:World):Prop:=∃i:Nat,i<=64/\v48=.int .i64 (i:Int)/\v19=.int .i64 ((absTo l i:Nat):Int)/\wr=wq
def ChPost(w:World)(W:Nat)(pix:List UInt8)(x y:Nat)(b:List UInt8)(e:Ending)(w':World):Prop:=
 ∃g,e=.returned (.tuple #[.int .i64 ((chMode W pix x y b:Nat):Int),.slice (some ⟨g,0,none⟩) 64 64,.int .i64 0])/\Blk w' g 5 (u8s (guessL W pix x y (chMode W pix x y b))).toArray/\w.heap.size<=g/\Mod (fun _=>False) w w'
theorem iChoose(w:World)(W H:Nat)(A:Option Addr)(n c:Nat)(pix:List UInt8)(h:sidesB W H=true)(hn:n=W*H)(hin:BytesIn w A n c pix)(hnc:n<=c)(x y:Nat)(hx:x+8<=W)(hy:y+8<=H)
  (A2:Option Addr)(c2:Nat)(b:List UInt8)(hb:BytesIn w A2 64 c2 b):
  Calls Tryz.prog 312 #[.agg #[.int .i64 (W:Int),.int .i64 (H:Int),.slice A n c],.int .i64 (x:Int),.int .i64 (y:Int),.int .i64 8,.slice A2 64 c2] w (ChPost w W pix x y b):=by
 have HI:=Lib.hid (And.intro h (And.intro hn (And.intro hin (And.intro hnc hb))));clear h hn hin hnc hb;have h0:=(Sat.nil (fun _=>False) w)
 go_enter Tryz.func312,Tryz.ntmps312;go_wp2_with fail;refine(iModes _).mono ?_;rintro e w1 ⟨rfl,hm1⟩;have HS:=Lib.hid (Sat.after hm1 (h0.alloc 108 #[.int .i64 (W:Int),.int .i64 (H:Int),.slice A n c] rfl));clear hm1 h0;go_wp2_with fail;go_loopw [13,14,15,24] (ChRel w w.heap.size W #[.int .i64 (W:Int),.int .i64 (H:Int),.slice A n c] pix x y b) (fun _ _ _ k _=>4-(intOf k).toNat)
 case atStart=>exact⟨0,by omega,rfl,rfl,rfl,HS.out,fun h=>absurd h (by omega)⟩
 case round=>
  clear HS;rename World=>wr
  obtain⟨k,hk,rfl,rfl,rfl,hs,hg⟩:=hrel;by_cases hlt:k<4
  ·have d1:decide ((k:Int)<4)=true:=decide_eq_true (by omega);obtain⟨pc,pf⟩:=(hs.own_ 0 rfl).both;have HK:=Lib.hid (And.intro hs hg);clear hs hg;go_wp2_with fail;refine(iGuess _ W H A n c pix HI.out.1 HI.out.2.1 (HI.out.2.2.1.quiet HK.out.1.mod) HI.out.2.2.2.1 x y k hx hy hlt).mono ?_;rintro e w2 ⟨g2,rfl,hb2,hg2,hm2⟩;have hs2:=Sat.after hm2 HK.out.1;have hin2:=blkIn hb2 (guessL_length W pix x y k) (by omega);have hgw:=HK.out.1.mod.size;have hold:=HK.out.2.quiet hm2;have HK2:=Lib.hid (And.intro hs2 (And.intro hin2 (And.intro hold hb2)));clear hm2 hs2 hin2 hold hb2 HK pc pf;go_wp2_with fail;refine(iRest _ A2 64 c2 b (some ⟨g2,0,none⟩) 64 (guessL W pix x y k) (HI.out.2.2.2.2.quiet HK2.out.1.mod) HK2.out.2.1 (by omega) (by omega)).mono ?_;rintro e w3 ⟨ob,rfl,hbr,hor,hm3⟩;have hs3:=Sat.after hm3 HK2.out.1;have hF:Hid (modeFar W pix x y b k=absTo (restL b (guessL W pix x y k)) 64):=rfl;have hrl:(restL b (guessL W pix x y k)).length=64:=by rw [restL_length];exact HI.out.2.2.2.2.1
   have hab:=restL_abs b (guessL W pix x y k);generalize restL b (guessL W pix x y k)=R at *;have HK3:=Lib.hid (And.intro hs3 (And.intro (HK2.out.2.2.2.keep hm3 (fun h=>h)) (And.intro hbr hrl)));have hold:=HK2.out.2.2.1.quiet hm3;have HO:=Lib.hid hold;clear hm3 hs3 hbr hold HK2 hor;go_wp2_with fail;go_loopw [19,48] (ChRel2 w3 R) (fun _ i _=>64-(intOf i).toNat)
   case atStart=>exact⟨0,by omega,rfl,rfl,rfl⟩
   case round=>
    obtain⟨i,hi,rfl,rfl,rfl⟩:=hrel;by_cases hli:i<64
    ·have d2:decide ((i:Int)<64)=true:=decide_eq_true (by omega);have hc:=HK3.out.2.2.1.cell i;rw [List.getElem?_toArray,getD_i64s _ _ (by have:=HK3.out.2.2.2;omega)]at hc;have ha:=hab i;have hle:=absTo_le hab i;have hst:Hid (absTo R (i+1)=absTo R i+(R.getD i 0).natAbs):=rfl;generalize R.getD i 0=z at *;generalize absTo R i=s0 at *;have i0:(0:Int)<=(i:Int):=by omega
     have e1:max z (-z)=((z.natAbs:Nat):Int):=by omega
     have hs0:s0<=16320:=by omega
     go_wp2_with fail;go_roundw
     case rel=>exact⟨i+1,by omega,by go_num,congrArg (Value.int .i64) (by rw [hst.out];split<;>omega),rfl⟩
     case measure=>simp [intOf];omega
    ·obtain rfl:i=64:=by omega
     rw [<-hF.out];have hC:Hid (chTo W pix x y b (k+1)=if k=0\/modeFar W pix x y b k<(chTo W pix x y b k).2 then(k,modeFar W pix x y b k)else chTo W pix x y b k):=rfl;have hFb:modeFar W pix x y b k<=16320:=by rw [hF.out];exact absTo_le hab 64
     clear hF hab;generalize modeFar W pix x y b k=F at *;generalize hq:(chTo W pix x y b k).2=q at *;generalize hp:(chTo W pix x y b k).1=p at *;have HQ:=Lib.hid (And.intro hq hp);clear hq hp;have hst:(k=0\/(¬k=0/\F<q))\/(¬k=0/\¬F<q):=by omega
     rcases hst with hst|⟨hk0,hFq⟩
     ·have hC2:=Lib.hid (hC.out.trans (if_pos (hst.imp id (fun h=>h.2))));rcases hst with hk0|⟨hk0,hFq⟩
      case' inl=>
       have d2:((k:Int) == 0)=true:=by simp;omega
      case' inr=>
       have d2:((k:Int) == 0)=false:=by simp;omega
       have d3:decide ((F:Int)<(q:Int))=true:=decide_eq_true (by omega)
      all_goals
       have HK0:=Lib.hid hk0;clear hk0;go_wp2_with fail;go_roundw
       case rel=>
        refine⟨k+1,by omega,by go_num,by rw [hC2.out],by rw [hC2.out],HK3.out.1,fun _=>⟨g2,rfl,?_,by omega⟩⟩;rw [hC2.out];exact HK3.out.2.1
       case measure=>simp [intOf];omega
     ·have hC2:=Lib.hid (hC.out.trans (if_neg (by omega)));have d2:((k:Int) == 0)=false:=by simp;omega
      have d3:decide ((F:Int)<(q:Int))=false:=decide_eq_false (by omega);have HK0:=Lib.hid (And.intro hk0 hFq);clear hk0;go_wp2_with fail;go_roundw
      case rel=>
       refine⟨k+1,by omega,by go_num,by rw [hC2.out,HQ.out.2],by rw [hC2.out,HQ.out.1],HK3.out.1,fun _=>?_⟩;rw [hC2.out,HQ.out.2];exact HO.out (by have:=HK0.out.1;omega)
      case measure=>simp [intOf];omega
  ·obtain rfl:k=4:=by omega
   have HM:Hid (chMode W pix x y b=(chTo W pix x y b 4).1):=rfl;obtain⟨g,rfl,hb,hgw⟩:=hg (by omega);rw [<-HM.out]at hb ⊢;have HB:=Lib.hid (And.intro hb hs);clear hb hs hg;generalize (chTo W pix x y b 4).2=q at *;have hml:=chMode_lt W pix x y b;go_wp2_with fail
   go_ret3
   exact⟨g,rfl,HB.out.1,hgw,HB.out.2.mod⟩
def levelOf(v s:Int):Int:=if v<0 then -((-v+s/3)/s)else(v+s/3)/s
theorem quantLevel(w:World)(v s:Int)(hs:1<=s/\s<=1048576)(hv:-1073741824<=v/\v<=1073741824):Calls Tryz.prog 360 #[.int .i64 v,.int .i64 s] w fun e w'=>e=.returned (.int .i64 (levelOf v s))/\w=w':=by
 obtain⟨hs1,hs2⟩:=hs;obtain⟨hv1,hv2⟩:=hv;have d0:decide (s<1)=false:=decide_eq_false (by omega);have n0:¬s=0:=by omega
 obtain⟨t,ht⟩:∃t,t=s/3:=⟨_,rfl⟩
 have ht2:s.tdiv 3=t:=by rw [ht];exact Int.tdiv_eq_ediv_of_nonneg (by omega)
 have ht0:0<=t:=by omega
 have ht1:t<=1048576:=by omega
 by_cases h:v<0
 ·have d1:decide (v<0)=true:=decide_eq_true h;obtain⟨q,hq⟩:∃q,q=(-v+t)/s:=⟨_,rfl⟩
  have hq2:(-v+t).tdiv s=q:=by rw [hq];exact Int.tdiv_eq_ediv_of_nonneg (by omega)
  have hq0:0<=q:=by rw [hq];exact Int.ediv_nonneg (by omega) (by omega)
  have hq1:q<=2147483648:=by
   rw [hq];exact Int.le_trans (Int.ediv_le_self _ (by omega)) (by omega)
  have w1:IntKind.i64.wrap (-v) = -v:=IntWalk.i64_in _ ⟨by omega,by omega⟩;have w2:IntKind.i64.wrap (-v+t) = -v+t:=IntWalk.i64_in _ ⟨by omega,by omega⟩;have w3:IntKind.i64.wrap q=q:=IntWalk.i64_in _ ⟨by omega,by omega⟩;have w4:IntKind.i64.wrap (-q) = -q:=IntWalk.i64_in _ ⟨by omega,by omega⟩;have HR:Hid (levelOf v s = -q):=by
   show _=_;unfold levelOf;rw [if_pos h,<-ht,<-hq]
  clear hq ht h;go_enter Tryz.func360,Tryz.ntmps360;go_wp2_with fail;go_ret;exact⟨by rw [HR.out];rfl,rfl⟩
 ·have d1:decide (v<0)=false:=decide_eq_false h;obtain⟨q,hq⟩:∃q,q=(v+t)/s:=⟨_,rfl⟩
  have hq2:(v+t).tdiv s=q:=by rw [hq];exact Int.tdiv_eq_ediv_of_nonneg (by omega)
  have hq0:0<=q:=by rw [hq];exact Int.ediv_nonneg (by omega) (by omega)
  have hq1:q<=2147483648:=by
   rw [hq];exact Int.le_trans (Int.ediv_le_self _ (by omega)) (by omega)
  have w2:IntKind.i64.wrap (v+t)=v+t:=IntWalk.i64_in _ ⟨by omega,by omega⟩;have w3:IntKind.i64.wrap q=q:=IntWalk.i64_in _ ⟨by omega,by omega⟩;have HR:Hid (levelOf v s=q):=by
   show _=_;unfold levelOf;rw [if_neg h,<-ht,<-hq]
  clear hq ht h;go_enter Tryz.func360,Tryz.ntmps360;go_wp2_with fail;go_ret;exact⟨by rw [HR.out];rfl,rfl⟩
theorem level_bd(v s:Int)(hs:1<=s/\s<=1008)(M:Int)(hM:0<=M)(hv:-M<=v/\v<=M):-(M+336)<=levelOf v s/\levelOf v s<=M+336:=by
 obtain⟨h1,h2⟩:=hs;obtain⟨h3,h4⟩:=hv;have t0:0<=s/3/\s/3<=336:=by omega
 unfold levelOf;generalize s/3=t at *;split
 ·have a:=Int.ediv_le_self s (show 0 <= -v+t by omega);have b:0<=(-v+t)/s:=Int.ediv_nonneg (by omega) (by omega);omega
 ·have a:=Int.ediv_le_self s (show 0<=v+t by omega);have b:0<=(v+t)/s:=Int.ediv_nonneg (by omega) (by omega);omega
def coarseAt(l:List Int)(q:Int)(i:Nat):Int:=levelOf (l.getD i 0) (stepOf q ((i % sideOf l.length:Nat):Int) ((i/sideOf l.length:Nat):Int))
def coarseL(l:List Int)(q:Int):List Int:=(List.range l.length).map (coarseAt l q)
def qCoarse(l:List Int)(q:Int):Option (List Int):=if allB 67108864 l=true/\(0<=q/\q<=31)/\∀i<l.length,inB 67108864 (coarseAt l q i)=true then some (coarseL l q)else none
def pcC(l:List Int)(q:Int)(k:Nat):List Int:=(List.range l.length).map fun i=>if i<k then coarseAt l q i else 0
theorem pcC_zero(l:List Int)(q:Int):pcC l q 0=List.replicate l.length 0:=by
 unfold pcC;apply List.ext_getElem
 ·simp
 ·intro i h1 h2;simp
theorem pcC_all(l:List Int)(q:Int):pcC l q l.length=coarseL l q:=by
 unfold pcC coarseL;refine List.map_congr_left fun i hi=>?_;rw [if_pos (List.mem_range.1 hi)]
theorem pcC_set(l:List Int)(q:Int)(k:Nat):(pcC l q k).set k (coarseAt l q k)=pcC l q (k+1):=by
 unfold pcC;apply List.ext_getElem
 ·simp
 ·intro i h1 h2;rw [List.getElem_set];simp only [List.getElem_map,List.getElem_range];by_cases e:k=i
  ·subst e;rw [if_pos rfl,if_pos (by omega)]
  ·rw [if_neg e];by_cases e2:i<k
   ·rw [if_pos e2,if_pos (by omega)]
   ·rw [if_neg e2,if_neg (by omega)]
theorem pcC_length(l:List Int)(q:Int)(k:Nat):(pcC l q k).length=l.length:=by simp [pcC]
def CoarsePost(w:World)(l:List Int)(q:Int)(e:Ending)(w':World):Prop:=
 Mod (fun _=>False) w w'/\((qCoarse l q=none/\e=.returned (.tuple #[.slice none 0 0,.int .i64 1]))\/∃v,qCoarse l q=some (coarseL l q)/\e=.returned (.tuple #[v,.int .i64 0])/\IntsOwn w' w.heap.size v (coarseL l q))
def EachRelC(w4:World)(ob:Nat)(l:List Int)(q:Int)(i:Value)(wr:World):Prop:=
 ∃k:Nat,k<=l.length/\i=.int .i64 k/\(∀j<k,inB 67108864 (coarseAt l q j)=true)/\(0<k->0<=q/\q<=31)/\Blk wr ob 3 (i64s (pcC l q k)).toArray/\Mod (·=ob) w4 wr
theorem quantEachC(w:World)(A:Option Addr)(n c:Nat)(l:List Int)(q:Int)(hin:IntsIn w A n c l)(hn:n<=1048576):
  Calls Tryz.prog 359 #[.slice A n c,.int .i64 q,.func (.func 360) #[] #[]] w (CoarsePost w l q):=by
 obtain⟨i0,hi0,hz0,hz1,hz2⟩:=info_parts int_info;obtain rfl:l.length=n:=hin.1;have HIN:=Lib.hid hin;clear hin;go_enter Tryz.func359,Tryz.ntmps359;go_wp2_with fail;refine(quantWithin _ 67108864).mono ?_;rintro e w1 ⟨rfl,hb1,m1⟩;obtain⟨bb,hbb⟩:∃bb,bb=w.heap.size:=⟨_,rfl⟩
 rw [<-hbb]at hb1 ⊢;have hbw:w.heap.size<=bb:=by omega
 clear hbb;go_wp2_with fail;refine(quantAll _ A l.length c bb l 67108864 (HIN.out.quiet m1) hn (by omega) hb1).mono ?_;rintro e w2 ⟨rfl,rfl⟩;cases hall:allB 67108864 l with
 | false=>
  have HQ:Hid (qCoarse l q=none):=if_neg (fun h=>by rw [hall]at h;cases h.1);clear hall hb1;go_wp2_with fail;go_ret2;exact⟨m1,.inl ⟨HQ.out,rfl⟩⟩
 | true=>
  obtain⟨hsn,hins⟩:=allB_parts hall;have hsc:=side_cases hsn;have HALL:=Lib.hid (And.intro hall hins);clear hall hins;go_wp2_with fail;refine(quantSide _ l.length (by omega)).mono ?_;rintro e w3 ⟨rfl,rfl⟩;obtain⟨s,hs⟩:∃s,s=sideOf l.length:=⟨_,rfl⟩
  rw [<-hs]at hsn hsc ⊢;have HS:=Lib.hid hs;clear hs;have hl0:16<=l.length/\l.length<=64:=by omega
  have hs8:4<=s/\s<=8:=by omega
  have hls:l.length<=8*s/\l.length<=s*s:=by rcases hsc with⟨e1,e2⟩|⟨e1,e2⟩<;>rw [e1,e2]<;>decide
  clear hsc hsn;have x1:i0.bytes*l.length<=281474976710656:=by rw [hz2];omega
  have x2:l.length<=maxLen:=by unfold maxLen;omega
  have HX:=Lib.hid (And.intro x1 x2);clear x1 x2;go_upto_region 6 with(with_reducible refine wpList_make_full _ rfl (.tmp 24) (.tmp 24) _ rfl w1.heap.size 3 i0 (.int .i64 0) 1 Tryz.underlying23 hi0 hz0 hz1 _ _ _ _ l.length rfl rfl rfl rfl HX.out.1 HX.out.2 (Nat.le_refl _) ?_;intro w4 hown4 hg4;have HO:=Lib.hid (And.intro hown4 hg4);clear hown4 hg4)
  have m4:Mod (fun _=>False) w1 w4:=(Mod.refl _ _).grown HO.out.2 (fun k hk=>by cases hk);obtain⟨hob,_⟩:=own_whole HO.out.1;rw [Nat.mul_one,made_int,<-pcC_zero l q]at hob;obtain⟨ob,hobe⟩:∃ob,ob=w1.heap.size:=⟨_,rfl⟩
  rw [<-hobe]at hob ⊢;have hbl:=hb1.lt;have hbo:¬bb=ob:=by omega
  have how:w.heap.size<=ob:=by have:=m1.size;omega
  have hb4:=hb1.keep m4 (fun h=>h);have M4:=m1.trans m4;have hin4:=HIN.out.quiet M4;have hlen:=HIN.out.2.2.2 (by omega);clear HO m1 m4 hb1 hobe;obtain⟨b,off,hA,_,hc⟩:=hin4.place (by omega);subst hA;have hbw2:b<w.heap.size:=hlen _ rfl;have HC:=Lib.hid hc;clear hc hin4 hlen;go_wp2_with fail;go_loopw [28] (EachRelC w4 ob l q) (fun i _=>l.length-(intOf i).toNat)
  case atStart=>exact⟨0,by omega,rfl,(fun j hj=>by omega),(fun h=>by omega),hob,Mod.refl _ _⟩
  case round=>
   clear hob;obtain⟨k,hk,rfl,hpre,hqk,hob,hM⟩:=hrel;have HPRE:=Lib.hid (And.intro hpre hqk);clear hpre hqk;by_cases hlt:k<l.length
   ·have hck:wr.cell? ⟨b,off+k,none⟩=some (.int .i64 (l.getD k 0)):=(World.cell?_of_block (hM.block b (World.block_lt_of_cell? _ _ (HC.out k hlt)) (by omega))).trans (HC.out k hlt);have hvin:=HALL.out.2 k hlt;have HFA:Hid (coarseAt l q k=levelOf (l.getD k 0) (stepOf q ((k % s:Nat):Int) ((k/s:Nat):Int))):=by show _=_;unfold coarseAt;rw [HS.out]
    generalize hvv:l.getD k 0=v at *;clear hvv;unfold inB at hvin;simp only [decide_eq_true_eq]at hvin;obtain⟨v1,v2⟩:=hvin;have i1:(0:Int)<=(k:Int):=by omega
    have i2:(k:Int)<(l.length:Int):=by omega
    obtain⟨kx,hkx⟩:∃kx,kx=k % s:=⟨_,rfl⟩
    obtain⟨ky,hky⟩:∃ky,ky=k/s:=⟨_,rfl⟩
    have hks:kx<s:=by rw [hkx];exact Nat.mod_lt _ (by omega)
    have hkd:ky<s:=by rw [hky];exact Nat.div_lt_of_lt_mul (by omega)
    have t1:((k:Int).tmod (s:Int))=(kx:Int):=by rw [Int.tmod_eq_emod_of_nonneg (by omega),hkx];exact(Int.natCast_emod k s).symm
    have t2:((k:Int).tdiv (s:Int))=(ky:Int):=by rw [Int.tdiv_eq_ediv_of_nonneg (by omega),hky];exact(Int.natCast_ediv k s).symm
    have t3:((k:Int) % (s:Int))=(kx:Int):=by rw [hkx];exact(Int.natCast_emod k s).symm
    have t4:((k:Int)/(s:Int))=(ky:Int):=by rw [hky];exact(Int.natCast_ediv k s).symm
    have hs0:((s:Int) == 0)=false:=beq_eq_false_iff_ne.2 (by omega);rw [<-hkx,<-hky]at HFA;have HT:=Lib.hid (And.intro t1 (And.intro t2 (And.intro t3 t4)));clear hkx hky t1 t2 t3 t4;by_cases hq:0<=q/\q<=31
    ·have hok:stepOk q (kx:Int) (ky:Int)=true:=by unfold stepOk;rw [decide_eq_true_eq];omega
     go_upto_region 9 with(fail)
     obtain⟨t1,t2,t3,t4⟩:=HT.out;go_quiet ((go_at_call 302;exact Calls.quiet_of_same (quiet_step_yes _ q kx ky hok _)))
     clear t1 t2 t3 t4;have hbd:=step_bd q kx ky hok;obtain⟨_,st1,st2,_⟩:=hbd;obtain⟨st,hst⟩:∃st,st=stepOf q kx ky:=⟨_,rfl⟩
     rw [<-hst]at st1 st2 HFA ⊢;clear hst hok HT hck;have hpb:=level_bd v st ⟨st1,st2⟩ 67108864 (by omega) ⟨v1,v2⟩;have hob2:=hob.drewN nq;have hM2:=hM.drewN nq;have hb5:=(hb4.keep hM hbo).drewN nq;generalize wr.drewN nq=w5 at *;clear hob hM;go_wp2_with fail;refine(quantLevel _ v st (by omega) (by omega)).mono ?_;rintro e w6 ⟨rfl,rfl⟩;obtain⟨pr,hpr⟩:∃pr,pr=levelOf v st:=⟨_,rfl⟩
     rw [<-hpr]at hpb HFA ⊢;clear hpr;have hoc:w5.cell? ⟨ob,k,none⟩=some (.int .i64 ((pcC l q k).getD k 0)):=by rw [hob2.cell k];simp [i64s,pcC_length,hlt]
     have hof:=hob2.frozen k;have hob3:Blk (w5.setCell ⟨ob,k,none⟩ (.int .i64 pr)) ob 3 (i64s (pcC l q (k+1))).toArray:=hob2.put (by rw [<-pcC_set,HFA.out,i64s_set];simp);have hM3:Mod (·=ob) w4 (w5.setCell ⟨ob,k,none⟩ (.int .i64 pr)):=hM2.setCell (p:=⟨ob,k,none⟩) (.inl rfl) _;have hb6:Blk (w5.setCell ⟨ob,k,none⟩ (.int .i64 pr)) bb 3 #[.int .i64 67108864]:=hb5.far hbo _;have HB:=Lib.hid (And.intro hob3 (And.intro hM3 hb6));clear hob2 hM2 hb5 hob3 hM3 hb6;generalize (pcC l q k).getD k 0=old at *;cases hv:inB 67108864 pr with
     | true=>
      go_wp2_with fail;refine(quantIn _ bb 67108864 pr (by omega) HB.out.2.2).mono ?_;rintro e w7 ⟨rfl,rfl⟩;rw [hv];have HV:=Lib.hid hv;clear hv hoc hof;go_wp2_with fail;go_roundw
      case rel=>
       refine⟨k+1,by omega,by go_num,fun j hj=>?_,fun _=>hq,HB.out.1,HB.out.2.1⟩;by_cases e:j=k
       ·subst e;rw [HFA.out];exact HV.out
       ·exact HPRE.out.1 j (by omega)
      case measure=>simp [intOf];omega
     | false=>
      have HQ:Hid (qCoarse l q=none):=if_neg (fun h=>by have:=h.2.2 k hlt;rw [HFA.out,hv]at this;cases this);go_wp2_with fail;refine(quantIn _ bb 67108864 pr (by omega) HB.out.2.2).mono ?_;rintro e w7 ⟨rfl,rfl⟩;rw [hv];clear hv hoc hof;go_wp2_with fail;go_ret2;exact⟨M4.into HB.out.2.1 (fun i e=>.inr (by omega)),.inl ⟨HQ.out,rfl⟩⟩
    ·have hok:stepOk q (kx:Int) (ky:Int)=false:=by unfold stepOk;rw [decide_eq_false_iff_not];omega
     have HQ:Hid (qCoarse l q=none):=if_neg (fun h=>hq h.2.1);go_upto_region 9 with(fail)
     obtain⟨t1,t2,t3,t4⟩:=HT.out;go_quiet ((go_at_call 302;exact Calls.quiet_of_same (quiet_step_no _ q kx ky hok _)))
     clear t1 t2 t3 t4;go_wp2_with fail;go_ret2;exact⟨(M4.into hM (fun i e=>.inr (by omega))).drewN _,.inl ⟨HQ.out,rfl⟩⟩
   ·obtain rfl:k=l.length:=by omega
    have HQ:Hid (qCoarse l q=some (coarseL l q)):=if_pos ⟨HALL.out.1,HPRE.out.2 (by omega),HPRE.out.1⟩;have HB:=Lib.hid (And.intro hob hM);clear hob hM;go_wp2_with fail;go_ret2;refine⟨M4.into HB.out.2 (fun i e=>.inr (by omega)),.inr ⟨_,HQ.out,rfl,?_⟩⟩;have hob:=HB.out.1;rw [pcC_all]at hob;have hfl:(coarseL l q).length=l.length:=by simp [coarseL]
    unfold IntsOwn;rw [hfl];exact⟨by rw [i64s_length,hfl,Nat.mul_one],.inr ⟨ob,l.length,_,rfl,how,hob,Nat.le_refl _,HX.out.2,by simp [i64s_length,hfl],by rw [Nat.mul_one];exact List.take_of_length_le (by simp [i64s_length,hfl])⟩⟩
theorem quantCoarse(w:World)(A:Option Addr)(n c:Nat)(l:List Int)(q:Int)(hin:IntsIn w A n c l)(hn:n<=1048576):Calls Tryz.prog 315 #[.slice A n c,.int .i64 q] w (CoarsePost w l q):=by
 go_enter Tryz.func315,Tryz.ntmps315;go_wp2_with fail;refine(quantEachC _ A n c l q hin hn).mono ?_;rintro e w1 ⟨hm,⟨h1,rfl⟩|⟨v,h1,rfl,h2⟩⟩
 ·have HQ:=Lib.hid h1;clear h1;go_wp2_with fail;go_ret2;exact⟨hm,.inl ⟨HQ.out,rfl⟩⟩
 ·have HQ:=Lib.hid (And.intro h1 h2);obtain⟨A1,c1,hv⟩:=own_shape h2;subst hv;clear h1 h2;go_wp2_with fail;go_ret2;exact⟨hm,.inr ⟨_,HQ.out.1,rfl,HQ.out.2⟩⟩
def lowAt(l:List Int)(i:Nat):Int:=(l.getD (2*i) 0+l.getD (2*i+1) 0)/2
def highAt(l:List Int)(i:Nat):Int:=l.getD (2*i) 0-l.getD (2*i+1) 0
def dnLo(l:List Int):Nat->List Int
 | 0=>[0,0,0,0]
 | i+1=>(dnLo l i).set i (lowAt l i)
def dnHi(l:List Int):Nat->List Int
 | 0=>[0,0,0,0]
 | i+1=>(dnHi l i).set i (highAt l i)
def dnL(m:Nat)(l:List Int):List Int:=splice (splice l 0 ((dnLo l m).take m)) m ((dnHi l m).take m)
def fwd8(l:List Int):List Int:=dnL 1 (dnL 2 (dnL 4 l))
theorem dnLo_length(l:List Int)(i:Nat):(dnLo l i).length=4:=by
 induction i with
 | zero=>rfl
 | succ i ih=>simp [dnLo,ih]
theorem dnHi_length(l:List Int)(i:Nat):(dnHi l i).length=4:=by
 induction i with
 | zero=>rfl
 | succ i ih=>simp [dnHi,ih]
theorem z4_getD(j:Nat):([0,0,0,0]:List Int).getD j 0=0:=by
 match j with
 | 0|1|2|3=>rfl
 | j+4=>rfl
theorem dnLo_getD(l:List Int)(k j:Nat)(hk:k<=4):(dnLo l k).getD j 0=if j<k then lowAt l j else 0:=by
 induction k with
 | zero=>rw [if_neg (by omega)];exact z4_getD j
 | succ k ih=>
  rw [dnLo,getD_set,dnLo_length,ih (by omega)];by_cases e:k=j
  ·subst e;rw [if_pos ⟨rfl,by omega⟩,if_pos (by omega)]
  ·rw [if_neg (fun h=>e h.1)];by_cases e2:j<k
   ·rw [if_pos e2,if_pos (by omega)]
   ·rw [if_neg e2,if_neg (by omega)]
theorem dnHi_getD(l:List Int)(k j:Nat)(hk:k<=4):(dnHi l k).getD j 0=if j<k then highAt l j else 0:=by
 induction k with
 | zero=>rw [if_neg (by omega)];exact z4_getD j
 | succ k ih=>
  rw [dnHi,getD_set,dnHi_length,ih (by omega)];by_cases e:k=j
  ·subst e;rw [if_pos ⟨rfl,by omega⟩,if_pos (by omega)]
  ·rw [if_neg (fun h=>e h.1)];by_cases e2:j<k
   ·rw [if_pos e2,if_pos (by omega)]
   ·rw [if_neg e2,if_neg (by omega)]
theorem getD_take(l:List Int)(m j:Nat):(l.take m).getD j 0=if j<m then l.getD j 0 else 0:=by
 simp only [List.getD_eq_getElem?_getD,List.getElem?_take];split<;>rfl
theorem dnL_length(m:Nat)(l:List Int)(hm:2*m<=l.length)(h4:m<=4):(dnL m l).length=l.length:=by
 have h1:((dnLo l m).take m).length=m:=by rw [List.length_take,dnLo_length];omega
 have h2:((dnHi l m).take m).length=m:=by rw [List.length_take,dnHi_length];omega
 have h3:(splice l 0 ((dnLo l m).take m)).length=l.length:=length_splice _ _ _ (by omega);unfold dnL;rw [length_splice _ _ _ (by omega),h3]
theorem dnL_getD(m:Nat)(l:List Int)(hm:2*m<=l.length)(h4:m<=4)(i:Nat):(dnL m l).getD i 0=if i<m then lowAt l i else if i<2*m then highAt l (i-m)else l.getD i 0:=by
 have h1:((dnLo l m).take m).length=m:=by rw [List.length_take,dnLo_length];omega
 have h2:((dnHi l m).take m).length=m:=by rw [List.length_take,dnHi_length];omega
 have h3:(splice l 0 ((dnLo l m).take m)).length=l.length:=length_splice _ _ _ (by omega);unfold dnL;rw [splice_getD _ _ _ (by omega),splice_getD _ _ _ (by omega),h1,h2,getD_take,getD_take,dnHi_getD _ _ _ h4,dnLo_getD _ _ _ h4];by_cases e1:i<m
 ·rw [if_neg (by omega),if_pos (by omega),if_pos e1,Nat.sub_zero,if_pos e1,if_pos e1]
 ·rw [if_neg e1];by_cases e2:i<2*m
  ·rw [if_pos (by omega),if_pos (by omega),if_pos (by omega),if_pos e2]
  ·rw [if_neg (by omega),if_neg (by omega),if_neg e2]
theorem dnL_within{M:Int}{m:Nat}{l:List Int}(hm:2*m<=l.length)(h4:m<=4)(h:Within M l):Within (2*M) (dnL m l):=by
 intro i;rw [dnL_getD m l hm h4];split
 ·have h1:=h (2*i);have h2:=h (2*i+1);unfold lowAt;omega
 ·split
  ·have h1:=h (2*(i-m));have h2:=h (2*(i-m)+1);unfold highAt;omega
  ·have:=h i;omega
theorem fwd8_length(l:List Int)(h:l.length=8):(fwd8 l).length=8:=by
 have h1:=dnL_length 4 l (by omega) (by omega);have h2:=dnL_length 2 (dnL 4 l) (by omega) (by omega);have h3:=dnL_length 1 (dnL 2 (dnL 4 l)) (by omega) (by omega);unfold fwd8;omega
theorem fwd8_within{M:Int}{l:List Int}(hl:l.length=8)(_h0:0<=M)(h:Within M l):Within (8*M) (fwd8 l):=by
 have h1:=dnL_length 4 l (by omega) (by omega);have h2:=dnL_length 2 (dnL 4 l) (by omega) (by omega);have w1:=dnL_within (m:=4) (by omega) (by omega) h;have w2:=dnL_within (m:=2) (by omega) (by omega) w1;have w3:=dnL_within (m:=1) (by omega) (by omega) w2;intro i;have:=w3 i;unfold fwd8;omega
def FwAt(l:List Int)(n:Nat)(l':List Int):Prop:=(n=8/\l'=l)\/(n=4/\l'=dnL 4 l)\/(n=2/\l'=dnL 2 (dnL 4 l))\/(n=1/\l'=fwd8 l)
theorem fwAt_facts{l l':List Int}{n:Nat}(hl:l.length=8)(hM:Within 1099511627776 l)(h:FwAt l n l'):l'.length=8/\Within 8796093022208 l':=by
 have h1:=dnL_length 4 l (by omega) (by omega);have h2:=dnL_length 2 (dnL 4 l) (by omega) (by omega);have h3:=dnL_length 1 (dnL 2 (dnL 4 l)) (by omega) (by omega);have w1:=dnL_within (m:=4) (by omega) (by omega) hM;have w2:=dnL_within (m:=2) (by omega) (by omega) w1;have w3:=dnL_within (m:=1) (by omega) (by omega) w2;have mono:∀ {A B:Int} {x:List Int},Within A x->A<=B->Within B x:=fun h hab i=>by have:=h i;omega
 rcases h with⟨_,rfl⟩|⟨_,rfl⟩|⟨_,rfl⟩|⟨_,rfl⟩
 ·exact⟨hl,mono hM (by omega)⟩
 ·exact⟨by omega,mono w1 (by omega)⟩
 ·exact⟨by omega,mono w2 (by omega)⟩
 ·exact⟨by unfold fwd8;omega,by unfold fwd8;exact mono w3 (by omega)⟩
theorem fwAt_next{l l':List Int}{m:Nat}(h:FwAt l (2*m) l'):FwAt l m (dnL m l'):=by
 rcases h with⟨h,rfl⟩|⟨h,rfl⟩|⟨h,rfl⟩|⟨h,_⟩
 ·obtain rfl:m=4:=by omega
  exact .inr (.inl ⟨rfl,rfl⟩)
 ·obtain rfl:m=2:=by omega
  exact .inr (.inr (.inl ⟨rfl,rfl⟩))
 ·obtain rfl:m=1:=by omega
  exact .inr (.inr (.inr ⟨rfl,rfl⟩))
 ·omega
def FwRel(w:World)(g:Nat)(l:List Int)(v1:Value)(wr:World):Prop:=∃n l',FwAt l n l'/\v1=.int .i64 (n:Int)/\Sat (·=g) w wr [⟨g,474,(i64s l').toArray⟩] []
def FwRel2(w:World)(g lo hi m:Nat)(l':List Int)(v17:Value)(wr:World):Prop:=∃i:Nat,i<=m/\v17=.int .i64 (i:Int)/\Sat (·=g) w wr [⟨hi,472,(i64s (dnHi l' i)).toArray⟩,⟨lo,472,(i64s (dnLo l' i)).toArray⟩,⟨g,474,(i64s l').toArray⟩] []
theorem i64s_take(l:List Int)(m:Nat):(i64s l).take m=i64s (l.take m):=by simp [i64s]
theorem i64s_splice(L c:List Int)(a:Nat):splice (i64s L) a (i64s c)=i64s (splice L a c):=by
 simp only [splice,i64s,List.map_append,List.map_take,List.map_drop,List.length_map]
theorem lineFwd(w:World)(g:Nat)(l:List Int)(hl:l.length=8)(hM:Within 1099511627776 l)(hb:Blk w g 474 (i64s l).toArray):
  Calls Tryz.prog 356 #[.pointer (some ⟨g,0,none⟩),.int .i64 8] w fun e w'=>e=.returned (.tuple #[])/\Blk w' g 474 (i64s (fwd8 l)).toArray/\Mod (·=g) w w':=by
 have HB:=Lib.hid (Sat.own1 hb);clear hb;go_enter Tryz.func356,Tryz.ntmps356;go_wp2_with fail;go_loopw [1] (FwRel w g l) (fun n _=>(intOf n).toNat)
 case atStart=>exact⟨8,l,.inl ⟨rfl,rfl⟩,rfl,HB.out⟩
 case round=>
  rename World=>wr
  obtain⟨n,l',hat,rfl,hs⟩:=hrel;obtain⟨hl',hw'⟩:=fwAt_facts hl hM hat
  by_cases h1:1<n
  ·obtain⟨m,rfl⟩:∃m,n=2*m:=by
    unfold FwAt at hat
    have:n=8\/n=4\/n=2\/n=1:=by omega
    exact⟨n/2,by omega⟩
   have hm4:1<=m/\m<=4:=by unfold FwAt at hat;omega
   obtain⟨n,hn⟩:∃n,n=2*m:=⟨_,rfl⟩
   have HN:=Lib.hid hn;rw [<-hn]at hat h1 ⊢;have d1:decide (1<(n:Int))=true:=decide_eq_true (by omega);have q1:(n:Int).tdiv 2=(m:Int):=by rw [Int.tdiv_eq_ediv_of_nonneg (by omega)];omega
   have HA:=Lib.hid (And.intro hat (And.intro hl' hw'));have hgl:=(hs.own_ 0 rfl).lt;dsimp only at hgl;have HS:=Lib.hid ((hs.alloc 472 (i64s (dnLo l' 0)).toArray rfl).alloc (g:=wr.heap.size+1) 472 (i64s (dnHi l' 0)).toArray (by simp));clear hat hs hw' hl';go_upto_region 4 with(fail)
   change Hid (Sat (·=g) w ((wr.alloc (.cells #[.int .i64 0,.int .i64 0,.int .i64 0,.int .i64 0] 472)).alloc (.cells #[.int .i64 0,.int .i64 0,.int .i64 0,.int .i64 0] 472)) _ _)at HS;generalize (wr.alloc (.cells #[.int .i64 0,.int .i64 0,.int .i64 0,.int .i64 0] 472)).alloc (.cells #[.int .i64 0,.int .i64 0,.int .i64 0,.int .i64 0] 472)=w1 at *;have i1:(0:Int)<=(m:Int):=by omega
   have i2:(m:Int)<=4:=by omega
   have i3:(n:Int)<=8:=by omega
   have i4:(m:Int)<=(n:Int):=by omega
   have i5:(m:Int)<=8:=by omega
   clear hn;go_wp2_with fail;go_loopw [17] (FwRel2 w g wr.heap.size (wr.heap.size+1) m l') (fun i _=>m-(intOf i).toNat)
   case atStart=>exact⟨0,by omega,rfl,HS.out⟩
   case round=>
    clear HS;rename World=>w2
    obtain⟨i,hi,rfl,hs⟩:=hrel;by_cases hlt:i<m
    ·have hg:=hs.own_ 2 rfl;have hlo:=hs.own_ 1 rfl;have hhi:=hs.own_ 0 rfl;dsimp only at hg hlo hhi;obtain⟨k,hk⟩:∃k,k=2*i:=⟨_,rfl⟩
     have ek:(2:Int)*(i:Int)=(k:Int):=by omega
     have ek2:IntKind.i64.wrap (k:Int)=(k:Int):=IntWalk.i64_in _ ⟨by omega,by omega⟩;have ek3:IntKind.i64.wrap ((k:Int)+1)=(k:Int)+1:=IntWalk.i64_in _ ⟨by omega,by omega⟩;have j0:(0:Int)<=(i:Int):=by omega
     have j1:(i:Int)<4:=by omega
     have j2:(0:Int)<=(k:Int):=by omega
     have j3:(k:Int)+1<8:=by omega
     have j4:(k:Int)<8:=by omega
     have c0:=hg.cell k;have c1:=hg.cell (k+1);rw [List.getElem?_toArray,getD_i64s _ _ (by have:=HA.out.2.1;omega)]at c0 c1;have b0:=HA.out.2.2 k;have b1:=HA.out.2.2 (k+1);have HV:Hid (lowAt l' i=(l'.getD k 0+l'.getD (k+1) 0)/2/\highAt l' i=l'.getD k 0-l'.getD (k+1) 0):=by show _/\_;rw [hk];exact⟨rfl,rfl⟩
     generalize l'.getD k 0=a at *;generalize l'.getD (k+1) 0=b at *;have cl:=hlo.cell i;have ch:=hhi.cell i;rw [List.getElem?_toArray,getD_i64s _ _ (by rw [dnLo_length];omega)]at cl;rw [List.getElem?_toArray,getD_i64s _ _ (by rw [dnHi_length];omega)]at ch;have fl:=hlo.frozen i;have fh:=hhi.frozen i;generalize (dnLo l' i).getD i 0=ol at *;generalize (dnHi l' i).getD i 0=oh at *;have l1:=hlo.lt;have l2:=hhi.lt;have HK:=Lib.hid hs;clear hs hg hlo hhi hk;go_wp2_with fail;go_quiet (fail)
     have HQ:=Lib.hid (HK.out.drewN nq);have cl':(w2.drewN nq).cell? ⟨wr.heap.size,i,none⟩=some (.int .i64 ol):=cl;have ch':(w2.drewN nq).cell? ⟨wr.heap.size+1,i,none⟩=some (.int .i64 oh):=ch;have fl':(w2.drewN nq).frozen? ⟨wr.heap.size,i,none⟩=false:=fl;have fh':(w2.drewN nq).frozen? ⟨wr.heap.size+1,i,none⟩=false:=fh;have l1':wr.heap.size<(w2.drewN nq).heap.size:=l1;have l2':wr.heap.size+1<(w2.drewN nq).heap.size:=l2;clear c0 c1 cl ch fl fh HK l1 l2;generalize w2.drewN nq=w3 at *;go_wp2_with fail;go_roundw
     case rel=>exact⟨i+1,by omega,by go_num,by
      have:=(HQ.out.put (.there (.here (set_i64s (dnLo l' i) i (lowAt l' i))))).put (.here (set_i64s (dnHi l' i) i (highAt l' i)));rw [HV.out.1,HV.out.2]at this;rw [dnLo,dnHi,HV.out.1,HV.out.2];exact this⟩
     case measure=>simp [intOf];omega
    ·obtain rfl:i=m:=by omega
     have hg:=hs.own_ 2 rfl;have hlo:=hs.own_ 1 rfl;have hhi:=hs.own_ 0 rfl;dsimp only at hg hlo hhi;have S1:Hid (Src w2.drew 1 (some ⟨wr.heap.size,0,none⟩) i (i64s (((dnLo l' i).drop 0).take i))):=src_blk hlo.drew 0 i (by rw [dnLo_length];omega);have HNN:Hid (i=Nat.min i i/\0+i<=(i64s l').length):=⟨(Nat.min_self i).symm,by rw [i64s_length,HA.out.2.1];omega⟩
     have HK:=Lib.hid hs;have HG:=Lib.hid hg.drew;clear hs hg hlo hhi;go_upto_region 11 with(fail)
     go_region_law (refine step_copy_blk rfl (.tmp 48) (.tmp 50) _ _ rfl 3 Tryz.underlying23 (by kernel_rfl) (some ⟨g,0,none⟩) i 8 (some ⟨wr.heap.size,0,none⟩) i 4 _ rfl rfl S1.out g 0 (i64s l') 474 HG.out i HNN.out.1 (fun _=>rfl) HNN.out.2 (i64s_one _) ?_;intro w3 hb3 hm3;have HW3:=Lib.hid (And.intro hb3 hm3);clear hb3 hm3)
     obtain⟨hb3,hm3⟩:=HW3.out;have hm3':Mod (·=g) w2 w3:=((Mod.refl _ w2).drew).trans hm3;have HK3:=Lib.hid (Sat.turn hm3' HK.out hb3 (.there (.there .here)));clear hb3 hm3 hm3' HK HW3 HG S1;have hhi:=HK3.out.own_ 0 rfl;have hg:=HK3.out.own_ 2 rfl;dsimp only at hhi hg;have S2:Hid (Src w3.drew 1 (some ⟨wr.heap.size+1,0,none⟩) i (i64s (((dnHi l' i).drop 0).take i))):=src_blk hhi.drew 0 i (by rw [dnHi_length];omega);have hlen:(splice (i64s l') 0 ((i64s (((dnLo l' i).drop 0).take i)).take i)).length=8:=by
      rw [length_splice _ _ _ (by simp [i64s,dnLo_length,HA.out.2.1];omega),i64s_length,HA.out.2.1]
     have HNN2:Hid (i=Nat.min i i/\i+i<=(splice (i64s l') 0 ((i64s (((dnLo l' i).drop 0).take i)).take i)).length):=⟨(Nat.min_self i).symm,by rw [hlen];omega⟩
     have HG2:=Lib.hid hg.drew;have e1:n-i=i:=by have:=HN.out;omega
     have e2:¬8=i:=by omega
     clear hhi hg hlen;go_upto_region 12 with(fail)
     go_region_law (refine step_copy_blk rfl (.tmp 56) (.tmp 58) _ _ rfl 3 Tryz.underlying23 (by kernel_rfl) (some ⟨g,i,none⟩) i (8-i) (some ⟨wr.heap.size+1,0,none⟩) i 4 _ (by simp [Act.eval,Act.put]) (by simp [Act.eval,Act.put]) S2.out g i _ 474 HG2.out i HNN2.out.1 (fun _=>rfl) HNN2.out.2 (i64s_one _) ?_;intro w4 hb4 hm4;have HW4:=Lib.hid (And.intro hb4 hm4);clear hb4 hm4)
     obtain⟨hb4,hm4⟩:=HW4.out;have hm4':Mod (·=g) w3 w4:=((Mod.refl _ w3).drew).trans hm4;have hb5:Blk w4 g 474 (i64s (dnL i l')).toArray:=by
      rw [List.drop_zero,List.drop_zero,i64s_take,i64s_take,i64s_splice,i64s_splice,List.take_take,List.take_take,Nat.min_self]at hb4;exact hb4
     have HK4:=Lib.hid ((Sat.turn hm4' HK3.out hb5 (.there (.there .here))).drop_own.drop_own);have hnx:=HA.out.1;rw [HN.out]at hnx;have HNX:=Lib.hid (fwAt_next hnx);clear hb4 hm4 hm4' hb5 HK3 HW4 HG2 S2 HNN2 hnx e1 e2;go_wp2_with fail;go_roundw
     case rel=>exact⟨i,_,HNX.out,rfl,HK4.out⟩
     case measure=>have hn2:=HN.out;simp [intOf];omega
  ·obtain rfl:n=1:=by unfold FwAt at hat;omega
   obtain rfl:l'=fwd8 l:=by
    unfold FwAt at hat
    rcases hat with⟨h,_⟩|⟨h,_⟩|⟨h,_⟩|⟨_,h⟩
    ·omega
    ·omega
    ·omega
    ·exact h
   have HF:=Lib.hid hs;clear hs hat hw' hl';go_wp2_with fail;go_end0
   exact⟨rfl,HF.out.own_ 0 rfl,HF.out.mod⟩
end Go.Proofs.YtnnpoodcdibpiaaGreatDoor
