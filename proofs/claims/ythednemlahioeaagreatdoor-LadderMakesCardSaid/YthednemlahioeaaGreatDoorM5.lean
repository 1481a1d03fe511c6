/-
  intra.Guess.
-/
import Derived.Test.YthednemlahioeaaGreatDoorM4
import Derived.Laws.EntriesVeiled
namespace Go.Proofs.YthednemlahioeaaGreatDoor
open Go.RowKit
open UInt8 renaming toNat_lt→ZN,ofNat→Zl
open List renaming range→Zz,range_succ→Y9,length_append→YW,replicate→ZM
open Nat renaming le_refl→ZY,add_assoc→YJ,mul_le_mul_right→YE,add_mul→Y5,one_mul→Ym,sub_self→XY
open And renaming intro→Z9
open Lib renaming hid→Z7
open IntWalk renaming i64_in→Z4,wrap64_in→ZA
open Ending renaming returned→Zq
open BitVec renaming ofInt→YI,toNat_ofInt→Xe
open Go.Proofs.Tryz
set_option maxRecDepth 100000
set_option maxHeartbeats 8000000
theorem nO(w:World):Calls prog 350 #[] w fun e w'=>e=.returned (.agg #[.func (.func 395) #[] #[],.func (.func 396) #[] #[],.func (.func 397) #[] #[],.func (.func 398) #[] #[]])/\Mod ↑ZW w w':=by
 go_enter func350,ntmps350;go_wp2_with fail;refine bodyPost_ret (v:=.agg #[.func (.func 395) #[] #[],.func (.func 396) #[] #[],.func (.func 397) #[] #[],.func (.func 398) #[] #[]]) (by simp [results,results350,go_sem]) rfl ⟨rfl,?_⟩;exact(Mod.refl _ _).alloc _
def dN(m:Nat)(ab lf:List UInt8)(co:UInt8)(i j:Nat):Nat:=
 if m=0 then Be ab lf else if m=1 then(ab.getD i 0).toNat else if m=2 then(lf.getD j 0).toNat else uY ab lf co i j
theorem agC(m:Nat)(ab lf:List UInt8)(co:UInt8)(i j:Nat):dN m ab lf co i j<256:=by
 unfold dN;split
 ·have:=zx ab lf 8;unfold Be;omega
 ·split
  ·exact ZN _
  ·split
   ·exact ZN _
   ·exact PO _
def Ov(W:Nat)(ZJ:List UInt8)(x y m k:Nat):UInt8:=Zl (dN m (Va W ZJ x y) (UX W ZJ x y) (O4 W ZJ x y) (k % 8) (k/8))
def TQ(W:Nat)(ZJ:List UInt8)(x y m:Nat):List UInt8:=(Zz 64).map (Ov W ZJ x y m)
theorem wT(W:Nat)(ZJ:List UInt8)(x y m k:Nat):(Ov W ZJ x y m k).toNat=dN m (Va W ZJ x y) (UX W ZJ x y) (O4 W ZJ x y) (k % 8) (k/8):=by
 unfold Ov;rw [UInt8.toNat_ofNat'];exact Nat.mod_eq_of_lt (agC _ _ _ _ _ _)
def gV(m:Nat):Nat:=if m=0 then 395 else if m=1 then 396 else if m=2 then 397 else 398
theorem ah7(w:World)(m:Nat)(hm:m<4)(ab lf:List UInt8)(co:UInt8)(h1:ab.length=8)(h2:lf.length=8)(i j:Nat)(hi:i<8)(hj:j<8):
  Calls prog (gV m) #[.agg (Oj ab lf co),↑i,↑j] w fun e w'=>e=.returned (.int .u8 ((dN m ab lf co i j:Nat):Int))/\Mod ↑ZW w w':=by
 have hc:m=0\/m=1\/m=2\/m=3:=Z8;rcases hc with rfl|rfl|rfl|rfl
 ·exact ah9 w ab lf co h1 h2 _ _
 ·exact aia w ab lf co h1 i _ hi
 ·exact aeP w ab lf co h1 h2 _ j hj
 ·exact age w ab lf co h1 h2 i j hi hj
theorem acP(m:Nat)(hm:m<4)(args:Array Value)(w:World):(callFunc (gV m) args).run prog w=.ok (.enter (gV m) args) w:=by
 have hc:m=0\/m=1\/m=2\/m=3:=Z8;rcases hc with rfl|rfl|rfl|rfl
 ·exact(show(callFunc 395 args).run prog w=.ok (.enter 395 args) w by go_simp)
 ·exact(show(callFunc 396 args).run prog w=.ok (.enter 396 args) w by go_simp)
 ·exact(show(callFunc 397 args).run prog w=.ok (.enter 397 args) w by go_simp)
 ·exact(show(callFunc 398 args).run prog w=.ok (.enter 398 args) w by go_simp)
def ajR(w:World)(q a l p:Nat)(lv av pv:Array Value)(f:Nat->UInt8)(s69:Value)(wr:World):Prop:=
 ∃k:Nat,k<=64/\s69=↑k/\Sat ↑ZW w wr [⟨q,5,(Yw (Vq f 64 k)).toArray⟩,⟨a,478,av⟩,⟨l,448,lv⟩,⟨p,56,pv⟩] []
theorem agf(w:World)(W H:Nat)(A:Option Addr)(n c:Nat)(ZJ:List UInt8)(h:Yx W H=true)(hn:n=W*H)(YZ:BytesIn w A n c ZJ)(xA:n<=c)(x y m:Nat)(hx:x+8<=W)(hy:y+8<=H)(hm:m<4):
  Calls prog 351 #[.agg #[↑W,↑H,.slice A n c],↑x,↑y,.int .i64 8,↑m] w
   fun e w'=>∃g,e=.returned (.tuple #[↑(ZZ g 64 64),↑Z0])/\ZI w' g 5 (Yw (TQ W ZJ x y m)).toArray/\w.heap.size<=g/\Mod ↑ZW w w':=by
 obtain⟨_,hW1,hW2,hH1,qi,_⟩:=YB h;have HI:=Z5 h (Z9 YZ (Z9 hn xA));clear h YZ hn xA;have t1:=Za ((x:Int)<0);have t2:=Za ((W:Int)-8<(x:Int));have t3:=Za ((y:Int)<0);have t4:=Za ((H:Int)-8<(y:Int));have t5:=Za ((m:Int)<0);have t6:=Za (4<=(m:Int));have h0:=(Sat.nil ↑ZW w).alloc 56 #[↑W,↑H,.slice A n c] rfl;have H0:=Z7 h0;clear h0;go_enter func351,ntmps351;go_wp2_with fail;refine YX (Ru _ W H A n c HI.out.1 HI.out.2.2.1) fun w1 Y6=>?_;have HS:=Z7 (Sat.after Y6 H0.out);clear Y6 H0;go_wp2_with fail;refine YX (nO _) fun w2 Y3=>?_;have V4:=(HS.out.quiet Y3).alloc 448 #[.func (.func 395) #[] #[],.func (.func 396) #[] #[],.func (.func 397) #[] #[],.func (.func 398) #[] #[]] rfl;obtain⟨pc,pf⟩:=(V4.ZX 1 rfl).both;have H2:=Z7 V4;have pl:w.heap.size<w2.heap.size:=((HS.out.quiet Y3).ZX 0 rfl).lt;clear Y3 HS V4;go_wp2_with fail;refine YX (ah8 _ W H A n c ZJ HI.out.1 HI.out.2.2.1 (HI.out.2.1.quiet H2.out.mod) HI.out.2.2.2 x y hx hy) fun w3 X7=>?_;have Td:=(H2.out.quiet X7).alloc 478 ↑qK rfl;have H3:=Z7 Td;clear X7 Td pc pf pl H2;go_upto_region 7 with(refine WR rfl 478 (.tmp 13) (.tmp 62) rfl w3.heap.size 0 (Fa (Va W ZJ x y) (UX W ZJ x y) (O4 W ZJ x y)) rfl rfl 478 [↑Z0,.int .u8 0,.int .u8 0,.int .u8 0,.int .u8 0,.int .u8 0,.int .u8 0,.int .u8 0,.int .u8 0,.int .u8 0,.int .u8 0,.int .u8 0,.int .u8 0,.int .u8 0,.int .u8 0,.int .u8 0,.int .u8 0,.int .u8 0] (ZI.new _ _ _) ZR (by simp [Fa,Yw,Va,UX]) (EB _ _ _) ?_;intro w4 hb4 Xl;have jq:=Z5 hb4 Xl;clear hb4 Xl)
 have hb4:=jq.out.1;rw [Ms (by simp [Fa,Yw,Va,UX])]at hb4;have IW:=Sat.turn jq.out.2 H3.out hb4 .here;have H4:=Z7 IW;clear hb4 IW jq H3;go_upto_region 8 with(refine TV _ rfl (.tmp 65) (.tmp 65) rfl 64 rfl rfl Z8 ?_;intro w5 Ut UR;have GH:=Z5 Ut UR;clear Ut UR)
 have GN:=Sat.grew GH.out.2 H4.out GH.out.1 (ZY _);rw [KX (Ov W ZJ x y m)]at GN;obtain⟨q,hq⟩:=ZL (w4.heap.size);obtain⟨a,ha⟩:=ZL (w3.heap.size);obtain⟨l,hl⟩:=ZL (w2.heap.size);rw [<-hq,<-ha,<-hl]at GN;rw [<-hq,<-ha,<-hl];have H5:=Z7 GN;clear hq ha hl GN GH H4;go_wp2_with fail;go_loopw [69] (ajR w q a l w.heap.size #[.func (.func 395) #[] #[],.func (.func 396) #[] #[],.func (.func 397) #[] #[],.func (.func 398) #[] #[]] (Oj (Va W ZJ x y) (UX W ZJ x y) (O4 W ZJ x y)) #[↑W,↑H,.slice A n c] (Ov W ZJ x y m)) (fun s _=>64-(intOf s).toNat)
 case atStart=>exact⟨0,Z8,rfl,H5.out⟩
 case round=>
  clear H5;obtain⟨k,hk,rfl,HS⟩:=hrel;by_cases hlt:k<64
  ·have d1:=Zb ((k:Int)<64);have lf0:wr.cell? ⟨l,m,none⟩=some (.func (.func (gV m)) #[] #[]):=by
    have h:=(HS.ZX 2 rfl).cell m;dsimp only at h;rw [h];have hc:m=0\/m=1\/m=2\/m=3:=Z8;rcases hc with rfl|rfl|rfl|rfl<;>rfl
   have q0:=Ra (HS.ZX 0 rfl) hlt;have p0:(0:Int)<=(m:Int):=Z8;have p1:(m:Int)<4:=Z8;have p2:(0:Int)<=(k:Int):=Z8;have p3:(k:Int)<64:=Z8;have e1:IntKind.i64.wrap ((k:Int)/8)=((k/8:Nat):Int):=by rw [Z4 _ ⟨Z8,Z8⟩];omega
   have e2:(k:Int).tmod 8=((k % 8:Nat):Int):=by rw [Int.tmod_eq_emod_of_nonneg Z8];omega
   have HK:=Z5 HS (Z9 e1 e2);clear HS q0 e1 e2;go_upto_region 11 with(fail)
   refine YK [12,14] [0,1] [2,3,4,5,6,7,8,9,10,11,0,1,12,13,14] ZR ZR Xc ?_;iterate 3 (refine Yd ?_)
   refine ac6 rfl rfl rfl 478 (.tmp 13) rfl a rfl 478 _ _ (HK.out.1.drew.ZX 1 rfl) underlying478 rfl ZR ?_;iterate 6 (refine Yd ?_)
   iterate 2 (refine BN rfl rfl rfl (fun _=>rfl) ?_)
   refine XJ rfl rfl (fun K hK=>?_);have hcf:=acP m hm;have e1:=HK.out.2.1;have e2:=HK.out.2.2;go_simp;clear hcf e1 e2;refine YX (ah7 _ m hm _ _ _ (PZ _ _ _ _) (KW _ _ _ _) (k % 8) (k/8) Z8 Z8) fun w6 Xt=>?_;have HS6:=HK.out.1.drew.quiet Xt;have q0:=Ra (HS6.ZX 0 rfl) hlt;have qf:=(HS6.ZX 0 rfl).frozen;have ql:=(HS6.ZX 0 rfl).lt;rw [<-wT];have H6:=Z7 HS6;clear HS6 Xt;dsimp only [];refine hK _ _ ?_;clear hK K;refine Yd ?_;refine XJ rfl rfl (fun K hK=>?_);go_simp;refine hK _ _ ?_;clear hK K;refine XD ?_;go_wp2_with fail;go_roundw
   case rel=>exact⟨k+1,Z8,Zr,H6.out.put (.here (Ou _ 64 k))⟩
   case measure=>exact YD
  ·obtain rfl:k=64:=Z8;have HK:=Z7 HS;clear HS;go_wp2_with fail;go_ret2;have hb:=HK.out.ZX 0 rfl;dsimp only at hb;rw [J4]at hb;exact⟨q,rfl,hb,HK.out.low 0 rfl,HK.out.mod⟩
theorem aeH(w:World)(vx vy:Int)(hx:-1048576<=vx/\vx<=1048576)(hy:-1048576<=vy/\vy<=1048576):Calls prog 294 #[.agg #[↑vx,↑vy]] w fun e w'=>e=.returned (.agg #[.int .i64 (vx/2),.int .i64 (vy/2)])/\Mod ↑ZW w w':=by
 obtain⟨hx1,hx2⟩:=hx;obtain⟨Bt,sM⟩:=hy;go_enter func294,ntmps294;go_wp2_with fail;refine bodyPost_ret (v:=.agg #[.int .i64 (vx/2),.int .i64 (vy/2)]) (by simp [results,results294,go_sem]) rfl ⟨rfl,?_⟩;exact((Mod.refl _ _).alloc _).alloc _
def plL(x y:Nat):List Value:=
 [↑Z0,↑x,↑y,↑Z0,.int .i64 ((x:Int)+8),↑y,↑Z0,↑x,.int .i64 ((y:Int)+8),↑Z0,.int .i64 ((x:Int)+8),.int .i64 ((y:Int)+8),
  .int .i64 1,.int .i64 ((x:Int)/2),.int .i64 ((y:Int)/2),.int .i64 2,.int .i64 ((x:Int)/2),.int .i64 ((y:Int)/2)]
def K4(s y:Nat):List Int:=((Zz y).filter (fun y'=>decide (y'<=s/\s<y'+8))).map fun y'=>((y'*8+(s-y'):Nat):Int)
def Ps(s y:Nat):List Int:=(Zz s).flatMap (fun s'=>K4 s' 8)++K4 s y
theorem DY(s:Nat):Ps s 8=Ps (s+1) 0:=by simp [Ps,Y9,K4]
theorem BI(s y:Nat)(h:y<=s/\s<y+8):Ps s (y+1)=Ps s y++[((y*8+(s-y):Nat):Int)]:=by
 simp [Ps,K4,Y9,List.filter_append,h.1,h.2]
theorem Iu(s y:Nat)(h:¬(y<=s/\s<y+8)):Ps s (y+1)=Ps s y:=by
 have:decide (y<=s/\s<y+8)=false:=decide_eq_false h;simp only [Ps,K4,Y9,List.filter_append,List.filter_cons,this];simp
theorem BH(s y:Nat):(K4 s y).length<=y:=by
 unfold K4;rw [List.length_map];exact Nat.le_trans (List.length_filter_le _ _) Ze
theorem xV(s y:Nat):(Ps s y).length<=s*8+y:=by
 unfold Ps;rw [YW];have h:∀s,((Zz s).flatMap (fun s'=>K4 s' 8)).length<=s*8:=by
  intro s
  induction s with
  | zero=>simp
  | succ s ih=>
   rw [Y9,List.flatMap_append,YW];have:=BH s 8;simp at *;omega
 have:=h s;have:=BH s y;omega
def JR:List Int:=Ps 15 0
theorem Mg:JR.length=64/\(∀i<64,0<=JR.getD i 0/\JR.getD i 0<64):=by decide +kernel
def kH(w:World)(v3 v20:Value)(wr:World):Prop:=∃s:Nat,s<=15/\v20=↑s/\Zx wr w.heap.size v3 (Ps s 0)/\Mod ↑ZW w wr
def cK(w:World)(s:Nat)(v3 v24:Value)(wr:World):Prop:=∃y:Nat,y<=8/\v24=↑y/\Zx wr w.heap.size v3 (Ps s y)/\Mod ↑ZW w wr
theorem agd(w:World):Calls prog 404 #[.int .i64 8] w fun e w'=>∃b c,e=.returned ↑(ZZ b 64 c)/\w.heap.size<=b/\IntsIn w' (some ⟨b,0,none⟩) 64 c JR/\Mod ↑ZW w w':=by
 go_enter func404,ntmps404;go_wp2_with (refine aah _ rfl (.const ↑Z0) (.tmp 15) rfl 64 rfl rfl Z8 ?_;intro w1 hown1 Y6;have HO:=Z5 hown1 Y6;clear hown1 Y6)
 go_loopw [3,20] (kH w) (fun _ i _=>15-(intOf i).toNat)
 case atStart=>exact⟨0,Z8,rfl,HO.out.1,HO.out.2⟩
 case round=>
  clear HO;obtain⟨s,hs,rfl,hown,hM⟩:=hrel;by_cases hlt:s<15
  ·obtain⟨wo,rfl⟩:∃wo:World,wo=wr:=⟨_,rfl⟩
   have HB:=Z5 hown hM;clear hown hM;have dx:=Zb ((s:Int)<15);go_wp2_with fail;go_loopw [3,24] (cK w s) (fun _ i _=>8-(intOf i).toNat)
   case atStart=>exact⟨0,Z8,rfl,HB.out.1,HB.out.2⟩
   case round=>
    clear HB;obtain⟨y,hy,rfl,hown,hM⟩:=hrel;by_cases mJ:y<8
    ·have dy:=Zb ((y:Int)<8);obtain⟨A3,c3,hv3⟩:=ZG hown;subst hv3;have hle:=xV s y;generalize hlen:(Ps s y).length=n3 at *;have HB:=Z5 hown (Z9 hM (Z9 hM.size hlen));clear hown hM hlen;by_cases h1:y<=s
     ·have d1:=Zb ((0:Int)<=(s:Int)-(y:Int));have d1':=Zb ((y:Int)<=(s:Int));by_cases h2:s<y+8
      ·have d2:=Zb ((s:Int)-(y:Int)<8);have HS:=Z7 (BI s y ⟨h1,h2⟩);have ev:(y:Int)*8+((s:Int)-(y:Int))=((y*8+(s-y):Nat):Int):=Z8;have HE:=Z7 ev;clear ev;go_wp2_with (at_builtin;have _t:=HB;refine Vg _ rfl (.tmp 37) (.tmp 43) rfl w.heap.size _ _ ((y:Int)*8+((s:Int)-(y:Int))) rfl rfl HB.out.1 HB.out.2.2.1 (by rw [HB.out.2.2.2];omega) ?_;intro v8 w8 SC NI Pp hF;have HO:=Z5 SC (Pp w ↑ZW (ZY _) HB.out.2.1);clear SC NI Pp hF)
       go_roundw
       case rel=>
        refine⟨y+1,Z8,Zr,?_,HO.out.2⟩;rw [HS.out,<-HE.out];exact HO.out.1
       case measure=>exact YD
      ·have d2:=Za ((s:Int)-(y:Int)<8);have HS:=Z7 (Iu s y (fun h=>h2 h.2));go_wp2_with fail;go_roundw
       case rel=>
        refine⟨y+1,Z8,Zr,?_,HB.out.2.1⟩;rw [HS.out];exact HB.out.1
       case measure=>exact YD
     ·have d1:=Za ((0:Int)<=(s:Int)-(y:Int));have d1':=Za ((y:Int)<=(s:Int));have HS:=Z7 (Iu s y (fun h=>h1 h.1));go_wp2_with fail;go_roundw
      case rel=>
       refine⟨y+1,Z8,Zr,?_,HB.out.2.1⟩;rw [HS.out];exact HB.out.1
      case measure=>exact YD
    ·obtain rfl:y=8:=Z8;have HB:=Z5 hown hM;clear hown hM;go_wp2_with fail;go_roundw
     case rel=>exact⟨s+1,Z8,Zr,by rw [<-DY];exact HB.out.1,HB.out.2⟩
     case measure=>exact YD
  ·obtain rfl:s=15:=Z8;have HB:=Z5 hown hM;clear hown hM;go_wp2_with fail;go_ret;obtain⟨h9,CE⟩:=HB.out;have lH:Zx _ _ _ JR:=h9;obtain⟨A9,c9,xE⟩:=ZG lH;subst xE;have hl:=Mg.1;have YZ:=lH.RU;rw [hl]at YZ;rcases lH.2 with⟨hv,h0⟩|⟨g,cap,cur,hv,hB,_⟩
   ·rw [hl]at h0;cases h0
   ·injection hv with e1 e2 e3;subst e1;exact⟨g,c9,by rw [hl];rfl,hB,YZ,CE⟩
def WJ(c:Nat):Bool:=decide (31<=c/\c<=2017)
theorem kX(w:World)(c:Nat):Calls prog 390 #[.int .u16 (c:Int)] w fun e w'=>e=.returned (.bool (WJ c))/\w=w':=by
 unfold WJ;by_cases h1:31<=c
 ·have d1:=Zb (31<=(c:Int));by_cases h2:c<=2017
  ·have d2:=Zb ((c:Int)<=2017);rw [decide_eq_true (Z9 h1 h2)];go_enter func390,ntmps390;go_wp2_with fail;go_ret;exact⟨rfl,rfl⟩
  ·have d2:=Za ((c:Int)<=2017);rw [decide_eq_false (fun h=>h2 h.2)];go_enter func390,ntmps390;go_wp2_with fail;go_ret;exact⟨rfl,rfl⟩
 ·have d1:=Za (31<=(c:Int));rw [decide_eq_false (fun h=>h1 h.1)];go_enter func390,ntmps390;go_wp2_with fail;go_ret;exact⟨rfl,rfl⟩
def Q7(c bit:Nat):Nat:=if bit=0 then c+(2048-c)/32 else c-c/32
theorem adL(c bit:Nat)(h:WJ c=true):WJ (Q7 c bit)=true:=by
 unfold WJ Q7 at *;rw [decide_eq_true_eq]at *;split<;>omega
theorem ajs(w:World)(c bit:Nat)(hb:bit<=1)(h:WJ c=true):Calls prog 348 #[.int .u16 (c:Int),↑bit] w fun e w'=>e=.returned (.int .u16 ((Q7 c bit:Nat):Int))/\w=w':=by
 unfold WJ at h;rw [decide_eq_true_eq]at h;obtain⟨h1,h2⟩:=h;have m1:max (c:Int) 31=(c:Int):=Z8;have m2:min (c:Int) 2017=(c:Int):=Z8;rcases Nat.eq_zero_or_pos bit with e|e
 ·subst e;have r1:IntKind.u16.wrap ((c:Int)+IntKind.u16.wrap ((2048-(c:Int)).tdiv 32))=((Q7 c 0:Nat):Int):=by
   have t:(2048-(c:Int)).tdiv 32=(2048-(c:Int))/32:=Int.tdiv_eq_ediv_of_nonneg Z8;rw [t,IntWalk.u16_in ((2048-(c:Int))/32) ⟨Z8,Z8⟩,IntWalk.u16_in _ ⟨Z8,Z8⟩];unfold Q7;rw [if_pos rfl];omega
  have R:=Z7 r1;clear r1;go_enter func348,ntmps348;go_wp2_with fail;go_ret;exact⟨congrArg (fun z=>Zq (.int .u16 z)) R.out,rfl⟩
 ·obtain rfl:bit=1:=Z8;have r1:(c:Int)-(c:Int)/32=((Q7 c 1:Nat):Int):=by
   unfold Q7;rw [Xb];omega
  have R:=Z7 r1;clear r1;go_enter func348,ntmps348;go_wp2_with fail;go_ret;exact⟨congrArg (fun z=>Zq (.int .u16 z)) R.out,rfl⟩
def be(l:List UInt8):Nat:=l.foldl (fun a b=>a*256+b.toNat) 0
def UJ(l:List Nat):List Value:=l.map fun x=>.int .u16 ((x:Nat):Int)
structure St where
 ch:List Nat
 code:List UInt8
 rest:Nat
 wide:Nat
def atIdx(i ahead:Nat):Nat:=20+(2 ^ i-1+ahead)
theorem ak0(w:World)(bk off:Nat):Calls prog 346 #[↑(ZC bk off),↑Z0,↑Z0] w fun e w'=>e=.returned ↑(ZC bk (off+20))/\Mod ↑ZW w w':=by
 go_enter func346,ntmps346;go_wp2_with fail;go_quiet (fail)
 go_wp2_with fail;go_ret;exact⟨rfl,(Mod.refl _ _).drewN _⟩
theorem akZ(w:World)(bk off ahead:Nat)(ha:ahead<2):Calls prog 346 #[↑(ZC bk off),.int .i64 1,↑ahead] w fun e w'=>e=.returned ↑(ZC bk (off+20+(1+ahead)))/\Mod ↑ZW w w':=by
 have p0:(0:Int)<=(ahead:Int):=Z8;have p1:(ahead:Int)<2:=Z8;go_enter func346,ntmps346;go_wp2_with fail;have s1:IntKind.i64.wrap (1+(ahead:Int))=1+(ahead:Int):=Z4 _ ⟨Z8,Z8⟩;have s2:(1+(ahead:Int)).toNat=1+ahead:=Z8;have s3:(0:Int)<=1+(ahead:Int):=Z8;have s4:1+(ahead:Int)<16:=Z8;go_quiet (fail)
 go_wp2_with fail;go_ret;exact⟨rfl,(Mod.refl _ _).drewN _⟩
theorem akY(w:World)(bk off ahead:Nat)(ha:ahead<4):Calls prog 346 #[↑(ZC bk off),.int .i64 2,↑ahead] w fun e w'=>e=.returned ↑(ZC bk (off+20+(3+ahead)))/\Mod ↑ZW w w':=by
 have p0:(0:Int)<=(ahead:Int):=Z8;have p1:(ahead:Int)<4:=Z8;go_enter func346,ntmps346;go_wp2_with fail;have s1:IntKind.i64.wrap (3+(ahead:Int))=3+(ahead:Int):=Z4 _ ⟨Z8,Z8⟩;have s2:(3+(ahead:Int)).toNat=3+ahead:=Z8;have s3:(0:Int)<=3+(ahead:Int):=Z8;have s4:3+(ahead:Int)<16:=Z8;go_quiet (fail)
 go_wp2_with fail;go_ret;exact⟨rfl,(Mod.refl _ _).drewN _⟩
theorem akX(w:World)(bk off ahead:Nat)(ha:ahead<8):Calls prog 346 #[↑(ZC bk off),.int .i64 3,↑ahead] w fun e w'=>e=.returned ↑(ZC bk (off+20+(7+ahead)))/\Mod ↑ZW w w':=by
 have p0:(0:Int)<=(ahead:Int):=Z8;have p1:(ahead:Int)<8:=Z8;go_enter func346,ntmps346;go_wp2_with fail;have s1:IntKind.i64.wrap (7+(ahead:Int))=7+(ahead:Int):=Z4 _ ⟨Z8,Z8⟩;have s2:(7+(ahead:Int)).toNat=7+ahead:=Z8;have s3:(0:Int)<=7+(ahead:Int):=Z8;have s4:7+(ahead:Int)<16:=Z8;go_quiet (fail)
 go_wp2_with fail;go_ret;exact⟨rfl,(Mod.refl _ _).drewN _⟩
theorem bAt(w:World)(bk off i ahead:Nat)(hi:i<4)(ha:ahead<2 ^ i):Calls prog 346 #[↑(ZC bk off),↑i,↑ahead] w fun e w'=>e=.returned ↑(ZC bk (off+atIdx i ahead))/\Mod ↑ZW w w':=by
 unfold atIdx;have h4:i=0\/i=1\/i=2\/i=3:=Z8;rcases h4 with rfl|rfl|rfl|rfl
 ·obtain rfl:ahead=0:=Z8;exact ak0 w bk off
 ·have:=akZ w bk off ahead (by simpa using ha);rw [YJ]at this;exact this
 ·have:=akY w bk off ahead (by simpa using ha);rw [YJ]at this;exact this
 ·have:=akX w bk off ahead (by simpa using ha);rw [YJ]at this;exact this
theorem F4(w:World)(bk t:Nat)(ht:t<16):Calls prog 290 #[↑(ZC bk 0),↑t] w fun e w'=>e=.returned ↑(ZC bk (t*37))/\w=w':=by
 have p0:=Za ((t:Int)<0);have p1:=Za (16<=(t:Int));have p2:(t:Int)<16:=Z8;have p3:(0:Int)<=(t:Int):=Z8;go_enter func290,ntmps290;go_wp2_with fail;go_ret;exact⟨rfl,rfl⟩
theorem ah0(r x:Nat)(hr:r<1099511627776)(hx:x<=1):bits BinOp.or IntKind.i64 ((r:Int)*2) (x:Int)=((2*r+x:Nat):Int):=by
 have e1:(YI 64 ((r:Int)*2)).toNat=r*2:=by rw [Xe];omega
 have e2:(YI 64 (x:Int)).toNat=x:=by rw [Xe];omega
 have key:(YI 64 ((r:Int)*2) ||| YI 64 (x:Int)).toNat=2*r+x:=by
  rw [BitVec.toNat_or,e1,e2];have:=Nat.shiftLeft_add_eq_or_of_lt (i:=1) (b:=x) Z8 r;rw [Nat.shiftLeft_eq]at this;have h2:r*2+x=r*2 ||| x:=this
  omega
 show IntKind.i64.wrap ((YI 64 ((r:Int)*2) ||| YI 64 (x:Int)).toNat:Nat)=_;rw [key];exact Z4 _ ⟨Z8,Z8⟩
theorem abf(w:World):Calls prog 259 #[.int .u64 2] w fun e w'=>e=.returned (.int .i64 2)/\w=w':=by
 go_enter func259,ntmps259;go_wp2_with fail;go_ret;exact⟨ZR,rfl⟩
theorem adP(w:World):Calls prog 183 #[.int .u64 2] w fun e w'=>e=.returned (.int .i64 2)/\w=w':=by
 go_enter func183,ntmps183;go_wp2_with fail;refine YH (abf _) ?_;go_wp2_with fail;go_ret;exact⟨rfl,rfl⟩
theorem abe(w:World):Calls prog 259 #[.int .u64 3] w fun e w'=>e=.returned (.int .i64 2)/\w=w':=by
 go_enter func259,ntmps259;go_wp2_with fail;go_ret;exact⟨ZR,rfl⟩
theorem adO(w:World):Calls prog 183 #[.int .u64 3] w fun e w'=>e=.returned (.int .i64 2)/\w=w':=by
 go_enter func183,ntmps183;go_wp2_with fail;refine YH (abe _) ?_;go_wp2_with fail;go_ret;exact⟨rfl,rfl⟩
def Vw(a b:Nat):Nat:=max a b-min a b
theorem L8(w:World)(a b:Nat)(ha:a<256)(hb:b<256):Calls prog 367 #[.int .u8 (a:Int),.int .u8 (b:Int)] w fun e w'=>e=.returned ↑(Vw a b:Nat)/\w=w':=by
 unfold Vw;by_cases h:a<=b
 ·go_enter func367,ntmps367;go_wp2_with fail
  all_goals(try go_ret)
  all_goals first|exact⟨congrArg (fun z=>Zq (.int .i64 z)) Z8,rfl⟩|omega
 ·go_enter func367,ntmps367;go_wp2_with fail
  all_goals(try go_ret)
  all_goals first|exact⟨congrArg (fun z=>Zq (.int .i64 z)) Z8,rfl⟩|omega
theorem di(w:World)(v:Int)(hv:-9223372036854775808<=v/\v<=9223372036854775807):Calls prog 368 #[↑v] w fun e w'=>e=.returned (.int .u8 ((XM v:Nat):Int))/\w=w':=by
 unfold XM;go_enter func368,ntmps368;go_wp2_with fail
 all_goals
  go_ret;refine⟨congrArg (fun z=>Zq (.int .u8 z)) ?_,rfl⟩
  (repeat' split)<;>omega
theorem F9(w:World)(q:Nat)(hq:q<=31):Calls prog 216 #[↑q] w fun e w'=>e=.returned (.bool true)/\w=w':=by
 have d1:=Zb ((q:Int)<=31);have d2:=Zb (0<=(q:Int));go_enter func216,ntmps216;go_wp2_with fail;go_ret;exact⟨rfl,rfl⟩
theorem aem{a b a' b':Nat}(h:a=a')(k:b=b'):Zq (.tuple #[.int .u8 (a:Int),.int .u8 (b:Int)])=.returned (.tuple #[.int .u8 (a':Int),.int .u8 (b':Int)]):=by rw [h,k]
def BA(a b c d s:Int):Int:=min (max ((4*(c-b)+a-d+4)/8) (-s)) s
def Ty(a b c d q:Nat):Nat × Nat:=
 if 4*(q/2)<=Vw b c\/2*(q/2)<=Vw a b\/2*(q/2)<=Vw c d then(b,c)
 else(XM ((b:Int)+BA a b c d ((q/2:Nat):Int)),XM ((c:Int)-BA a b c d ((q/2:Nat):Int)))
theorem ajp(w:World)(a b c d q:Nat)(ha:a<256)(hb:b<256)(hc:c<256)(hd:d<256)(hq:q<=31):
  Calls prog 304 #[.int .u8 (a:Int),.int .u8 (b:Int),.int .u8 (c:Int),.int .u8 (d:Int),↑q] w
   fun e w'=>e=.returned (.tuple #[.int .u8 (((Ty a b c d q).1:Nat):Int),.int .u8 (((Ty a b c d q).2:Nat):Int)])/\w=w':=by
 by_cases h1:4*(q/2)<=Vw b c
 ·have HR:=Z7 (show Ty a b c d q=(b,c)from if_pos (.inl h1));have d1:=Zb (4*((q:Int)/2)<=(Vw b c:Int));clear h1;go_enter func304,ntmps304;go_wp2_with fail;refine YH (F9 _ q hq) ?_;go_wp2_with fail;refine YH (L8 _ b c hb hc) ?_;go_wp2_with fail;go_ret2;exact⟨by rw [HR.out];rfl,rfl⟩
 ·have d1:=Za (4*((q:Int)/2)<=(Vw b c:Int));by_cases h2:2*(q/2)<=Vw a b
  ·have HR:=Z7 (show Ty a b c d q=(b,c)from if_pos (.inr (.inl h2)));have d2:=Zb (2*((q:Int)/2)<=(Vw a b:Int));clear h1 h2;go_enter func304,ntmps304;go_wp2_with fail;refine YH (F9 _ q hq) ?_;go_wp2_with fail;refine YH (L8 _ b c hb hc) ?_;go_wp2_with fail;refine YH (L8 _ a b ha hb) ?_;go_wp2_with fail;go_ret2;exact⟨by rw [HR.out];rfl,rfl⟩
  ·have d2:=Za (2*((q:Int)/2)<=(Vw a b:Int));by_cases h3:2*(q/2)<=Vw c d
   ·have HR:=Z7 (show Ty a b c d q=(b,c)from if_pos (.inr (.inr h3)));have d3:=Zb (2*((q:Int)/2)<=(Vw c d:Int));clear h1 h2 h3;go_enter func304,ntmps304;go_wp2_with fail;refine YH (F9 _ q hq) ?_;go_wp2_with fail;refine YH (L8 _ b c hb hc) ?_;go_wp2_with fail;refine YH (L8 _ a b ha hb) ?_;go_wp2_with fail;refine YH (L8 _ c d hc hd) ?_;go_wp2_with fail;go_ret2;exact⟨by rw [HR.out];rfl,rfl⟩
   ·have HR:=Z7 (show Ty a b c d q=_ from Xb);have d3:=Za (2*((q:Int)/2)<=(Vw c d:Int));clear h1 h2 h3;go_enter func304,ntmps304;go_wp2_with fail;refine YH (F9 _ q hq) ?_;go_wp2_with fail;refine YH (L8 _ b c hb hc) ?_;go_wp2_with fail;refine YH (L8 _ a b ha hb) ?_;go_wp2_with fail;refine YH (L8 _ c d hc hd) ?_;go_wp2_with fail
    all_goals
     clear d1 d2 d3;refine YH (di _ _ ⟨Z8,Z8⟩) ?_;go_wp2_with fail;refine YH (di _ _ ⟨Z8,Z8⟩) ?_;go_wp2_with fail;go_ret2;refine⟨aem ?_ ?_,rfl⟩
     ·rw [HR.out];exact congrArg XM (by unfold BA;omega)
     ·rw [HR.out];exact congrArg XM (by unfold BA;omega)
def uZ(q:Nat)(L:List UInt8)(p s:Nat):List UInt8:=
 (L.set (p-s) (Zl (Ty (L.getD (p-2*s) 0).toNat (L.getD (p-s) 0).toNat (L.getD p 0).toNat (L.getD (p+s) 0).toNat q).1)).set p
  (Zl (Ty (L.getD (p-2*s) 0).toNat (L.getD (p-s) 0).toNat (L.getD p 0).toNat (L.getD (p+s) 0).toNat q).2)
theorem QD(q:Nat)(L:List UInt8)(p s:Nat):(uZ q L p s).length=L.length:=by simp [uZ]
theorem xK(a b c d q:Nat)(hb:b<256)(hc:c<256):(Ty a b c d q).1<256/\(Ty a b c d q).2<256:=by
 unfold Ty;split
 ·exact⟨hb,hc⟩
 ·exact⟨PO _,PO _⟩
theorem EL{w:World}{g:Nat}{t:TypeId}{L:List UInt8}(hb:ZI w g t (Yw L).toArray){i:Nat}(hi:i<L.length):w.cell? ⟨g,i,none⟩=some (.int .u8 ((L.getD i 0).toNat:Int)):=by
 rw [hb.cell,List.getElem?_toArray];simp [Yw,hi]
theorem oP(L:List UInt8)(k v:Nat)(hv:v<256):(Yw L).toArray.setIfInBounds k (.int .u8 (v:Int))=(Yw (L.set k (Zl v))).toArray:=by
 rw [EM L k v hv];simp
theorem rM(w:World)(bp bq g n q p s:Nat)(L:List UInt8)(hL:L.length=n)(hq:q<=31)(hs:1<=s)(h1:2*s<=p)(h2:p+s<n)(hn:n<=16777216)
  (lV:ZI w bp 54 #[↑(ZZ g n n)])(hbq:ZI w bq 3 #[↑q])(hb:ZI w g 5 (Yw L).toArray):
  Calls prog 303 #[↑p,↑s,↑(ZC bp 0),↑(ZC bq 0)] w fun e w'=>e=.returned (.tuple #[])/\ZI w' g 5 (Yw (uZ q L p s)).toArray/\Mod (·=g) w w':=by
 obtain⟨p1,EE⟩:=ZL (p-s);obtain⟨p0,hp0⟩:=ZL (p-2*s);obtain⟨p3,hp3⟩:=ZL (p+s)
 have hR:uZ q L p s=(L.set p1 (Zl (Ty (L.getD p0 0).toNat (L.getD p1 0).toNat (L.getD p 0).toNat (L.getD p3 0).toNat q).1)).set p
  (Zl (Ty (L.getD p0 0).toNat (L.getD p1 0).toNat (L.getD p 0).toNat (L.getD p3 0).toNat q).2):=by rw [EE,hp0,hp3];rfl
 have k0:=EL hb (i:=p0) Z8;have k1:=EL hb (i:=p1) Z8;have k2:=EL hb (i:=p) Z8;have k3:=EL hb (i:=p3) Z8;have hlt:=xK (L.getD p0 0).toNat (L.getD p1 0).toNat (L.getD p 0).toNat (L.getD p3 0).toNat q (ZN _) (ZN _);have x0:(L.getD p0 0).toNat<256:=ZN _;have x1:(L.getD p1 0).toNat<256:=ZN _;have x2:(L.getD p 0).toNat<256:=ZN _;have x3:(L.getD p3 0).toNat<256:=ZN _;obtain⟨v0,hv0⟩:=ZL ((L.getD p0 0).toNat);obtain⟨v1,Gr⟩:=ZL ((L.getD p1 0).toNat);obtain⟨v2,hv2⟩:=ZL ((L.getD p 0).toNat);obtain⟨v3,hv3⟩:=ZL ((L.getD p3 0).toNat);rw [<-hv0,<-Gr,<-hv2,<-hv3]at hR hlt;rw [<-hv0]at k0 x0;rw [<-Gr]at k1 x1;rw [<-hv2]at k2 x2;rw [<-hv3]at k3 x3;have y0:w.cell? ↑bp=some ↑(ZZ g n n):=lV.cell 0;have y1:w.cell? ↑bq=some ↑q:=hbq.cell 0;have e1:IntKind.i64.wrap ((p:Int)-(s:Int))=(p1:Int):=by rw [Z4 _ ⟨Z8,Z8⟩];omega
 have e2:IntKind.i64.wrap (2*(s:Int))=2*(s:Int):=Z4 _ ⟨Z8,Z8⟩;have e3:IntKind.i64.wrap ((p:Int)-2*(s:Int))=(p0:Int):=by rw [Z4 _ ⟨Z8,Z8⟩];omega
 have e4:IntKind.i64.wrap ((p:Int)+(s:Int))=(p3:Int):=by rw [Z4 _ ⟨Z8,Z8⟩];omega
 have i0:(0:Int)<=(p0:Int):=Z8;have i1:(0:Int)<=(p1:Int):=Z8;have i2:(0:Int)<=(p:Int):=Z8;have i3:(0:Int)<=(p3:Int):=Z8;have j0:(p0:Int)<(n:Int):=Z8;have j1:(p1:Int)<(n:Int):=Z8;have j2:(p:Int)<(n:Int):=Z8;have j3:(p3:Int)<(n:Int):=Z8;have hne:p1≠p:=Z8;have fz:=hb.frozen;have gl:=hb.lt;have HE:=Z5 e1 (Z9 e2 (Z9 e3 e4));have HH:=Z5 hR (Z9 hb (Z9 hlt hL));clear hR hb hlt hL lV hbq hp0 EE hp3 hv0 Gr hv2 hv3 e1 e2 e3 e4 h1 h2;go_enter func303,ntmps303;go_wp2_with fail;have e1:=HE.out.1;go_quiet (fail)
 clear e1;go_upto_region 1 with(fail)
 obtain⟨e1,e2,e3,e4⟩:=HE.out;refine YK [27,29] [1,25] [0,2,3,4,5,6,7,8,9,10,11,12,13,14,15,16,17,18,19,20,21,22,23,24,26,1,25,27,28,29] ZR ZR Xc ?_;iterate 21 (refine Yd ?_)
 (refine QC rfl rfl (fun K hK=>?_);go_simp;refine⟨_,(ajp _ v0 v1 v2 v3 q x0 x1 x2 x3 hq).mono (fun _ _ ⟨h1,h2⟩=>⟨h1,h2.symm⟩),hK _ ?_⟩;clear hK K)
 iterate 3 (refine Yd ?_)
 iterate 2 (refine BN rfl rfl rfl (fun _=>rfl) ?_)
 refine XJ rfl rfl (fun K hK=>?_);go_simp;refine hK _ _ ?_;clear hK K;refine Yd ?_;refine XJ rfl rfl (fun K hK=>?_);go_simp;refine hK _ _ ?_;clear hK K;refine XD ?_;clear e1 e2 e3 e4;go_wp2_with fail;go_end0
 refine⟨rfl,?_,?_⟩
 ·obtain⟨hR,hb,hlt,hL⟩:=HH.out;rw [hR];have h1:=((hb.drewN (nq+1)).put (i:=p1) (oP L p1 _ hlt.1)).put (i:=p) (oP (L.set p1 (Zl (Ty v0 v1 v2 v3 q).1)) p _ hlt.2);exact h1
 ·exact(((Mod.refl (·=g) w).drewN _).setCell (p:=⟨g,p1,none⟩) (.inl rfl) _).setCell (p:=⟨g,p,none⟩) (.inl rfl) _
def NV(q W y:Nat):Nat->Nat->List UInt8->List UInt8
 | 0,_,L=>L
 | f+1,x,L=>if x+1<W then NV q W y f (x+8) (uZ q L (y*W+x) 1)else L
def PE(q W:Nat):Nat->Nat->List UInt8->List UInt8
 | 0,_,L=>L
 | n+1,y,L=>PE q W n (y+1) (NV q W y W 8 L)
def NU(q W H x:Nat):Nat->Nat->List UInt8->List UInt8
 | 0,_,L=>L
 | f+1,y,L=>if y+1<H then NU q W H x f (y+8) (uZ q L (y*W+x) W)else L
def Lc(q W H:Nat):Nat->Nat->List UInt8->List UInt8
 | 0,_,L=>L
 | n+1,x,L=>Lc q W H n (x+1) (NU q W H x H 8 L)
def Rv(q W H:Nat)(L:List UInt8):List UInt8:=Lc q W H W 0 (PE q W H 0 L)
theorem En{q W y f x:Nat}{L:List UInt8}(h:¬x+1<W):NV q W y f x L=L:=by cases f<;>simp [NV,h]
theorem El{q W H x f y:Nat}{L:List UInt8}(h:¬y+1<H):NU q W H x f y L=L:=by cases f<;>simp [NU,h]
theorem Eo{q W y f x:Nat}{L:List UInt8}(h:x+1<W):NV q W y (f+1) x L=NV q W y f (x+8) (uZ q L (y*W+x) 1):=by simp [NV,h]
theorem Em{q W H x f y:Nat}{L:List UInt8}(h:y+1<H):NU q W H x (f+1) y L=NU q W H x f (y+8) (uZ q L (y*W+x) W):=by simp [NU,h]
theorem FP{q W H y:Nat}{L:List UInt8}(h:y<H):PE q W (H-y) y L=PE q W (H-(y+1)) (y+1) (NV q W y W 8 L):=by rw [show H-y=(H-(y+1))+1 by omega];rfl
theorem FN{q W H x:Nat}{L:List UInt8}(h:x<W):Lc q W H (W-x) x L=Lc q W H (W-(x+1)) (x+1) (NU q W H x H 8 L):=by rw [show W-x=(W-(x+1))+1 by omega];rfl
theorem II{q W y:Nat}:∀ {f x:Nat} {L:List UInt8},(NV q W y f x L).length=L.length
 | 0,_,_=>rfl
 | f+1,x,L=>by unfold NV;split;rw [II,QD];rfl
theorem IG{q W H x:Nat}:∀ {f y:Nat} {L:List UInt8},(NU q W H x f y L).length=L.length
 | 0,_,_=>rfl
 | f+1,y,L=>by unfold NU;split;rw [IG,QD];rfl
theorem Qj{q W:Nat}:∀ {n y:Nat} {L:List UInt8},(PE q W n y L).length=L.length
 | 0,_,_=>rfl
 | n+1,y,L=>by unfold PE;rw [Qj,II]
theorem JK{q W H:Nat}:∀ {n x:Nat} {L:List UInt8},(Lc q W H n x L).length=L.length
 | 0,_,_=>rfl
 | n+1,x,L=>by unfold Lc;rw [JK,IG]
theorem Um{q W H:Nat}{L:List UInt8}:(Rv q W H L).length=L.length:=by unfold Rv;rw [JK,Qj]
def dpL(v g res qb pb n W H q:Nat)(A:Option Addr)(c:Nat)(L:List UInt8):List Nf:=
 [⟨v,54,#[↑(ZZ g n n)]⟩,⟨g,5,(Yw L).toArray⟩,⟨res,56,#[↑Z0,↑Z0,↑Zd]⟩,⟨qb,3,#[↑q]⟩,⟨pb,56,#[↑W,↑H,.slice A n c]⟩]
def aj5(w:World)(mk:List UInt8->List Nf)(n q W H:Nat)(R:List UInt8)(s31:Value)(wr:World):Prop:=
 ∃y L,y<=H/\s31=↑y/\L.length=n/\PE q W (H-y) y L=R/\Sat ↑ZW w wr (mk L) []
def alc(w:World)(mk:List UInt8->List Nf)(n q W y:Nat)(R:List UInt8)(s9:Value)(wr:World):Prop:=
 ∃x f L,8<=x/\x<=W+8/\W<=x+f/\s9=↑x/\L.length=n/\NV q W y f x L=R/\Sat ↑ZW w wr (mk L) []
def aj6(w:World)(mk:List UInt8->List Nf)(n q W H:Nat)(R:List UInt8)(s52:Value)(wr:World):Prop:=
 ∃x L,x<=W/\s52=↑x/\L.length=n/\Lc q W H (W-x) x L=R/\Sat ↑ZW w wr (mk L) []
def ald(w:World)(mk:List UInt8->List Nf)(n q W H x:Nat)(R:List UInt8)(s11:Value)(wr:World):Prop:=
 ∃y f L,8<=y/\y<=H+8/\H<=y+f/\s11=↑y/\L.length=n/\NU q W H x f y L=R/\Sat ↑ZW w wr (mk L) []
theorem rD{y x W H n:Nat}(hn:n=W*H)(hy:y<H)(hx:x<W):y*W+x<n/\y*W+W<=n:=by
 have h1:=YE W (show y+1<=H by omega);rw [Y5,Ym,Nat.mul_comm H W,<-hn]at h1;omega
theorem agX(w:World)(W H:Nat)(A:Option Addr)(n c:Nat)(ZJ:List UInt8)(q:Nat)(h:Yx W H=true)(hn:n=W*H)(YZ:BytesIn w A (W*H) c ZJ)(hq:q<=31):
  Calls prog 217 #[.agg #[↑W,↑H,.slice A n c],↑q] w
   fun e w'=>∃g,e=.returned (.tuple #[.agg #[↑W,↑H,↑(ZZ g n n)],↑Z0])/\ZI w' g 5 (Yw (Rv q W H ZJ)).toArray/\w.heap.size<=g/\Mod ↑ZW w w':=by
 obtain⟨ha,hW1,hW2,hH1,qi,qA⟩:=YB h;have hpl:ZJ.length=n:=by rw [hn];exact YZ.1
 rw [<-hn]at ha qA;have HI:=Z5 h (Z9 YZ (Z9 hn hpl));clear h YZ hn hpl;have h0:=(Sat.nil ↑ZW w)
 go_enter func217,ntmps217;go_wp2_with fail;refine YX (Ru _ W H A n c HI.out.1 HI.out.2.2.1) fun w1 Y6=>?_;have HS:=Sat.after Y6 (((h0.alloc _ _ rfl).alloc (g:=w.heap.size+1) _ _ Ze).alloc (g:=w.heap.size+2) _ _ Ze);clear Y6 h0;obtain⟨qc,qf⟩:=(HS.ZX 1 rfl).both;have ql:=(HS.ZX 1 rfl).lt;have HH:=Z7 HS;clear HS;go_wp2_with fail;refine YH (F9 _ q hq) ?_;clear qc qf ql;have hs1:w.heap.size+3<=w1.heap.size:=(HH.out.ZX 0 rfl).lt;have tq:w1.cell? ⟨w.heap.size,2,none⟩=some (.slice A n c):=(HH.out.ZX 2 rfl).cell 2;go_upto_region 6 with(refine TV _ rfl (.tmp 22) (.tmp 22) rfl n rfl rfl Z8 ?_;intro w3 hb3 X7;have HO:=Z5 hb3 X7;clear hb3 X7)
 clear tq
 have Td:=(HH.out.quiet HO.out.2).NA (g:=w1.heap.size) HO.out.1 (.inr Z8) (by
  intro e he;have:=(HH.out.blk e he).lt;omega)
 have hs3:w1.heap.size<w3.heap.size:=HO.out.1.lt;have IW:=Td.alloc 54 #[↑(ZZ w1.heap.size n n)] rfl;clear Td;have JB:=HI.out.2.1.quiet IW.mod;rw [<-HI.out.2.2.1]at JB;obtain⟨g,hg⟩:=ZL (w1.heap.size);obtain⟨v,hv⟩:=ZL (w3.heap.size);obtain⟨res,hres⟩:=ZL (w.heap.size+1+1);obtain⟨qb,vO⟩:=ZL (w.heap.size+1);obtain⟨pb,J6⟩:=ZL (w.heap.size);rw [show w.heap.size+2=w.heap.size+1+1 from rfl]at IW;rw [<-hv,<-hg,<-hres,<-vO,<-J6]at IW;rw [<-hv,<-hg,<-hres,<-vO,<-J6];rw [<-hg]at JB;generalize hw4:w3.alloc (.cells #[↑(ZZ g n n)] 54)=w4 at *;have hpw:w.heap.size<=g:=Z8;clear hw4 hg hv hres vO J6 hs1 hs3 HH HO;have v0:w4.cell? ⟨v,0,none⟩=some ↑(ZZ g n n):=(IW.ZX 0 rfl).cell 0;have p2:w4.cell? ⟨pb,2,none⟩=some (.slice A n c):=(IW.ZX 4 rfl).cell 2;have x1:0+n<=(Yw (ZM n 0)).length:=by simp [Yw]
 have HF:=Z5 IW (Z9 JB x1);clear IW JB x1;go_upto_region 7 with(refine Rw rfl (.tmp 24) (.tmp 26) _ _ rfl 5 underlying54 ZR (some ⟨g,0,none⟩) n n A n c (Yw ZJ) rfl rfl HF.out.2.1.2.2.1 g 0 _ 5 (HF.out.1.ZX 1 rfl) n (Nat.min_self _).symm (fun _=>rfl) HF.out.2.2 (Pg _) ?_;intro w5 Ut UR;have GH:=Z5 Ut UR;clear Ut UR)
 have o9:ZI w5 g 5 (Yw ZJ).toArray:=by
  have h:=GH.out.1;have e:splice (Yw (ZM n 0)) 0 ((Yw ZJ).take n)=Yw ZJ:=by
   rw [List.take_of_length_le (by rw [YG];have:=HI.out.2.2.2;omega)];unfold splice;rw [List.drop_eq_nil_of_le (by simp [Yw];have:=HI.out.2.2.2;omega)];simp
  rwa [e]at h
 have GN:=Sat.turn GH.out.2 HF.out.1 o9 (.there .here);clear HF GH o9 v0 p2;obtain⟨qc,qf⟩:=(GN.ZX 3 rfl).both;obtain⟨pc,pf⟩:=(GN.ZX 4 rfl).both;have H5:=Z7 GN;clear GN;go_wp2_with fail;go_loopw [31] (aj5 w (dpL v g res qb pb n W H q A c) n q W H (PE q W H 0 ZJ)) (fun s _=>H-(intOf s).toNat)
 case atStart=>exact⟨0,ZJ,Z8,rfl,HI.out.2.2.2,rfl,H5.out⟩
 case round=>
  clear H5 qc qf pc pf;obtain⟨y,L,hy,rfl,hL,hR,HS⟩:=hrel;have HY:=Z5 hL (Z9 hR HS);clear hL hR HS;by_cases hlt:y<H
  ·have d1:=Zb ((y:Int)<(H:Int));go_wp2_with fail;go_loopw [9] (alc w (dpL v g res qb pb n W H q A c) n q W y (NV q W y W 8 L)) (fun s _=>W+8-(intOf s).toNat)
   case atStart=>exact⟨8,W,L,Z8,Z8,Z8,rfl,HY.out.1,rfl,HY.out.2.2⟩
   case round=>
    rename World=>w6
    obtain⟨x,f,L1,hx1,hx2,hf,rfl,qm,lN,XZ⟩:=hrel;obtain⟨pc,pf⟩:=(XZ.ZX 4 rfl).both;have HX:=Z5 qm (Z9 lN XZ);clear qm lN XZ;by_cases hlx:x+1<W
    ·have d2:=Zb ((x:Int)+1<(W:Int));obtain⟨m0,QN⟩:=ZL (y*W);obtain⟨b1,b2⟩:=rD (x:=x) HI.out.2.2.1 hlt Z8;rw [<-QN]at b1 b2;have Dw:wrap64 ((y:Int)*(W:Int))=(m0:Int):=by
      rw [show(y:Int)*(W:Int)=(m0:Int)by rw [QN];simp];exact ZA _ ⟨Z8,Z8⟩
     have HM:=Z5 QN Dw;clear QN Dw;go_wp2_with fail;rw [HM.out.2,ZA ((m0:Int)+(x:Int)) ⟨Z8,Z8⟩,show(m0:Int)+(x:Int)=((m0+x:Nat):Int)by omega];refine(rM _ v qb g n q (m0+x) 1 L1 HX.out.1 hq Z8 Z8 Z8 ha (HX.out.2.2.ZX 0 rfl) (HX.out.2.2.ZX 3 rfl) (HX.out.2.2.ZX 1 rfl)).mono ?_;rintro e w7 ⟨rfl,yx,Sn⟩;have GJ:=Sat.turn Sn HX.out.2.2 yx (.there .here);clear yx Sn pc pf;have H7:=Z7 GJ;clear GJ;go_wp2_with fail;go_roundw
     case rel=>
      obtain⟨f',rfl⟩:∃f',f=f'+1:=⟨f-1,Z8⟩
      refine⟨x+8,f',uZ q L1 (m0+x) 1,Z8,Z8,Z8,Zr,by rw [QD];exact HX.out.1,?_,H7.out⟩;have:=HX.out.2.1;rw [Eo hlx,<-HM.out.1]at this;exact this
     case measure=>exact YD
    ·have d2:=Za ((x:Int)+1<(W:Int));go_wp2_with fail;go_roundw
     case rel=>
      have h1:=HX.out.2.1;rw [En hlx]at h1;refine⟨y+1,L1,Z8,Zr,HX.out.1,?_,HX.out.2.2⟩;rw [h1,<-FP hlt];exact HY.out.2.1
     case measure=>exact YD
  ·obtain rfl:y=H:=Z8;have hd:=HY.out.2.1;rw [XY]at hd;have hd:L=PE q W y 0 ZJ:=hd;subst hd;have H5:=Z7 HY.out.2.2;clear HY;obtain⟨pc,pf⟩:=(H5.out.ZX 4 rfl).both;go_wp2_with fail;clear pc pf;go_loopw [52] (aj6 w (dpL v g res qb pb n W y q A c) n q W y (Rv q W y ZJ)) (fun s _=>W-(intOf s).toNat)
   case atStart=>exact⟨0,_,Z8,rfl,by rw [Qj];exact HI.out.2.2.2,rfl,H5.out⟩
   case round=>
    clear H5;rename World=>w8
    obtain⟨x,L,hx,rfl,hL,hR,HS⟩:=hrel;have HY:=Z5 hL (Z9 hR HS);clear hL hR HS;by_cases hlt:x<W
    ·have d1:=Zb ((x:Int)<(W:Int));go_wp2_with fail;go_loopw [11] (ald w (dpL v g res qb pb n W y q A c) n q W y x (NU q W y x y 8 L)) (fun s _=>y+8-(intOf s).toNat)
     case atStart=>exact⟨8,y,L,Z8,Z8,Z8,rfl,HY.out.1,rfl,HY.out.2.2⟩
     case round=>
      rename World=>w6
      obtain⟨z,f,L1,hz1,hz2,hf,rfl,qm,lN,XZ⟩:=hrel;obtain⟨pc,pf⟩:=(XZ.ZX 4 rfl).both;have HX:=Z5 qm (Z9 lN XZ);clear qm lN XZ;by_cases hlz:z+1<y
      ·have d2:=Zb ((z:Int)+1<(y:Int));obtain⟨m0,QN⟩:=ZL (z*W);obtain⟨b1,b2⟩:=rD (x:=x) HI.out.2.2.1 hlz hlt;rw [Y5,Ym,<-QN]at b1 b2;have b3:8*W<=m0:=by rw [QN];exact YE W hz1
       have Dw:wrap64 ((z:Int)*(W:Int))=(m0:Int):=by
        rw [show(z:Int)*(W:Int)=(m0:Int)by rw [QN];simp];exact ZA _ ⟨Z8,Z8⟩
       have HM:=Z5 QN Dw;clear QN Dw;go_wp2_with fail;rw [HM.out.2,ZA ((m0:Int)+(x:Int)) ⟨Z8,Z8⟩,show(m0:Int)+(x:Int)=((m0+x:Nat):Int)by omega];refine(rM _ v qb g n q (m0+x) W L1 HX.out.1 hq Z8 Z8 Z8 ha (HX.out.2.2.ZX 0 rfl) (HX.out.2.2.ZX 3 rfl) (HX.out.2.2.ZX 1 rfl)).mono ?_;rintro e w7 ⟨rfl,yx,Sn⟩;have GJ:=Sat.turn Sn HX.out.2.2 yx (.there .here);clear yx Sn pc pf;have H7:=Z7 GJ;clear GJ;go_wp2_with fail;go_roundw
       case rel=>
        obtain⟨f',rfl⟩:∃f',f=f'+1:=⟨f-1,Z8⟩
        refine⟨z+8,f',uZ q L1 (m0+x) W,Z8,Z8,Z8,Zr,by rw [QD];exact HX.out.1,?_,H7.out⟩;have:=HX.out.2.1;rw [Em hlz,<-HM.out.1]at this;exact this
       case measure=>exact YD
      ·have d2:=Za ((z:Int)+1<(y:Int));go_wp2_with fail;go_roundw
       case rel=>
        have h1:=HX.out.2.1;rw [El hlz]at h1;refine⟨x+1,L1,Z8,Zr,HX.out.1,?_,HX.out.2.2⟩;rw [h1,<-FN hlt];exact HY.out.2.1
       case measure=>exact YD
    ·obtain rfl:x=W:=Z8;have hd:=HY.out.2.1;rw [XY]at hd;have hd:L=Rv q x y ZJ:=hd;subst hd;obtain⟨pc,pf⟩:=(HY.out.2.2.ZX 4 rfl).both;obtain⟨rc,rf⟩:=(HY.out.2.2.ZX 2 rfl).both;have v0:w8.cell? ⟨v,0,none⟩=some ↑(ZZ g n n):=(HY.out.2.2.ZX 0 rfl).cell 0;have n1:=HY.out.2.2.apart 0 2 rfl rfl Z8;have n2:=HY.out.2.2.apart 2 4 rfl rfl Z8;have n3:=HY.out.2.2.apart 1 2 rfl rfl Z8;dsimp only at n1 n2 n3;have rl:=(HY.out.2.2.ZX 2 rfl).lt;go_wp2_with fail;have HE:=((HY.out.2.2.put (g:=res) (i:=0) (u:=↑x) (.there (.there (.here rfl)))).put (g:=res) (i:=1) (u:=↑y) (.there (.there (.here rfl)))).put (g:=res) (i:=2) (u:=↑(ZZ g n n)) (.there (.there (.here rfl)));refine bodyPost_ret (v:=.tuple #[.agg #[↑x,↑y,↑(ZZ g n n)],↑Z0]) (by simp [results,results217,go_sem,rc]) rfl ⟨g,rfl,HE.ZX 1 rfl,hpw,HE.mod⟩
end Go.Proofs.YthednemlahioeaaGreatDoor
