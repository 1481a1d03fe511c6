/-
  The reference's Order of eight and side.
-/
import Derived.Test.YthednemlahioeaaGreatDoorM28
import Derived.Test.YthednemlahioeaaGreatDoorM27
namespace Go.Proofs.YthednemlahioeaaGreatDoor
open Go.RowKit
open Zx renaming nil→VG
open And renaming intro→Z9
open Lib renaming hid→Z7
open Nat renaming le_refl→ZY,zero_add→WW,le_trans→ZQ,eq_zero_or_pos→Wz,mod_lt→VV,div_lt_of_lt_mul→UB
open List renaming range→Zz,range_succ→Y9,getD_eq_getElem?_getD→Z6,all_eq_true→YM,getElem?_eq_getElem→ZP,getElem_mem→Xo
open World renaming cell?_of_block→ZV
open Bool renaming and_eq_true→ZT
open Int renaming tmod_eq_emod_of_nonneg→Zu,natCast_emod→VT,tdiv_eq_ediv_of_nonneg→ZK,natCast_ediv→Xz,ediv_nonneg→Vs,ediv_le_self→Ua
open IntWalk renaming i64_in→Z4
open Go.Proofs.Tryz
set_option maxRecDepth 100000
set_option maxHeartbeats 8000000
theorem ajg(w:World):Calls prog 236 #[.int .i64 64] w fun e w'=>e=.returned (.int .i64 8)/\w=w':=by
 go_enter func236,ntmps236;go_wp2_with fail;go_ret;exact⟨rfl,rfl⟩
theorem agK(w:World):Calls prog 315 #[.int .i64 8] w fun e w'=>∃b c,e=.returned ↑(ZZ b 64 c)/\w.heap.size<=b/\IntsIn w' (some ⟨b,0,none⟩) 64 c JR/\Mod ↑ZW w w':=by
 go_enter func315,ntmps315;go_wp2_with fail;go_loopw [3,4] (kH w) (fun _ i _=>15-(intOf i).toNat)
 case atStart=>exact⟨0,Z8,rfl,VG _ _,Mod.refl _ _⟩
 case round=>
  obtain⟨s,hs,rfl,hown,hM⟩:=hrel;by_cases hlt:s<15
  ·obtain⟨wo,rfl⟩:∃wo:World,wo=wr:=⟨_,rfl⟩
   have HB:=Z5 hown hM;clear hown hM;have dx:=Zb ((s:Int)<=14);go_wp2_with fail;go_loopw [3,5] (cK w s) (fun _ i _=>8-(intOf i).toNat)
   case atStart=>exact⟨0,Z8,rfl,HB.out.1,HB.out.2⟩
   case round=>
    clear HB;obtain⟨y,hy,rfl,hown,hM⟩:=hrel;by_cases mJ:y<8
    ·have dy:=Zb ((y:Int)<8);obtain⟨A3,c3,hv3⟩:=ZG hown;subst hv3;have hle:=xV s y;generalize hlen:(Ps s y).length=n3 at *;have HB:=Z5 hown (Z9 hM (Z9 hM.size hlen));clear hown hM hlen;by_cases h1:y<=s
     ·have d1:=Zb ((0:Int)<=(s:Int)-(y:Int));have d1':=Zb ((y:Int)<=(s:Int));by_cases h2:s<y+8
      ·have d2:=Zb ((s:Int)-(y:Int)<8);have HS:=Z7 (BI s y ⟨h1,h2⟩);have ev:(y:Int)*8+((s:Int)-(y:Int))=((y*8+(s-y):Nat):Int):=Z8;have HE:=Z7 ev;clear ev;go_wp2_with (at_builtin;have _t:=HB;refine Vg _ rfl (.tmp 37) (.tmp 43) rfl w.heap.size _ _ ((y:Int)*8+((s:Int)-(y:Int))) rfl rfl HB.out.1 HB.out.2.2.1 (by rw [HB.out.2.2.2];omega) ?_;intro v8 w8 SC NI Pp hF;have HO:=Z5 SC (Pp w ↑ZW (ZY _) HB.out.2.1);clear SC NI Pp hF)
       go_roundw
       case rel=>
        refine⟨y+1,Z8,Zr,?_,HO.out.2⟩;rw [HS.out,<-HE.out];exact HO.out.1
       case measure=>exact YD
      ·have d2:=Za ((s:Int)-(y:Int)<8);have HS:=Z7 (Iu s y (fun h=>h2 h.2));go_wp2_with fail;go_roundw
       case rel=>
        refine⟨y+1,Z8,Zr,?_,HB.out.2.1⟩;rw [HS.out];exact HB.out.1
       case measure=>exact YD
     ·have d1:=Za ((0:Int)<=(s:Int)-(y:Int));have d1':=Za ((y:Int)<=(s:Int));have HS:=Z7 (Iu s y (fun h=>h1 h.1));go_wp2_with fail;go_roundw
      case rel=>
       refine⟨y+1,Z8,Zr,?_,HB.out.2.1⟩;rw [HS.out];exact HB.out.1
      case measure=>exact YD
    ·obtain rfl:y=8:=Z8;have HB:=Z5 hown hM;clear hown hM;go_wp2_with fail;go_roundw
     case rel=>exact⟨s+1,Z8,Zr,by rw [<-DY];exact HB.out.1,HB.out.2⟩
     case measure=>exact YD
  ·obtain rfl:s=15:=Z8;have HB:=Z5 hown hM;clear hown hM;go_wp2_with fail;go_ret;obtain⟨h9,CE⟩:=HB.out;have lH:Zx _ _ _ JR:=h9;obtain⟨A9,c9,xE⟩:=ZG lH;subst xE;have hl:=Mg.1;have YZ:=lH.RU;rw [hl]at YZ;rcases lH.2 with⟨hv,h0⟩|⟨g,cap,cur,hv,hB,_⟩
   ·rw [hl]at h0;cases h0
   ·injection hv with e1 e2 e3;subst e1;exact⟨g,c9,by rw [hl];rfl,hB,YZ,CE⟩
def E5(b:List Int)(k:Nat):List Int:=(Zz k).map fun j=>b.getD (JR.getD j 0).toNat 0
theorem Ce(b:List Int)(k:Nat):E5 b (k+1)=E5 b k++[b.getD (JR.getD k 0).toNat 0]:=by simp [E5,Y9]
theorem Ld(b:List Int)(k:Nat):(E5 b k).length=k:=by simp [E5]
theorem ad8(b:List Int)(k:Nat)(hk:k<=64):P9 b k=E5 b k++List.replicate (64-k) 0:=by
 induction k with
 | zero=>rfl
 | succ k ih=>
  have dQ:64-k=(64-(k+1))+1:=Z8;rw [P9,ih Z8,Ce,dQ,List.replicate_succ,List.set_append,if_neg (by rw [Ld];omega),Ld,Nat.sub_self,List.set_cons_zero,List.append_assoc];rfl
theorem acM(b:List Int):E5 b 64=Un b:=by
 unfold Un;rw [ad8 b 64 Z8];simp
def afy(w2:World)(l:List Int)(v i:Value)(wr:World):Prop:=∃k:Nat,k<=64/\i=↑k/\Zx wr w2.heap.size v (E5 l k)/\Mod ↑ZW w2 wr
theorem afU(w:World)(A:Option Addr)(c:Nat)(l:List Int)(YZ:IntsIn w A 64 c l):Calls prog 243 #[.slice A 64 c] w fun e w'=>∃ob c',e=.returned ↑(ZZ ob 64 c')/\IntsIn w' (some ⟨ob,0,none⟩) 64 c' (Un l)/\w.heap.size<=ob/\Mod ↑ZW w w':=by
 obtain⟨b,off,hA,hb,hcell⟩:=YZ.place Z8;subst hA;have HC:=Z7 hcell;clear hcell YZ;go_enter func243,ntmps243;go_wp2_with fail;refine YH (ajg _) ?_;go_wp2_with fail;refine(agK _).mono ?_;rintro e w2 ⟨b2,c2,rfl,agu,Vr,Y3⟩;obtain⟨_,Iq,CB,hb2,hcell2⟩:=Vr.place Z8;injection CB with CB;injection CB with CB hA3 _;subst CB hA3;have gH:=Z5 hcell2 Y3;have akH:b<w2.heap.size:=Nat.lt_of_lt_of_le hb Y3.size;clear hcell2 Vr Y3 agu;go_wp2_with fail;go_loopw [4,5] (afy w2 l) (fun _ i _=>64-(intOf i).toNat)
 case atStart=>exact⟨0,Z8,rfl,VG _ _,Mod.refl _ _⟩
 case round=>
  obtain⟨k,hk,rfl,hown,hM⟩:=hrel;by_cases hlt:k<64
  ·have dk:=Zb ((k:Int)<64);have p0:(0:Int)<=(k:Int):=Z8;have p1:(k:Int)<64:=Z8;have k2:wr.cell? ⟨b2,k,none⟩=some (.int .i64 (JR.getD k 0)):=(ZV (hM.block b2 hb2 (fun h=>h))).trans (by have:=gH.out.1 k hlt;rwa [WW]at this);have hpl:=Mg.2 k hlt;obtain⟨pl,pz⟩:∃pl:Nat,(pl:Int)=JR.getD k 0:=⟨(JR.getD k 0).toNat,Z8⟩
   rw [<-pz]at k2 hpl;have k1:wr.cell? ⟨b,off+pl,none⟩=some (.int .i64 (l.getD pl 0)):=(ZV (hM.block b akH (fun h=>h))).trans ((ZV (gH.out.2.block b hb (fun h=>h))).trans (HC.out pl Z8));have HS:Hid (E5 l (k+1)=E5 l k++[l.getD pl 0]):=by show _=_;rw [Ce,<-pz];simp
   clear pz;generalize l.getD pl 0=v at *;have p2:(0:Int)<=(pl:Int):=Z8;have p3:(pl:Int)<64:=Z8;clear hpl;obtain⟨A3,c3,hv3⟩:=ZG hown;subst hv3;have hle:(E5 l k).length<=64:=by rw [Ld];omega
   generalize hlen:(E5 l k).length=n3 at *;have HB:=Z5 hown (Z9 hM (Z9 hM.size hlen));clear hown hM hlen;go_wp2_with (at_builtin;have _t:=HB;refine Vg _ rfl (.tmp 16) (.tmp 24) rfl w2.heap.size _ _ v rfl rfl HB.out.1 HB.out.2.2.1 (by rw [HB.out.2.2.2];omega) ?_;intro v8 w8 SC NI Pp hF;have HO:=Z5 SC (Pp w2 ↑ZW (ZY _) HB.out.2.1);clear SC NI Pp hF)
   go_roundw
   case rel=>
    refine⟨k+1,Z8,Zr,?_,HO.out.2⟩;rw [HS.out];exact HO.out.1
   case measure=>exact YD
  ·obtain rfl:k=64:=Z8;have HB:=Z5 hown hM;clear hown hM;go_wp2_with fail;go_ret;obtain⟨h9,CE⟩:=HB.out;rw [acM]at h9;obtain⟨A9,c9,xE⟩:=ZG h9;subst xE;have hl:(Un l).length=64:=Pd _ _;have YZ:=h9.RU;rw [hl]at YZ;rcases h9.2 with⟨hv,h0⟩|⟨g,cap,cur,hv,hB,_⟩
   ·rw [hl]at h0;cases h0
   ·injection hv with e1 e2 e3;subst e1;exact⟨g,c9,by rw [hl];rfl,YZ,ZQ gH.out.2.size hB,gH.out.2.trans CE⟩
def Vf(l:List Int)(q m:Int):Bool:=UE m l&&decide (0<=q/\q<=31)
theorem Gy(w:World)(A:Option Addr)(n c:Nat)(l:List Int)(q m:Int)(YZ:IntsIn w A n c l)(hn:n<=1048576)(hm:0<=m/\m<=1099511627776):
  Calls prog 240 #[.slice A n c,↑q,↑m] w fun e w'=>e=.returned (.bool (Vf l q m))/\w=w':=by
 obtain rfl:l.length=n:=YZ.1;by_cases hs:XL l.length=0
 ·have HA:Hid (Vf l q m=false):=by show _=_;unfold Vf UE;rw [hs];rfl
  have h1:((l.length:Int) != 16)=true:=by
   have:l.length≠16:=fun e=>by rw [e]at hs;cases hs
   simp;omega
  have h2:((l.length:Int) != 64)=true:=by
   have:l.length≠64:=fun e=>by rw [e]at hs;cases hs
   simp;omega
  clear hs;go_enter func240,ntmps240;go_wp2_with fail;go_ret;exact⟨by rw [HA.out];rfl,rfl⟩
 ·have hsc:=Jp hs;have h0:0<l.length:=Z8;obtain⟨b,off,rfl,_,hc⟩:=YZ.place h0;have HC:=Z7 hc;have HS:=Z7 hs;have hl:l.length=16\/l.length=64:=Z8;have g1:((l.length:Int) != 16)=true/\((l.length:Int) != 64)=false\/((l.length:Int) != 16)=false:=by
   rcases hl with e|e
   ·right;rw [e];rfl
   ·left;rw [e];exact⟨rfl,rfl⟩
  have Fw:l.length<=64:=Z8;clear YZ hc hs hsc hl;by_cases hq:0<=q/\q<=31
  ·obtain⟨q1,q2⟩:=hq;rcases g1 with⟨g1,g2⟩|g1
   all_goals
    go_enter func240,ntmps240;go_wp2_with fail;go_loop [7] (fun i=>∃k:Nat,k<=l.length/\i=↑k/\∀j<k,Oa m (l.getD j 0)=true) (fun i=>l.length-(intOf i).toNat)
    case atStart=>exact⟨0,Z8,rfl,fun j hj=>by omega⟩
    case round=>
     obtain⟨k,hk,rfl,hall⟩:=hrel;have HL:=Z7 hall;clear hall;by_cases hlt:k<l.length
     ·have M9:=HC.out k hlt;have i1:(0:Int)<=(k:Int):=Z8;have i2:(k:Int)<(l.length:Int):=Z8;by_cases hv:-m<=l.getD k 0/\l.getD k 0<=m
      ·have HV:Hid (Oa m (l.getD k 0)=true):=decide_eq_true hv;obtain⟨x,hx⟩:=ZL (l.getD k 0);rw [<-hx]at M9 hv;clear hx;obtain⟨v1,v2⟩:=hv;go_wp2_with fail;go_round
       case rel=>exact⟨k+1,Z8,Zr,fun j hj=>by
        by_cases e:j=k
        ·subst e;exact HV.out
        ·exact HL.out j Z8⟩
       case measure=>exact YD
      ·have HA:Hid (Vf l q m=false):=by show _=_;unfold Vf;rw [yQ k hlt (decide_eq_false hv)];rfl
       generalize l.getD k 0=x at *;have hv':x < -m\/m<x:=Z8;clear hv;rcases hv' with hv|hv
       all_goals
        go_wp2_with fail;go_ret;exact⟨by rw [HA.out];rfl,rfl⟩
     ·have HA:Hid (Vf l q m=true):=by show _=_;unfold Vf;rw [MH HS.out (fun j hj=>HL.out j Z8),decide_eq_true (show 0<=q/\q<=31 from⟨q1,q2⟩)];rfl
      go_wp2_with fail;go_ret;exact⟨by rw [HA.out];rfl,rfl⟩
  ·have HA:Hid (Vf l q m=false):=by show _=_;unfold Vf;rw [decide_eq_false hq,Bool.and_false]
   have hq':q<0\/31<q:=Z8;clear hq;rcases g1 with⟨g1,g2⟩|g1<;>rcases hq' with hq|hq
   all_goals
    go_enter func240,ntmps240;go_wp2_with fail;go_ret;exact⟨by rw [HA.out];rfl,rfl⟩
theorem IY.free{w:World}{bk g ob:Nat}{v:Value}{s:Es}(h:IY w bk g v s)(ho:w.heap.size<=ob):¬(ob=g\/ob=bk\/v.ownBlock=some ob):=by
 have q1:=h.enc.blk.lt;have q2:=h.Ju.lt;rintro(e|e|e)
 ·omega
 ·omega
 ·obtain⟨_,cs,hb⟩:=Kc h.enc.own e;have:=hb.lt;omega
def kL(w1:World)(bk g:Nat)(v:Value)(L:List Int)(t n:Nat)(tg:Es)(v13:Value)(wr:World):Prop:=
 ∃(i:Nat) (s:Es) (v1:Value),i<=n/\v13=↑i/\IY wr bk g v1 s/\KA (t+1) ((L.take n).drop i) s=tg/\s.code.length+42*(n-i)+43<=1048576 /\
  (∀j,v1.ownBlock=some j->v.ownBlock=some j\/w1.heap.size<=j)/\Mod (fun j=>j=g\/j=bk\/v.ownBlock=some j) w1 wr
theorem ahM(w:World)(bk g:Nat)(v:Value)(s:Es)(t:Nat)(ht:t<15)(A:Option Addr)(c:Nat)(l:List Int)(YZ:IntsIn w A 64 c l)(hall:UE 1048576 l=true)(h:IY w bk g v s)(hl:s.code.length+2780<=1048576):
  Calls prog 177 #[↑(ZC bk 0),↑(ZC g 0),↑t,.slice A 64 c] w fun e w'=>e=.returned ↑Z0/\Sa w bk g v (Lj t l s) w':=by
 have nJ:Within 1048576 l:=NB Z8 hall;have p0:=Za ((t:Int)<0);have p1:=Za (14<(t:Int));have HR:Vf l 0 1048576=true:=by unfold Vf;rw [hall];rfl
 have OO:=Z5 YZ (Z9 h (Z9 nJ HR));clear YZ h nJ HR hall;go_enter func177,ntmps177;go_wp2_with fail;refine YH (Gy _ A 64 c l 0 1048576 OO.out.1 Z8 Z8) ?_;rw [OO.out.2.2.2];go_wp2_with fail;refine(afU _ A c l OO.out.1).mono ?_;rintro e w2 ⟨ob,c2,rfl,TY,iQ,Y3⟩;have hL:(Un l).length=64:=Pd _ _;have hLw:Within 1048576 (Un l):=Mr OO.out.2.2.1 64;have HE:Hid (Lj t l s=KA (t+1) ((Un l).take (Tq (Un l) 64)) (enum t (Tq (Un l) 64) s)):=rfl;generalize Un l=L at *;obtain⟨_,alx,CB,Dx,hcell2⟩:=TY.place Z8;injection CB with CB;injection CB with CB hA3 _;subst CB hA3;have HO:=Z5 hcell2 (Z9 hL (Z9 hLw Y3));clear TY hL hLw Y3 hcell2;go_wp2_with fail;go_loop [11,12] (fun x y=>∃i:Nat,i<=64/\x=↑(Tq L i:Nat)/\y=↑i) (fun _ y=>64-(intOf y).toNat)
 case atStart=>exact⟨0,Z8,rfl,rfl⟩
 case round=>
  obtain⟨i,hi,rfl,rfl⟩:=hrel;by_cases hlt:i<64
  ·have d1:=Zb ((i:Int)<64);have hk:=HO.out.1 i hlt;rw [WW]at hk;have k0:(0:Int)<=(i:Int):=Z8;have k1:(i:Int)<64:=Z8;obtain⟨x,hx⟩:=ZL (L.getD i 0);rw [<-hx]at hk;have HX:=Z7 hx;clear hx;by_cases hz:x=0
   ·have b1:(x != 0)=false:=by simp [hz]
    have HN:Hid (Tq L (i+1)=Tq L i):=by show _=_;rw [Tq,<-HX.out,if_pos hz]
    clear hz;go_wp2_with fail;go_round
    case rel=>exact⟨i+1,Z8,by rw [HN.out],Zr⟩
    case measure=>exact YD
   ·have b1:(x != 0)=true:=by simp [hz]
    have HN:Hid (Tq L (i+1)=i+1):=by show _=_;rw [Tq,<-HX.out,if_neg hz]
    clear hz;go_wp2_with fail;go_round
    case rel=>exact⟨i+1,Z8,by rw [HN.out];go_num,Zr⟩
    case measure=>exact YD
  ·obtain rfl:i=64:=Z8;have hn:=wH L 64;obtain⟨n,hne⟩:=ZL (Tq L 64);rw [<-hne]at hn HE ⊢;have yC:(n:Int)<=64:=Z8;clear hne;have P0:=Z7 (fQ w2 bk g v s t n Z8 Z8 (OO.out.2.1.quiet HO.out.2.2.2) Z8);go_wp2_with fail;refine P0.out.mono ?_;rintro e w3 ⟨rfl,v3,hE,hF,lL⟩;have Oc:=OO.out.2.1.free iQ;have mH:=MJ (t:=t) (x:=n) Z8 s;have HQ:Hid (kL w2 bk g v L t n (Lj t l s) ↑Z0 w3):=⟨0,_,v3,Z8,rfl,hE,by rw [HE.out];rfl,Z8,hF,lL⟩
   clear hE hF lL mH P0;go_wp2_with fail;go_loopw [13] (kL w2 bk g v L t n (Lj t l s)) (fun i _=>n-(intOf i).toNat)
   case atStart=>exact HQ.out
   case round=>
    clear HQ;rename World=>wr
    obtain⟨i,s1,v1,hi,rfl,hE,PX,hlen,hF,hM⟩:=hrel;have yD:¬(ob=g\/ob=bk\/v.ownBlock=some ob):=Oc;by_cases Pq:i<n
    ·have d2:=Zb ((i:Int)<(n:Int));have hk:=HO.out.1 i Z8;rw [WW]at hk;have hc:wr.cell? ⟨ob,i,none⟩=some (.int .i64 (L.getD i 0)):=(ZV (hM.block ob Dx yD)).trans hk;have hx:=HO.out.2.2.1 i;rw [Db _ _ _ _ _ Pq (by have:=HO.out.2.1;omega)]at PX;generalize L.getD i 0=x at *;clear hk;have i0:(0:Int)<=(i:Int):=Z8;have i1:(i:Int)<64:=Z8;have P1:=Z7 (Ed wr bk g v1 s1 (t+1) x Z8 hx hE Z8);have Fx:=Sz (t:=t+1) hx s1;have HK:=Z5 PX (Z9 hF (Z9 hM (Z9 hlen Fx)));clear hE PX hF hM hlen Fx hx yD;go_wp2_with fail;refine P1.out.mono ?_;rintro e w4 ⟨rfl,hG⟩;have HG:=Z7 (Sa.trans HK.out.2.1 HK.out.2.2.1 hG);clear hG;go_wp2_with fail;go_roundw
     case rel=>
      obtain⟨v4,hE4,qh,Gm⟩:=HG.out;exact⟨i+1,_,v4,Z8,Zr,hE4,HK.out.1,by have:=HK.out.2.2.2.1;have:=HK.out.2.2.2.2;omega,qh,Gm⟩
     case measure=>exact YD
    ·obtain rfl:i=n:=Z8;have HK:Hid (Lj t l s=s1):=by show _=_;rw [<-PX,List.drop_of_length_le (by rw [List.length_take];omega)];rfl
     have HE1:=Z5 hE (Z9 hF hM);clear PX hE hF hM hlen;go_wp2_with fail;go_ret;rw [HK.out];exact⟨rfl,v1,HE1.out.1,fun j e=>(HE1.out.2.1 j e).imp id (ZQ HO.out.2.2.2.size),(HO.out.2.2.2.mono (fun _ h=>h.elim)).trans HE1.out.2.2⟩
def tZ(bk cg:Nat)(v:Value)(j:Nat):Prop:=j=cg\/j=bk\/v.ownBlock=some j
theorem IY.off{w:World}{bk cg X:Nat}{v:Value}{s:Es}{t:TypeId}{cs:Array Value}(h:IY w bk cg v s)(hb:ZI w X t cs)(h1:t≠267)(h2:t≠271)(h3:t≠3):¬tZ bk cg v X:=by
 rintro(e|e|e)
 ·subst e;exact h.enc.blk.SL hb (fun e=>h1 e.symm) rfl
 ·subst e;exact h.Ju.SL hb (fun e=>h2 e.symm) rfl
 ·exact h.enc.own.apart hb (fun e=>h3 e) e
theorem IY.frB{w w':World}{bk cg:Nat}{v:Value}{s:Es}{B:Nat}{d:Yz}{b0 k0 b1 k1 b2 k2:Nat}{f:Yy}(h:IY w bk cg v s)(hf:MX w B d b0 k0 b1 k1 b2 k2 f)(hm:Mod (tZ bk cg v) w w'):MX w' B d b0 k0 b1 k1 b2 k2 f:=
 hf.mod hm (fun j hj=>.inr (by
  rcases hj with e|e|e
  ·subst e;exact⟨_,_,h.enc.blk,ZU⟩
  ·subst e;exact⟨_,_,h.Ju,ZU⟩
  ·obtain⟨_,cs,hb⟩:=Kc h.enc.own e;exact⟨_,cs,hb,ZU⟩))
structure Aq(wA wr:World)(bk cg:Nat)(v:Value)(s:Es)(B:Nat)(d:Yz)(e0 j0 e1 j1 e2 j2:Nat)(f:Yy):Prop where
 mod:Mod ↑ZW wA wr
 eb:IY wr bk cg v s
 nb:wA.heap.size<=bk
 ng:wA.heap.size<=cg
 nv:∀j,v.ownBlock=some j->wA.heap.size<=j
 fr:MX wr B d e0 j0 e1 j1 e2 j2 f
theorem Aq.quiet{wA wr w':World}{bk cg:Nat}{v:Value}{s:Es}{B:Nat}{d:Yz}{e0 j0 e1 j1 e2 j2:Nat}{f:Yy}(h:Aq wA wr bk cg v s B d e0 j0 e1 j1 e2 j2 f)(hm:Mod ↑ZW wr w'):Aq wA w' bk cg v s B d e0 j0 e1 j1 e2 j2 f:=
 ⟨h.mod.trans hm,h.eb.quiet hm,h.nb,h.ng,h.nv,h.fr.quiet hm⟩
theorem Aq.put{wA wr w':World}{bk cg:Nat}{v:Value}{s s':Es}{B:Nat}{d:Yz}{e0 j0 e1 j1 e2 j2:Nat}{f:Yy}(h:Aq wA wr bk cg v s B d e0 j0 e1 j1 e2 j2 f)(k:Sa wr bk cg v s' w'):
  ∃v',Aq wA w' bk cg v' s' B d e0 j0 e1 j1 e2 j2 f/\(∀j,v'.ownBlock=some j->v.ownBlock=some j\/wr.heap.size<=j)/\Mod (tZ bk cg v) wr w':=by
 obtain⟨v',h1,hF,hM⟩:=k;refine⟨v',⟨h.mod.into hM (fun j e=>?_),h1,h.nb,h.ng,fun j e=>?_,h.eb.frB h.fr hM⟩,hF,hM⟩
 ·rcases e with e|e|e
  ·subst e;exact .inr h.ng
  ·subst e;exact .inr h.nb
  ·exact .inr (h.nv j e)
 ·rcases hF j e with e|e
  ·exact h.nv j e
  ·exact ZQ h.mod.size e
theorem Aq.box{wA wr w':World}{bk cg X:Nat}{v:Value}{s:Es}{B:Nat}{d:Yz}{e0 j0 e1 j1 e2 j2:Nat}{f:Yy}{t:TypeId}{cs:Array Value}(h:Aq wA wr bk cg v s B d e0 j0 e1 j1 e2 j2 f)(hb:ZI wr X t cs)(h1:t≠267)(h2:t≠271)(h3:t≠3)(h4:t≠5)(hX:wA.heap.size<=X)(hm:Mod (·=X) wr w'):Aq wA w' bk cg v s B d e0 j0 e1 j1 e2 j2 f:=
 have off:=h.eb.off hb h1 h2 h3
 ⟨h.mod.into hm (fun j e=>.inr (by have e2:j=X:=e;omega)),
  ⟨h.eb.Ju.keep hm (fun e=>off (.inr (.inl (Eq.symm e)))),h.eb.len,h.eb.ok,
   ⟨h.eb.enc.blk.keep hm (fun e=>off (.inl (Eq.symm e))),XT h.eb.enc.own hm (fun j ej e=>off (.inr (.inr (by have e2:j=X:=e;rw [<-e2];exact ej)))),h.eb.enc.four,h.eb.enc.lo,h.eb.enc.hi⟩⟩,
  h.nb,h.ng,h.nv,h.fr.mod hm (fun j e=>.inr ⟨t,cs,by have e2:j=X:=e;rw [e2];exact hb,h4⟩)⟩
structure df(wr:World)(gb fb pb vb rb:Nat)(d:Yz)(e0 j0 e1 j1 e2 j2:Nat)(fv:Array Value)(X Y:Nat)(vx vy:Int):Prop where
 g_:ZI wr gb 58 (V9 d e0 j0 e1 j1 e2 j2).toArray
 f_:ZI wr fb 58 fv
 p_:ZI wr pb 282 (plL X Y).toArray
 v_:ZI wr vb 273 #[↑vx,↑vy]
 r_:ZI wr rb 58 Q3.toArray
theorem df.quiet{wr w':World}{gb fb pb vb rb:Nat}{d:Yz}{e0 j0 e1 j1 e2 j2:Nat}{fv:Array Value}{X Y:Nat}{vx vy:Int}(h:df wr gb fb pb vb rb d e0 j0 e1 j1 e2 j2 fv X Y vx vy)(hm:Mod ↑ZW wr w'):df w' gb fb pb vb rb d e0 j0 e1 j1 e2 j2 fv X Y vx vy:=
 ⟨h.g_.keep hm (fun h=>h),h.f_.keep hm (fun h=>h),h.p_.keep hm (fun h=>h),h.v_.keep hm (fun h=>h),h.r_.keep hm (fun h=>h)⟩
theorem df.put{wr w':World}{bk cg:Nat}{v:Value}{s:Es}{gb fb pb vb rb:Nat}{d:Yz}{e0 j0 e1 j1 e2 j2:Nat}{fv:Array Value}{X Y:Nat}{vx vy:Int}(h:df wr gb fb pb vb rb d e0 j0 e1 j1 e2 j2 fv X Y vx vy)(he:IY wr bk cg v s)(hm:Mod (tZ bk cg v) wr w'):df w' gb fb pb vb rb d e0 j0 e1 j1 e2 j2 fv X Y vx vy:=
 ⟨h.g_.keep hm (he.off h.g_ ZU ZU ZU),h.f_.keep hm (he.off h.f_ ZU ZU ZU),h.p_.keep hm (he.off h.p_ ZU ZU ZU),h.v_.keep hm (he.off h.v_ ZU ZU ZU),h.r_.keep hm (he.off h.r_ ZU ZU ZU)⟩
theorem Mi{w:World}{pb x y i:Nat}(h:ZI w pb 282 (plL x y).toArray)(hi:i<6):w.cell? ⟨pb,i*3,none⟩=some ↑(U5 i)/\w.cell? ⟨pb,i*3+1,none⟩=some ↑(QO x i)/\w.cell? ⟨pb,i*3+2,none⟩=some ↑(QP y i):=by
 have h6:i=0\/i=1\/i=2\/i=3\/i=4\/i=5:=Z8;rcases h6 with rfl|rfl|rfl|rfl|rfl|rfl<;>exact⟨h.cell _,h.cell _,h.cell _⟩
theorem Bytes.bT{w w':World}{bk cg B:Nat}{v vv:Value}{s:Es}{l:List UInt8}(h:Bytes w B vv l)(he:IY w bk cg v s)(hm:Mod (tZ bk cg v) w w'):Bytes w' B vv l:=h.mod hm (fun j e hj=>by
 rcases hj with hj|hj|hj
 ·subst hj;exact h.apart he.enc.blk ZU e
 ·subst hj;exact h.apart he.Ju ZU e
 ·obtain⟨_,cs,hb⟩:=Kc he.enc.own hj;exact h.apart hb ZU e)
theorem IntsIn.bT{w w1 w':World}{bk cg ob n c:Nat}{v:Value}{s:Es}{l:List Int}(h:IntsIn w (some ↑ob) n c l)(he:IY w1 bk cg v s)(ho:w1.heap.size<=ob)(hm:Mod (tZ bk cg v) w w'):IntsIn w' (some ↑ob) n c l:=h.mod hm (fun _ ad e hj=>by
 injection e with e;subst e;rcases hj with hj|hj|hj
 ·have h1:=he.enc.blk.lt;have h2:ob=cg:=hj;omega
 ·have h1:=he.Ju.lt;have h2:ob=bk:=hj;omega
 ·have:=(World.ownsRow.lt he.enc.own _ hj).2;have h2:ob<w1.heap.size:=this;omega)
structure kR(g gb fb pb vb:Nat)(rv gv fv:Array Value)(X Y:Nat)(vx vy:Int)(wr:World):Prop where
 x_:ZI wr g 193 rv
 g_:ZI wr gb 58 gv
 f_:ZI wr fb 58 fv
 p_:ZI wr pb 282 (plL X Y).toArray
 v_:ZI wr vb 273 #[↑vx,↑vy]
theorem kR.quiet{g gb fb pb vb:Nat}{rv gv fv:Array Value}{X Y:Nat}{vx vy:Int}{wr w':World}(h:kR g gb fb pb vb rv gv fv X Y vx vy wr)(hm:Mod ↑ZW wr w'):kR g gb fb pb vb rv gv fv X Y vx vy w':=
 ⟨h.x_.keep hm (fun h=>h),h.g_.keep hm (fun h=>h),h.f_.keep hm (fun h=>h),h.p_.keep hm (fun h=>h),h.v_.keep hm (fun h=>h)⟩
structure vD(wA w wr:World)(g:Nat)(rv:Array Value)(bk cg:Nat)(v v':Value)(s:Es)(B:Nat)(d:Yz)(e0 j0 e1 j1 e2 j2:Nat)(f:Yy)(gb fb pb vb rb:Nat)(fv:Array Value)(X Y:Nat)(vx vy:Int):Prop where
 sq:Aq wA wr bk cg v' s B d e0 j0 e1 j1 e2 j2 f
 bx:df wr gb fb pb vb rb d e0 j0 e1 j1 e2 j2 fv X Y vx vy
 fr:∀j,v'.ownBlock=some j->v.ownBlock=some j\/w.heap.size<=j
 mod:Mod (tZ bk cg v) w wr
 x:ZI wr g 193 rv
section
variable {wA w wr w' : World} {g : Nat} {rv : Array Value} {bk cg : Nat} {v v' : Value} {s s' : Es} {B : Nat} {d : Yz} {e0 j0 e1 j1 e2 j2 : Nat} {f : Yy} {gb fb pb vb rb : Nat} {fv : Array Value} {X Y : Nat} {vx vy : Int}
theorem vD.quiet(h:vD wA w wr g rv bk cg v v' s B d e0 j0 e1 j1 e2 j2 f gb fb pb vb rb fv X Y vx vy)(hm:Mod ↑ZW wr w'):vD wA w w' g rv bk cg v v' s B d e0 j0 e1 j1 e2 j2 f gb fb pb vb rb fv X Y vx vy:=
 ⟨h.sq.quiet hm,h.bx.quiet hm,h.fr,h.mod.trans (hm.mono (fun _ h=>h.elim)),h.x.keep hm (fun h=>h)⟩
theorem vD.drew(h:vD wA w wr g rv bk cg v v' s B d e0 j0 e1 j1 e2 j2 f gb fb pb vb rb fv X Y vx vy):vD wA w wr.drew g rv bk cg v v' s B d e0 j0 e1 j1 e2 j2 f gb fb pb vb rb fv X Y vx vy:=h.quiet ((Mod.refl _ _).drew)
theorem vD.vs(h:vD wA w wr g rv bk cg v v' s B d e0 j0 e1 j1 e2 j2 f gb fb pb vb rb fv X Y vx vy):kR g gb fb pb vb rv (V9 d e0 j0 e1 j1 e2 j2).toArray fv X Y vx vy wr:=⟨h.x,h.bx.g_,h.bx.f_,h.bx.p_,h.bx.v_⟩
theorem vD.put(h:vD wA w wr g rv bk cg v v' s B d e0 j0 e1 j1 e2 j2 f gb fb pb vb rb fv X Y vx vy)(k:Sa wr bk cg v' s' w'):
  ∃v2,vD wA w w' g rv bk cg v v2 s' B d e0 j0 e1 j1 e2 j2 f gb fb pb vb rb fv X Y vx vy/\Mod (tZ bk cg v') wr w':=by
 obtain⟨v2,h1,hF,hM⟩:=h.sq.put k;refine⟨v2,⟨h1,h.bx.put h.sq.eb hM,fun j e=>?_,h.mod.into hM (fun j e=>?_),h.x.keep hM (h.sq.eb.off h.x ZU ZU ZU)⟩,hM⟩
 ·rcases hF j e with e|e
  ·exact h.fr j e
  ·exact .inr (ZQ h.mod.size e)
 ·rcases e with e|e|e
  ·exact .inl (.inl e)
  ·exact .inl (.inr (.inl e))
  ·rcases h.fr j e with e|e
   ·exact .inl (.inr (.inr e))
   ·exact .inr e
theorem vD.lay(h:vD wA w wr g rv bk cg v v' s B d e0 j0 e1 j1 e2 j2 f gb fb pb vb rb fv X Y vx vy)(hw:wA.heap.size<=gb)(hg:w.heap.size<=gb)(n1:fb≠gb)(n2:rb≠gb){q0 r0 q1 r1 q2 r2:Nat}{f':Yy}(hf:MX wr B d q0 r0 q1 r1 q2 r2 f'):
  vD wA w ((((((((((wr).setCell ↑gb ↑d.W).setCell ⟨gb,1,none⟩ ↑d.H).setCell ⟨gb,2,none⟩ ↑(ZZ q0 d.nY r0)).setCell ⟨gb,3,none⟩ ↑d.W2).setCell ⟨gb,4,none⟩ ↑d.H2).setCell ⟨gb,5,none⟩ ↑(ZZ q1 d.nC r1)).setCell ⟨gb,6,none⟩ ↑d.W2).setCell ⟨gb,7,none⟩ ↑d.H2).setCell ⟨gb,8,none⟩ ↑(ZZ q2 d.nC r2)) g rv bk cg v v' s B d q0 r0 q1 r1 q2 r2 f' gb fb pb vb rb fv X Y vx vy:=by
 have hz:ZI wr gb 58 #[↑d.W,↑d.H,↑(ZZ e0 d.nY j0),↑d.W2,↑d.H2,↑(ZZ e1 d.nC j1),↑d.W2,↑d.H2,↑(ZZ e2 d.nC j2)]:=h.bx.g_;have hp:=J5 hz ↑d.W ↑d.H ↑(ZZ q0 d.nY r0) ↑d.W2 ↑d.H2 ↑(ZZ q1 d.nC r1) ↑d.W2 ↑d.H2 ↑(ZZ q2 d.nC r2);have kz:∀j,j=gb->wr.heap.size<=j\/∃t cs,ZI wr j t cs/\t≠5:=fun j e=>.inr ⟨58,_,e▸hz,ZU⟩;have hb:=h.sq.box h.bx.g_ ZU ZU ZU ZU hw hp.2
 exact⟨⟨hb.mod,hb.eb,hb.nb,hb.ng,hb.nv,hf.mod hp.2 kz⟩,
  ⟨hp.1,h.bx.f_.keep hp.2 n1,h.bx.p_.keep hp.2 (fun e=>h.bx.p_.SL h.bx.g_ ZU e),h.bx.v_.keep hp.2 (fun e=>h.bx.v_.SL h.bx.g_ ZU e),h.bx.r_.keep hp.2 n2⟩,
  h.fr,h.mod.into hp.2 (fun j e=>.inr (by have e2:j=gb:=e;omega)),h.x.keep hp.2 (fun e=>h.x.SL h.bx.g_ ZU e)⟩
end
theorem MX.low{w:World}{B:Nat}{d:Yz}{b0 k0 b1 k1 b2 k2:Nat}{f:Yy}(h:MX w B d b0 k0 b1 k1 b2 k2 f):B<=w.heap.size:=by
 have h1:B<=b0/\b0<w.heap.size:=World.ownsRow.lt h.y b0 rfl;omega
theorem ae5(d:Yz)(fr Y7:Yy)(Q:Int)(pl x y:Nat)(vx vy:Int)(f:Yy)(s:Es):PU d fr Y7 0 Q pl x y vx vy f s=(f.set pl (Uw (d.T9 pl) x y (QE (d.T9 pl) (d.MN pl) (Y7.get pl) x y pl vx vy) (f.get pl) 8),s):=rfl
def lh(d:Yz)(b gs:List UInt8)(Q:Int)(pl x y:Nat)(f:Yy)(s:Es):Yy × Es:=(f.set pl (Uw (d.T9 pl) x y (Qu gs (RA b gs Q) Q) (f.get pl) 8),Lj (if 0<pl then 4 else 2) (RA b gs Q) s)
theorem ae4(d:Yz)(fr Y7:Yy)(Q:Int)(pl x y:Nat)(vx vy:Int)(f:Yy)(s:Es):PU d fr Y7 1 Q pl x y vx vy f s=lh d (Pv (d.T9 pl) (fr.get pl) x y 8) (QE (d.T9 pl) (d.MN pl) (Y7.get pl) x y pl vx vy) Q pl x y f s:=rfl
theorem ae3(d:Yz)(fr Y7:Yy)(Q:Int)(pl x y:Nat)(vx vy:Int)(f:Yy)(s:Es):PU d fr Y7 2 Q pl x y vx vy f s=lh d (Pv (d.T9 pl) (fr.get pl) x y 8) (TQ (d.T9 pl) (f.get pl) x y (QS (d.T9 pl) (f.get pl) x y (Pv (d.T9 pl) (fr.get pl) x y 8))) Q pl x y f (Qv 0 (QS (d.T9 pl) (f.get pl) x y (Pv (d.T9 pl) (fr.get pl) x y 8)) 2 0 0 s):=rfl
theorem acD(b g:List UInt8)(hb:b.length=64)(k:Nat)(hk:k<=64):LD (Ve b g) k=UZ g b k:=by
 induction k with
 | zero=>rfl
 | succ k ih=>
  have e:(Ve b g).getD k 0=((b.getD k 0).toNat:Int)-((g.getD k 0).toNat:Int):=by
   rw [<-Cb];unfold MQ;rw [Z6,List.getElem?_map,List.getElem?_range Z8];rfl
  rw [LD,UZ,ih Z8,e];omega
theorem FD(W:Nat)(ZJ:List UInt8)(x y:Nat)(b:List UInt8)(hb:b.length=64)(m:Nat):UZ (TQ W ZJ x y m) b 64=Rs W ZJ x y b m:=(acD b _ hb 64 (ZY _)).symm
theorem adN(W:Nat)(ZJ:List UInt8)(x y:Nat)(b:List UInt8)(k:Nat)(h:0<k):(Qr W ZJ x y b k).2=Rs W ZJ x y b (Qr W ZJ x y b k).1:=by
 induction k with
 | zero=>omega
 | succ k ih=>
  unfold Qr;split
  ·rfl
  ·exact ih Z8
def ry(B:Nat)(l:List UInt8)(k:Nat)(v16:Value)(wr:World):Prop:=0<k->∃A c,v16=.slice A 64 c/\Bytes wr B (.slice A 64 c) l
theorem ry.quiet{wr wr':World}{B:Nat}{l:List UInt8}{k:Nat}{v16:Value}(h:ry B l k v16 wr)(hm:Mod ↑ZW wr wr'):ry B l k v16 wr':=fun h0=>by
 obtain⟨A,c,h1,h2⟩:=h h0;exact⟨A,c,h1,h2.quiet hm⟩
def ajI(w:World)(pb W:Nat)(pv:Array Value)(ZJ:List UInt8)(x y:Nat)(b:List UInt8)(v15 v16 v17:Value)(wr:World):Prop:=
 ∃k:Nat,k<=4/\v17=↑k/\v15=↑((Qr W ZJ x y b k).1)/\Sat ↑ZW w wr [⟨pb,56,pv⟩] []/\ry w.heap.size (TQ W ZJ x y (Qr W ZJ x y b k).1) k v16 wr
def kP(w:World)(W:Nat)(ZJ:List UInt8)(x y:Nat)(b:List UInt8)(e:Ending)(w':World):Prop:=
 ∃A c,e=.returned (.tuple #[↑(QS W ZJ x y b:Nat),.slice A 64 c,↑Z0])/\Bytes w' w.heap.size (.slice A 64 c) (TQ W ZJ x y (QS W ZJ x y b))/\Mod ↑ZW w w'
theorem ac0(w:World)(W H:Nat)(A:Option Addr)(n c:Nat)(ZJ:List UInt8)(h:Yx W H=true)(hn:n=W*H)(YZ:BytesIn w A n c ZJ)(x y:Nat)(hx:x+8<=W)(hy:y+8<=H)
  (A2:Option Addr)(c2:Nat)(b:List UInt8)(hb:BytesIn w A2 64 c2 b):
  Calls prog 172 #[.agg #[↑W,↑H,.slice A n c],↑x,↑y,.int .i64 8,.slice A2 64 c2] w (kP w W ZJ x y b):=by
 have HI:=Z5 h (Z9 hn (Z9 YZ hb));have h0:=((Sat.nil ↑ZW w).alloc 56 #[↑W,↑H,.slice A n c] rfl)
 have H0:=Z7 h0;clear h hn YZ hb h0;go_enter func172,ntmps172;go_upto_region 1 with(fail)
 generalize w.alloc (.cells #[↑W,↑H,.slice A n c] 56)=w0 at *;obtain⟨pc,pf⟩:=(H0.out.ZX 0 rfl).both;dsimp only at pc;have G0:=Z7 (ll w0 W H A n c ZJ HI.out.1 HI.out.2.1 (HI.out.2.2.1.quiet H0.out.mod) x y 0 hx hy Z8);go_wp2_with fail;refine G0.out.mono ?_;rintro e w1 ⟨v1,rfl,hb1,Y6⟩;have HS:=Z7 (Sat.after Y6 H0.out);clear Y6 hb1 H0 G0 pc pf;go_wp2_with fail;go_loopw [15,16,17] (ajI w w.heap.size W #[↑W,↑H,.slice A n c] ZJ x y b) (fun _ _ k _=>4-(intOf k).toNat)
 case atStart=>exact⟨0,Z8,rfl,rfl,HS.out,fun h=>absurd h Z8⟩
 case round=>
  clear HS;rename World=>wr
  obtain⟨k,hk,rfl,rfl,hs,hg⟩:=hrel;by_cases hlt:k<4
  ·have d1:=Zb ((k:Int)<4);obtain⟨pc,pf⟩:=(hs.ZX 0 rfl).both;dsimp only at pc;have HK:=Z5 hs hg;clear hs hg;have G1:=Z7 (ll wr W H A n c ZJ HI.out.1 HI.out.2.1 (HI.out.2.2.1.quiet HK.out.1.mod) x y k hx hy hlt);go_wp2_with fail;refine G1.out.mono ?_;rintro e w2 ⟨v2,rfl,hb2,Y3⟩;obtain⟨A5,c5,hv5⟩:=ZG hb2;subst hv5;rw [Qh]at hb2 ⊢;have hs2:=Sat.after Y3 HK.out.1;have hold:=HK.out.2.quiet Y3;have IV:=Z5 hs2 (Z9 (hb2.down HK.out.1.mod.size) hold);clear Y3 hs2 hold hb2 HK G1 pc pf;have hC:Hid (Qr W ZJ x y b (k+1)=if k=0\/Rs W ZJ x y b k<(Qr W ZJ x y b k).2 then(k,Rs W ZJ x y b k)else Qr W ZJ x y b k):=rfl;by_cases KQ:k=0
   ·subst KQ;have vF:=Z7 (hC.out.trans (if_pos (.inl rfl)));go_wp2_with fail;go_roundw
    case rel=>exact⟨1,Z8,rfl,by rw [vF.out];rfl,IV.out.1,fun _=>⟨A5,c5,rfl,by rw [vF.out];exact IV.out.2.1⟩⟩
    case measure=>simp [intOf]
   ·have d2:((k:Int) == 0)=false:=by simp;omega
    obtain⟨A6,c6,rfl,h6⟩:=IV.out.2.2 Z8;have rZ:=FD W ZJ x y b HI.out.2.2.2.1 k;have hF2:=FD W ZJ x y b HI.out.2.2.2.1 (Qr W ZJ x y b k).1;rw [<-adN W ZJ x y b k Z8]at hF2;have F1:=fun m=>yf (w2.drewN m) A5 64 c5 _ A2 c2 b (IV.out.2.1.RU.quiet (Mod.drewN (Mod.refl _ _) m)) ((HI.out.2.2.2.quiet IV.out.1.mod).quiet (Mod.drewN (Mod.refl _ _) m)) Z8 Z8;have F2:=fun m=>yf (w2.drewN m) A6 64 c6 _ A2 c2 b (h6.RU.quiet (Mod.drewN (Mod.refl _ _) m)) ((HI.out.2.2.2.quiet IV.out.1.mod).quiet (Mod.drewN (Mod.refl _ _) m)) Z8 Z8;rw [rZ]at F1;rw [hF2]at F2;have HF1:=Z7 (F1 0);have HF2:=Z7 F2;clear rZ hF2 F1 F2 h6;generalize Rs W ZJ x y b k=F at *;generalize hq:(Qr W ZJ x y b k).2=q at *;generalize hp:(Qr W ZJ x y b k).1=p at *;have HQ:=Z5 hq hp;clear hq hp;by_cases hFq:F<q
    ·have vF:=Z7 (hC.out.trans (if_pos (.inr hFq)));have d3:=Zb ((F:Int)<(q:Int));go_wp2_with fail;refine HF1.out.mono ?_;rintro e w3 ⟨rfl,m3,rfl⟩;go_wp2_with fail;refine(HF2.out _).mono ?_;rintro e w4 ⟨rfl,m4,rfl⟩;go_wp2_with fail;go_roundw
     case rel=>exact⟨k+1,Z8,Zr,by rw [vF.out],IV.out.1.drewN _,fun _=>⟨A5,c5,rfl,by rw [vF.out];exact IV.out.2.1⟩⟩
     case measure=>exact YD
    ·have vF:=Z7 (hC.out.trans Xb);have d3:=Za ((F:Int)<(q:Int));go_wp2_with fail;refine HF1.out.mono ?_;rintro e w3 ⟨rfl,m3,rfl⟩;go_wp2_with fail;refine(HF2.out _).mono ?_;rintro e w4 ⟨rfl,m4,rfl⟩;go_wp2_with fail;go_roundw
     case rel=>
      refine⟨k+1,Z8,Zr,by rw [vF.out,HQ.out.2],IV.out.1.drewN _,?_⟩;rw [vF.out,HQ.out.2];exact fun _=>IV.out.2.2 Z8
     case measure=>exact YD
  ·obtain rfl:k=4:=Z8;have HM:Hid (QS W ZJ x y b=(Qr W ZJ x y b 4).1):=rfl;obtain⟨A6,c6,rfl,hb⟩:=hg Z8;rw [<-HM.out]at hb ⊢;have HB:=Z5 hb hs;clear hb hs hg;have xy:=JY W ZJ x y b;go_wp2_with fail
   go_ret3
   exact⟨A6,c6,rfl,HB.out.1,HB.out.2.mod⟩
theorem gm(w:World)(n:Nat)(h:XL n≠0):Calls prog 241 #[↑n] w fun e w'=>e=.returned ↑(XL n:Nat)/\w=w':=by
 unfold XL at *;by_cases h1:n=16
 ·subst h1;go_enter func241,ntmps241;go_wp2_with fail;go_ret;exact⟨rfl,rfl⟩
 ·by_cases h2:n=64
  ·subst h2;go_enter func241,ntmps241;go_wp2_with fail;go_ret;exact⟨rfl,rfl⟩
  ·simp [h1,h2]at h
def KE(l:List Int)(q:Int)(k:Nat):List Int:=(Zz k).map (Qx l q)
theorem aa6(l:List Int)(q:Int)(k:Nat):KE l q (k+1)=KE l q k++[Qx l q k]:=by simp [KE,Y9]
theorem Qf(l:List Int)(q:Int)(k:Nat):(KE l q k).length=k:=by simp [KE]
def adS(w:World)(l:List Int)(q:Int)(v i:Value)(wr:World):Prop:=
 ∃k:Nat,k<=l.length/\i=↑k/\Zx wr w.heap.size v (KE l q k)/\Mod ↑ZW w wr
theorem FJ(w:World)(q x y:Int)(h:Wn q x y=true)(n:Nat):Calls prog 222 #[↑q,↑x,↑y] (w.drewN n) fun e w'=>e=.returned (.tuple #[.int .i64 (stepOf q x y),↑Z0])/\w'=w.drewN n:=(Cc _ q x y h).mono fun _ _ ⟨a,b⟩=>⟨a,b.symm⟩
theorem abH{l:List Int}{q:Int}(hr:Vf l q 67108864=true):(Vf (S9 l q) q 67108864=true->QV l q=some (S9 l q))/\(Vf (S9 l q) q 67108864=false->QV l q=none):=by
 unfold Vf at *;rw [ZT,decide_eq_true_eq]at hr;have hlen:(S9 l q).length=l.length:=by simp [S9]
 have hs:XL l.length≠0:=by
  have:=hr.1;unfold UE at this;rw [ZT,decide_eq_true_eq]at this;exact this.1
 constructor
 ·intro h;rw [ZT]at h;have h1:=h.1;unfold UE at h1;rw [ZT,YM]at h1;unfold QV;rw [if_pos ⟨hr.1,hr.2,fun i hi=>h1.2 _ (List.mem_map.2 ⟨i,List.mem_range.2 hi,rfl⟩)⟩]
 ·intro h;unfold QV;rw [if_neg];rintro⟨_,_,h3⟩
  have:UE 67108864 (S9 l q)=true:=MH (by rw [hlen];exact hs) (fun j hj=>by
   rw [hlen]at hj;have:=h3 j hj;simpa [S9,Z6,hj]using this)
  rw [this]at h;simp at h;have:=hr.2;omega
theorem ahO(w:World)(A:Option Addr)(n c:Nat)(l:List Int)(q:Int)(YZ:IntsIn w A n c l)(hn:n<=1048576):
  Calls prog 244 #[.slice A n c,↑q] w (CL w l q):=by
 obtain rfl:l.length=n:=YZ.1;have OO:=Z7 YZ;cases hr:Vf l q 67108864 with
 | false=>
  have HQ:Hid (QV l q=none):=by
   show _=_;unfold QV;rw [if_neg];rintro⟨h1,h2,_⟩;unfold Vf at hr;rw [h1]at hr;simp at hr;omega
  have HR:=Z7 hr;clear hr YZ;go_enter func244,ntmps244;go_wp2_with fail;refine YH (Gy _ A l.length c l q 67108864 OO.out Z8 Z8) ?_;rw [HR.out];go_wp2_with fail;go_ret2;exact⟨Mod.refl _ _,.inl ⟨HQ.out,rfl⟩⟩
 | true=>
  have HF:=Z7 (abH hr);have Lp:=hr;unfold Vf at Lp;rw [ZT,decide_eq_true_eq]at Lp;obtain⟨hall,hq⟩:=Lp;unfold UE at hall;rw [ZT,decide_eq_true_eq,YM]at hall;obtain⟨hside,hall⟩:=hall;have yL:=Z5 hside hall;have hl0:0<l.length:=by
   rcases Wz l.length with h|h
   ·rw [h]at hside;exact absurd rfl hside
   ·exact h
  have HR:=Z7 hr;clear hr hall;obtain⟨b,off,hA,hb,hc⟩:=YZ.place hl0;subst hA;have HC:=Z7 hc;clear hc YZ;go_enter func244,ntmps244;go_wp2_with fail;refine YH (Gy _ _ l.length c l q 67108864 OO.out Z8 Z8) ?_;rw [HR.out];go_wp2_with fail;refine YH (gm _ l.length hside) ?_;obtain⟨s,hs⟩:=ZL (XL l.length);rw [<-hs]at hside ⊢;have sI:s=4/\l.length=16\/s=8/\l.length=64:=by
   unfold XL at hs;split at hs
   ·exact .inl ⟨hs,WL⟩
   ·split at hs
    ·exact .inr ⟨hs,WL⟩
    ·omega
  have PH:1<=s/\s<=8/\l.length=s*s:=by rcases sI with⟨h1,h2⟩|⟨h1,h2⟩<;>subst h1<;>omega
  obtain⟨hs1,hs2,hs3⟩:=PH;have HS:=Z5 hs hs3;clear hs hs3 sI hside;go_wp2_with fail;go_loopw [8,9] (adS w l q) (fun _ i _=>l.length-(intOf i).toNat)
  case atStart=>exact⟨0,Z8,rfl,VG _ _,Mod.refl _ _⟩
  case round=>
   obtain⟨k,hk,rfl,hrow,hM⟩:=hrel;by_cases hlt:k<l.length
   ·have M9:wr.cell? ⟨b,off+k,none⟩=some (.int .i64 (l.getD k 0)):=(ZV (hM.block b hb (fun h=>h))).trans (HC.out k hlt);have Jj:Oa 67108864 (l.getD k 0)=true:=yL.out.2 _ (by rw [Z6,ZP hlt];exact Xo hlt);have Og:Hid (Qx l q k=l.getD k 0*stepOf q ((k % s:Nat):Int) ((k/s:Nat):Int)):=by show _=_;unfold Qx;rw [<-HS.out.1]
    generalize jb:l.getD k 0=v at *;clear jb;unfold Oa at Jj;simp only [decide_eq_true_eq]at Jj;obtain⟨v1,v2⟩:=Jj;have i1:(0:Int)<=(k:Int):=Z8;have i2:(k:Int)<(l.length:Int):=Z8;obtain⟨kx,MB⟩:=ZL (k % s);obtain⟨ky,MC⟩:=ZL (k/s);have iK:kx<s:=by rw [MB];exact VV _ Z8
    have yz:ky<s:=by rw [MC];exact UB (by rw [<-HS.out.2];exact hlt)
    have t1:((k:Int).tmod (s:Int))=(kx:Int):=by rw [Zu Z8,MB];exact(VT k s).symm
    have t2:((k:Int).tdiv (s:Int))=(ky:Int):=by rw [ZK Z8,MC];exact(Xz k s).symm
    have t3:((k:Int) % (s:Int))=(kx:Int):=by rw [MB];exact(VT k s).symm
    have t4:((k:Int)/(s:Int))=(ky:Int):=by rw [MC];exact(Xz k s).symm
    have hs0:((s:Int) == 0)=false:=beq_eq_false_iff_ne.2 Z8;rw [<-MB,<-MC]at Og;have HT:=Z5 t1 (Z9 t2 (Z9 t3 t4));clear MB MC t1 t2 t3 t4;have O1:Wn q (kx:Int) (ky:Int)=true:=by unfold Wn;rw [decide_eq_true_eq];omega
    obtain⟨A5,c5,hv5⟩:=ZG hrow;subst hv5;rw [Qf];have HB:=Z5 hrow hM;clear hrow hM;go_upto_region 9 with(fail)
    obtain⟨t1,t2,t3,t4⟩:=HT.out;go_quiet ((go_at_call 222;exact Calls.quiet_of_same (FJ _ q kx ky O1 _)))
    clear t1 t2 t3 t4;have LG:=Mw q kx ky O1;obtain⟨_,st1,st2,_⟩:=LG;obtain⟨st,hst⟩:=ZL (stepOf q kx ky);rw [<-hst]at st1 st2 Og ⊢;clear hst O1 HT;have J6:=nW v st v1 v2 st1 st2;have Lm:(wr.drewN nq).cell? ⟨b,off+k,none⟩=some ↑v:=M9;have hrow2:Zx (wr.drewN nq) w.heap.size (.slice A5 k c5) (KE l q k):=by
     have:=XT HB.out.1 ((Mod.refl ↑ZW wr).drewN nq) (fun _ _ h=>h);rw [Qf]at this;unfold Zx;rw [Qf];exact this
    have RZ:=HB.out.2.drewN nq;have GM:=Z5 hrow2 (Z9 RZ (RZ.size));clear hrow2 RZ M9 HB;generalize wr.drewN nq=w5 at *;go_wp2_with (at_builtin;have _t:=GM;refine Vg _ rfl _ _ rfl w.heap.size (.slice A5 k c5) (KE l q k) (v*st) rfl rfl GM.out.1 GM.out.2.2 (by rw [Qf];omega) ?_;intro v6 w6 PW _ Bh _;have HO:=Z5 PW (Bh w ↑ZW (ZY _) GM.out.2.1);clear PW Bh)
    go_roundw
    case rel=>
     refine⟨k+1,Z8,Zr,?_,HO.out.2⟩;rw [aa6,Og.out];exact HO.out.1
    case measure=>exact YD
   ·obtain rfl:k=l.length:=Z8;have hrow':Zx wr w.heap.size _ (S9 l q):=hrow;obtain⟨A5,c5,hv5⟩:=ZG hrow';subst hv5;have hlen:(S9 l q).length=l.length:=by simp [S9]
    rw [hlen];have KP:=hrow'.RU;rw [hlen]at KP;have HB:=Z5 hrow' (Z9 hM (Z9 KP hlen));clear hrow hrow' hM KP hlen;cases hr2:Vf (S9 l q) q 67108864 with
    | true=>
     have Ez:=Z7 hr2;clear hr2;go_wp2_with fail;refine YH (Gy _ _ l.length c5 _ q 67108864 HB.out.2.2.1 Z8 Z8) ?_;rw [Ez.out];go_wp2_with fail;go_ret2;exact⟨HB.out.2.1,.inr ⟨_,HF.out.1 Ez.out,rfl,by have:=HB.out.1;rwa [HB.out.2.2.2]at this⟩⟩
    | false=>
     have Ez:=Z7 hr2;clear hr2;go_wp2_with fail;refine YH (Gy _ _ l.length c5 _ q 67108864 HB.out.2.2.1 Z8 Z8) ?_;rw [Ez.out];go_wp2_with fail;go_ret2;exact⟨HB.out.2.1,.inl ⟨HF.out.2 Ez.out,rfl⟩⟩
theorem afR(w:World)(v s:Int)(hs:1<=s/\s<=1048576)(hv:-1073741824<=v/\v<=1073741824):Calls prog 242 #[↑v,↑s] w fun e w'=>e=.returned (.int .i64 (Wl v s))/\w=w':=by
 obtain⟨hs1,hs2⟩:=hs;obtain⟨Gr,hv2⟩:=hv;have d0:=Za (s<1);have n0:¬s=0:=Z8;obtain⟨t,ht⟩:=ZL (s/3);have DJ:s.tdiv 3=t:=by rw [ht];exact ZK Z8
 have aQ:0<=t:=Z8;have uL:t<=1048576:=Z8;by_cases h:v<0
 ·have d1:decide (v<0)=true:=decide_eq_true h;obtain⟨q,hq⟩:=ZL ((-v+t)/s);have qC:(-v+t).tdiv s=q:=by rw [hq];exact ZK Z8
  have DC:0<=q:=by rw [hq];exact Vs Z8 Z8
  have EX:q<=2147483648:=by
   rw [hq];exact Int.le_trans (Ua _ Z8) Z8
  have w1:IntKind.i64.wrap (-v) = -v:=Z4 _ ⟨Z8,Z8⟩;have w2:IntKind.i64.wrap (-v+t) = -v+t:=Z4 _ ⟨Z8,Z8⟩;have w3:IntKind.i64.wrap q=q:=Z4 _ ⟨Z8,Z8⟩;have w4:IntKind.i64.wrap (-q) = -q:=Z4 _ ⟨Z8,Z8⟩;have HR:Hid (Wl v s = -q):=by
   show _=_;unfold Wl;rw [if_pos h,<-ht,<-hq]
  clear hq ht h;go_enter func242,ntmps242;go_wp2_with fail;go_ret;exact⟨by rw [HR.out];rfl,rfl⟩
 ·have d1:decide (v<0)=false:=decide_eq_false h;obtain⟨q,hq⟩:=ZL ((v+t)/s);have qC:(v+t).tdiv s=q:=by rw [hq];exact ZK Z8
  have DC:0<=q:=by rw [hq];exact Vs Z8 Z8
  have EX:q<=2147483648:=by
   rw [hq];exact Int.le_trans (Ua _ Z8) Z8
  have w2:IntKind.i64.wrap (v+t)=v+t:=Z4 _ ⟨Z8,Z8⟩;have w3:IntKind.i64.wrap q=q:=Z4 _ ⟨Z8,Z8⟩;have HR:Hid (Wl v s=q):=by
   show _=_;unfold Wl;rw [if_neg h,<-ht,<-hq]
  clear hq ht h;go_enter func242,ntmps242;go_wp2_with fail;go_ret;exact⟨by rw [HR.out];rfl,rfl⟩
def PQ(l:List Int)(q:Int)(k:Nat):List Int:=(Zz k).map (Uh l q)
theorem aal(l:List Int)(q:Int)(k:Nat):PQ l q (k+1)=PQ l q k++[Uh l q k]:=by simp [PQ,Y9]
theorem Ro(l:List Int)(q:Int)(k:Nat):(PQ l q k).length=k:=by simp [PQ]
def abQ(w:World)(l:List Int)(q:Int)(v i:Value)(wr:World):Prop:=
 ∃k:Nat,k<=l.length/\i=↑k/\Zx wr w.heap.size v (PQ l q k)/\Mod ↑ZW w wr
theorem aer(w:World)(A:Option Addr)(n c:Nat)(l:List Int)(q:Int)(YZ:IntsIn w A n c l)(hn:n<=1048576)(hr:Vf l q 67108864=true):
  Calls prog 176 #[.slice A n c,↑q] w fun e w'=>∃ob c',e=.returned (.tuple #[↑(ZZ ob n c'),↑Z0])/\IntsIn w' (some ⟨ob,0,none⟩) n c' (V5 l q)/\w.heap.size<=ob/\Mod ↑ZW w w':=by
 obtain rfl:l.length=n:=YZ.1;have OO:=Z7 YZ;have Lp:=hr;unfold Vf at Lp;rw [ZT,decide_eq_true_eq]at Lp;obtain⟨hall,hq⟩:=Lp;unfold UE at hall;rw [ZT,decide_eq_true_eq,YM]at hall;obtain⟨hside,hall⟩:=hall;have yL:=Z5 hside hall;have hl0:0<l.length:=by
  rcases Wz l.length with h|h
  ·rw [h]at hside;exact absurd rfl hside
  ·exact h
 have HR:=Z7 hr;clear hr hall;obtain⟨b,off,hA,hb,hc⟩:=YZ.place hl0;subst hA;have HC:=Z7 hc;clear hc YZ;go_enter func176,ntmps176;go_wp2_with fail;refine YH (Gy _ _ l.length c l q 67108864 OO.out Z8 Z8) ?_;rw [HR.out];go_wp2_with fail;refine YH (gm _ l.length hside) ?_;obtain⟨s,hs⟩:=ZL (XL l.length);rw [<-hs]at hside ⊢;have sI:s=4/\l.length=16\/s=8/\l.length=64:=by
  unfold XL at hs;split at hs
  ·exact .inl ⟨hs,WL⟩
  ·split at hs
   ·exact .inr ⟨hs,WL⟩
   ·omega
 have PH:1<=s/\s<=8/\l.length=s*s:=by rcases sI with⟨h1,h2⟩|⟨h1,h2⟩<;>subst h1<;>omega
 obtain⟨hs1,hs2,hs3⟩:=PH;have HS:=Z5 hs hs3;clear hs hs3 sI hside;go_wp2_with fail;go_loopw [8,9] (abQ w l q) (fun _ i _=>l.length-(intOf i).toNat)
 case atStart=>exact⟨0,Z8,rfl,VG _ _,Mod.refl _ _⟩
 case round=>
  obtain⟨k,hk,rfl,hrow,hM⟩:=hrel;by_cases hlt:k<l.length
  ·have M9:wr.cell? ⟨b,off+k,none⟩=some (.int .i64 (l.getD k 0)):=(ZV (hM.block b hb (fun h=>h))).trans (HC.out k hlt);have Jj:Oa 67108864 (l.getD k 0)=true:=yL.out.2 _ (by rw [Z6,ZP hlt];exact Xo hlt);have Og:Hid (Uh l q k=Wl (l.getD k 0) (stepOf q ((k % s:Nat):Int) ((k/s:Nat):Int))):=by show _=_;unfold Uh;rw [<-HS.out.1]
   generalize jb:l.getD k 0=v at *;clear jb;unfold Oa at Jj;simp only [decide_eq_true_eq]at Jj;obtain⟨v1,v2⟩:=Jj;have i1:(0:Int)<=(k:Int):=Z8;have i2:(k:Int)<(l.length:Int):=Z8;obtain⟨kx,MB⟩:=ZL (k % s);obtain⟨ky,MC⟩:=ZL (k/s);have iK:kx<s:=by rw [MB];exact VV _ Z8
   have yz:ky<s:=by rw [MC];exact UB (by rw [<-HS.out.2];exact hlt)
   have t1:((k:Int).tmod (s:Int))=(kx:Int):=by rw [Zu Z8,MB];exact(VT k s).symm
   have t2:((k:Int).tdiv (s:Int))=(ky:Int):=by rw [ZK Z8,MC];exact(Xz k s).symm
   have t3:((k:Int) % (s:Int))=(kx:Int):=by rw [MB];exact(VT k s).symm
   have t4:((k:Int)/(s:Int))=(ky:Int):=by rw [MC];exact(Xz k s).symm
   have hs0:((s:Int) == 0)=false:=beq_eq_false_iff_ne.2 Z8;rw [<-MB,<-MC]at Og;have HT:=Z5 t1 (Z9 t2 (Z9 t3 t4));clear MB MC t1 t2 t3 t4;have O1:Wn q (kx:Int) (ky:Int)=true:=by unfold Wn;rw [decide_eq_true_eq];omega
   obtain⟨A5,c5,hv5⟩:=ZG hrow;subst hv5;rw [Ro];have HB:=Z5 hrow hM;clear hrow hM;go_upto_region 9 with(fail)
   obtain⟨t1,t2,t3,t4⟩:=HT.out;go_quiet ((go_at_call 222;exact Calls.quiet_of_same (FJ _ q kx ky O1 _)))
   clear t1 t2 t3 t4;have LG:=Mw q kx ky O1;obtain⟨_,st1,st2,_⟩:=LG;obtain⟨st,hst⟩:=ZL (stepOf q kx ky);rw [<-hst]at st1 st2 Og ⊢;clear hst O1 HT;have Lm:(wr.drewN nq).cell? ⟨b,off+k,none⟩=some ↑v:=M9;have hrow2:Zx (wr.drewN nq) w.heap.size (.slice A5 k c5) (PQ l q k):=by
    have:=XT HB.out.1 ((Mod.refl ↑ZW wr).drewN nq) (fun _ _ h=>h);rw [Ro]at this;unfold Zx;rw [Ro];exact this
   have RZ:=HB.out.2.drewN nq;have GM:=Z5 hrow2 (Z9 RZ (RZ.size));clear hrow2 RZ M9 HB;generalize wr.drewN nq=w5 at *;have LV:=Z7 (fun w=>afR w v st ⟨Z8,Z8⟩ ⟨Z8,Z8⟩);go_wp2_with fail;refine YH (LV.out _) ?_;clear LV;generalize Wl v st=lv at *;go_wp2_with (at_builtin;have _t:=GM;refine Vg _ rfl _ _ rfl w.heap.size (.slice A5 k c5) (PQ l q k) lv rfl rfl GM.out.1 GM.out.2.2 (by rw [Ro];omega) ?_;intro v6 w6 PW _ Bh _;have HO:=Z5 PW (Bh w ↑ZW (ZY _) GM.out.2.1);clear PW Bh)
   go_roundw
   case rel=>
    refine⟨k+1,Z8,Zr,?_,HO.out.2⟩;rw [aal,Og.out];exact HO.out.1
   case measure=>exact YD
  ·obtain rfl:k=l.length:=Z8;have hrow':Zx wr w.heap.size _ (V5 l q):=hrow;obtain⟨A5,c5,hv5⟩:=ZG hrow';subst hv5;have hlen:(V5 l q).length=l.length:=by simp [V5]
   rw [hlen];have KP:=hrow'.RU;rw [hlen]at KP;have HB:=Z5 hrow' (Z9 hM (Z9 KP hlen));clear hrow hrow' hM KP hlen;go_wp2_with fail;go_ret2;rcases HB.out.1.2 with⟨hv,h0⟩|⟨g,cap,cur,hv,hB,_⟩
   ·rw [HB.out.2.2.2]at h0;omega
   ·injection hv with e1 e2 e3;subst e1;exact⟨g,c5,rfl,HB.out.2.2.1,hB,HB.out.2.1⟩
end Go.Proofs.YthednemlahioeaaGreatDoor
