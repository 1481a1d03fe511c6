/-
  The reference's Check.
-/
import Derived.Test.YthednemlahioeaaGreatDoorM35
namespace Go.Proofs.YthednemlahioeaaGreatDoor
open Go.RowKit
open List renaming range_succ→Y9,all_append→Vt,all_cons→Te,all_nil→Sd
open Rg renaming zero→XG
open Lib renaming hid→Z7
open Bool renaming false_and→Zp,and_false→ZE,and_true→XK,true_and→YS
open And renaming intro→Z9
open ZI renaming new→Zn,keep→YV
open Calls renaming quiet_of_same→Zy
open Go.Proofs.Tryz
set_option maxRecDepth 100000
set_option maxHeartbeats 8000000
def EA(w:World)(rb:Nat)(rs:List Rg)(i:Nat)(v:Value)(wr:World):Prop:=∃k:Nat,k<=i/\v=↑k/\((List.range k).all fun k=>decide ((rs.getD k XG).name≠(rs.getD i XG).name))=true/\ZI wr rb 38 (rs.getD i XG).cells.toArray/\Mod ↑ZW w wr
theorem afZ(w:World)(W H G:Int)(A:Option Addr)(n c:Nat)(rs:List Rg)(h:Nz w A n c rs)(hn:n<=9223372036854775807)(hW:-1099511627776<=W/\W<=1099511627776)(hH:-1099511627776<=H/\H<=1099511627776):
  Calls prog 14 #[↑W,↑H,↑G,.slice A n c] w fun e w'=>e=.returned (.int .i64 (U4 W H G rs))/\Mod ↑ZW w w':=by
 have hlen:=h.len;have HH:=Z7 h;clear h;by_cases h1:n<1
 ·have d1:=Zb ((n:Int)<1);have HN:=Z7 (NL (W:=W) (H:=H) (G:=G) (rs:=rs) Z8);go_enter func14,ntmps14;go_wp2_with fail;go_ret;exact⟨by rw [HN.out];rfl,Mod.refl _ _⟩
 have d1:=Za ((n:Int)<1);by_cases h2:8<n
 ·have d2:=Zb (8<(n:Int));have HN:=Z7 (NL (W:=W) (H:=H) (G:=G) (rs:=rs) Z8);go_enter func14,ntmps14;go_wp2_with fail;go_ret;exact⟨by rw [HN.out];rfl,Mod.refl _ _⟩
 have d2:=Za (8<(n:Int));have FW:=Z7 hlen;clear hlen;go_enter func14,ntmps14;go_wp2_with fail;go_loopw [9] (kD w W H G rs n) (fun i _=>n-(intOf i).toNat)
 case atStart=>exact⟨0,Z8,rfl,rfl,Mod.refl _ _⟩
 case round=>
  obtain⟨i,hi,rfl,O1,hM⟩:=hrel;rename World=>wr
  by_cases hlt:i<n
  ·have d3:=Zb ((i:Int)<(n:Int));obtain⟨b,o,rfl,hb,Zm⟩:=(HH.out.quiet hM).at_ i hlt;have Gn:=HH.out.nm i;have hno:Yb W H G (rs.getD i XG)=false->U4 W H G rs=151:=fun hf=>Rk (i:=i+1) (by rw [FW.out];omega) (by rw [Wx,hf,Zp,ZE]);obtain⟨r,hr⟩:=ZL (rs.getD i XG);rw [<-hr]at Zm Gn hno;obtain⟨nm,dn,qq,tg⟩:=r;have k0:wr.cell? ⟨b,o+i*4,none⟩=some (.string (strOf nm)):=Zm 0 _ rfl;have k1:wr.cell? ⟨b,o+i*4+1,none⟩=some ↑dn:=Zm 1 _ rfl;have k2:wr.cell? ⟨b,o+i*4+2,none⟩=some ↑qq:=Zm 2 _ rfl;have k3:wr.cell? ⟨b,o+i*4+3,none⟩=some ↑tg:=Zm 3 _ rfl;have RN:=Z7 (fun w=>aeu w nm Gn);have HK:=Z5 O1 (Z9 hM hr);clear O1 hM hr Zm hb Gn;cases yD:LJ nm with
   | false=>
    have FX:=Z7 yD;have hf:Yb W H G ⟨nm,dn,qq,tg⟩=false:=by unfold Yb;dsimp only;rw [yD,Zp]
    have HB:=Z7 (hno hf);clear yD hno hf;go_wp2_with fail;refine YH (RN.out _) ?_;rw [FX.out];go_wp2_with fail;go_ret;exact⟨by rw [HB.out];rfl,HK.out.2.1.alloc _⟩
   | true=>
    have FX:=Z7 yD;clear yD;by_cases b0:dn<0
    ·have e0:decide (dn<0)=true:=decide_eq_true b0;have ha:Yv ⟨nm,dn,qq,tg⟩=false:=by unfold Yv;exact decide_eq_false (by dsimp only;omega)
     have hf:Yb W H G ⟨nm,dn,qq,tg⟩=false:=by unfold Yb;rw [ha,Zp,ZE]
     have HB:=Z7 (hno hf);clear hno ha hf;go_wp2_with fail;refine YH (RN.out _) ?_;rw [FX.out];go_wp2_with fail;go_ret;exact⟨by rw [HB.out];rfl,HK.out.2.1.alloc _⟩
    have e0:decide (dn<0)=false:=decide_eq_false b0;by_cases b1:3<dn
    ·have e1:decide (3<dn)=true:=decide_eq_true b1;have ha:Yv ⟨nm,dn,qq,tg⟩=false:=by unfold Yv;exact decide_eq_false (by dsimp only;omega)
     have hf:Yb W H G ⟨nm,dn,qq,tg⟩=false:=by unfold Yb;rw [ha,Zp,ZE]
     have HB:=Z7 (hno hf);clear hno ha hf;go_wp2_with fail;refine YH (RN.out _) ?_;rw [FX.out];go_wp2_with fail;go_ret;exact⟨by rw [HB.out];rfl,HK.out.2.1.alloc _⟩
    have e1:decide (3<dn)=false:=decide_eq_false b1;by_cases b2:qq<0
    ·have e2:decide (qq<0)=true:=decide_eq_true b2;have ha:Yv ⟨nm,dn,qq,tg⟩=false:=by unfold Yv;exact decide_eq_false (by dsimp only;omega)
     have hf:Yb W H G ⟨nm,dn,qq,tg⟩=false:=by unfold Yb;rw [ha,Zp,ZE]
     have HB:=Z7 (hno hf);clear hno ha hf;go_wp2_with fail;refine YH (RN.out _) ?_;rw [FX.out];go_wp2_with fail;go_ret;exact⟨by rw [HB.out];rfl,HK.out.2.1.alloc _⟩
    have e2:decide (qq<0)=false:=decide_eq_false b2;by_cases b3:31<qq
    ·have e3:decide (31<qq)=true:=decide_eq_true b3;have ha:Yv ⟨nm,dn,qq,tg⟩=false:=by unfold Yv;exact decide_eq_false (by dsimp only;omega)
     have hf:Yb W H G ⟨nm,dn,qq,tg⟩=false:=by unfold Yb;rw [ha,Zp,ZE]
     have HB:=Z7 (hno hf);clear hno ha hf;go_wp2_with fail;refine YH (RN.out _) ?_;rw [FX.out];go_wp2_with fail;go_ret;exact⟨by rw [HB.out];rfl,HK.out.2.1.alloc _⟩
    have e3:decide (31<qq)=false:=decide_eq_false b3;by_cases b4:tg<0
    ·have e4:decide (tg<0)=true:=decide_eq_true b4;have ha:Yv ⟨nm,dn,qq,tg⟩=false:=by unfold Yv;exact decide_eq_false (by dsimp only;omega)
     have hf:Yb W H G ⟨nm,dn,qq,tg⟩=false:=by unfold Yb;rw [ha,Zp,ZE]
     have HB:=Z7 (hno hf);clear hno ha hf;go_wp2_with fail;refine YH (RN.out _) ?_;rw [FX.out];go_wp2_with fail;go_ret;exact⟨by rw [HB.out];rfl,HK.out.2.1.alloc _⟩
    have e4:decide (tg<0)=false:=decide_eq_false b4;by_cases b5:1048576<tg
    ·have e5:decide (1048576<tg)=true:=decide_eq_true b5;have ha:Yv ⟨nm,dn,qq,tg⟩=false:=by unfold Yv;exact decide_eq_false (by dsimp only;omega)
     have hf:Yb W H G ⟨nm,dn,qq,tg⟩=false:=by unfold Yb;rw [ha,Zp,ZE]
     have HB:=Z7 (hno hf);clear hno ha hf;go_wp2_with fail;refine YH (RN.out _) ?_;rw [FX.out];go_wp2_with fail;go_ret;exact⟨by rw [HB.out];rfl,HK.out.2.1.alloc _⟩
    have e5:decide (1048576<tg)=false:=decide_eq_false b5;have h4:dn=0\/dn=1\/dn=2\/dn=3:=Z8;clear e0 e1 b0 b1;rcases h4 with rfl|rfl|rfl|rfl
    ·have Rq:Yb W H G ⟨nm,0,qq,tg⟩=(seqRight (W.tdiv 1) (H.tdiv 1) G&&(decide (W.tdiv 1*1=W)&&decide (H.tdiv 1*1=H))):=Ml (W:=W) (H:=H) (G:=G) (d:=0) (q:=qq) (t:=tg) FX.out (by unfold Yv;exact decide_eq_true (by dsimp only;omega)) 1 rfl;have rs:=fun w=>MO w W H G ⟨nm,0,qq,tg⟩ 0 rfl Z8 hW hH;have rp:=fun w=>Ec w 0 Z8;obtain⟨X,hX⟩:=ZL (W.tdiv 1);obtain⟨Y,hY⟩:=ZL (H.tdiv 1);rw [<-hX,<-hY]at Rq;have pJ:∀w:World,Calls prog 49 #[↑W,↑H,↑G,.agg #[.string (strOf nm),↑Z0,↑qq,↑tg]] w fun e w'=>e=.returned (.agg #[.int .i64 X,.int .i64 Y,↑G])/\Mod ↑ZW w w':=fun w=>by rw [hX,hY];exact rs w
     have oL:∀w:World,Calls prog 51 #[↑Z0] w fun e w'=>e=.returned (.int .i64 1)/\w=w':=rp;have RS:=Z7 pJ;have RP:=Z7 oL;have JM:=Z5 Rq hno;clear Rq rs rp pJ oL hX hY hno;have hb0:=Zn wr 38 #[.string (strOf nm),↑Z0,↑qq,↑tg];obtain⟨rb,Rq⟩:=ZL (wr.heap.size);go_wp2_with fail;refine YH (RN.out _) ?_;rw [FX.out];rw [<-Rq]at hb0 ⊢;have Am:=Z5 hb0 ((Mod.refl ↑ZW wr).alloc (.cells #[.string (strOf nm),↑Z0,↑qq,↑tg] 38));obtain⟨rc,rf⟩:=hb0.both;clear Rq hb0 k0 k1 k2 k3;generalize wr.alloc (.cells #[.string (strOf nm),↑Z0,↑qq,↑tg] 38)=w1 at *;go_wp2_with fail;refine YX (RS.out _) fun w2 Y3=>?_;have hbr:=(Am.out.1.keep Y3 (fun h=>h)).alloc (.cells #[.int .i64 X,.int .i64 Y,↑G] 40);have Pw:=Zn w2 40 #[.int .i64 X,.int .i64 Y,↑G];have Ti:=(Am.out.2.trans Y3).alloc (.cells #[.int .i64 X,.int .i64 Y,↑G] 40);go_upto_region 11 with(fail)
     obtain⟨sb,PH⟩:=ZL (w2.heap.size);rw [<-PH]at Pw ⊢;generalize w2.alloc (.cells #[.int .i64 X,.int .i64 Y,↑G] 40)=w3 at *;obtain⟨sc,sf⟩:=Pw.both;clear rc rf Y3 PH;have H3:=Z5 hbr (Z9 Pw Ti);clear hbr Pw Ti Am;go_wp2_with fail;refine YX (Re w3 X Y G) fun w4 Xl=>?_;have hbr:=H3.out.1.keep Xl (fun h=>h);have Pw:=H3.out.2.1.keep Xl (fun h=>h);clear sc sf;have s0:w4.cell? ↑sb=some (.int .i64 X):=Pw.cell 0;have s1:w4.cell? ⟨sb,1,none⟩=some (.int .i64 Y):=Pw.cell 1;have r1:w4.cell? ⟨rb,1,none⟩=some ↑Z0:=hbr.cell 1;have H4:=Z5 hbr (H3.out.2.2.trans Xl);have xC:∀m,Calls prog 51 #[↑Z0] (w4.drewN m) fun e w'=>e=.returned (.int .i64 1)/\w'=w4.drewN m:=fun m=>(RP.out _).mono (fun _ _ h=>⟨h.1,h.2.symm⟩);have yM:=Z7 xC;clear hbr Pw Xl H3 xC;cases RQ:seqRight X Y G with
     | false=>
      have HB:=Z7 (JM.out.2 (by rw [JM.out.1,RQ,Zp]));clear RQ;go_upto_region 12 with(fail)
      go_quiet (first|(go_at_call 51;exact Zy (yM.out _)))
      have HM:=Z7 ((HK.out.2.1.trans H4.out.2).drewN nq);clear s0 s1 r1;generalize w4.drewN nq=w5 at *;go_wp2_with fail;go_ret;exact⟨by rw [HB.out];rfl,HM.out⟩
     | true=>
      have hb:=RQ;unfold seqRight at hb;rw [decide_eq_true_eq]at hb;obtain⟨⟨a1,a2,_⟩,⟨c1,c2,_⟩,_⟩:=hb;by_cases x1:X*1=W
      ·have y1:((X*1) != W)=false:=by simpa using x1
       have z1:(X != W)=false:=by simpa using x1
       by_cases x2:Y*1=H
       ·have y2:((Y*1) != H)=false:=by simpa using x2
        have z2:(Y != H)=false:=by simpa using x2
        have hrt:Yb W H G ⟨nm,0,qq,tg⟩=true:=by
         have h:=JM.out.1;rw [RQ,decide_eq_true x1,decide_eq_true x2]at h;exact h
        have HRT:=Z7 hrt;clear RQ x1 x2 hrt;go_upto_region 12 with(fail)
        go_quiet (first|(go_at_call 51;exact Zy (yM.out _)))
        have hbr:=YV H4.out.1 (Mod.drewN (Mod.refl ↑ZW w4) nq) (fun h=>h);have RO:=(HK.out.2.1.trans H4.out.2).drewN nq;clear s0 s1 r1;generalize w4.drewN nq=w5 at *;have H5:=Z5 hbr RO;clear hbr RO;go_wp2_with fail;go_loopw [14] (EA w rb rs i) (fun k _=>i-(intOf k).toNat)
        case atStart=>exact⟨0,Z8,rfl,rfl,by rw [<-HK.out.2.2];exact H5.out.1,H5.out.2⟩
        case round=>
         obtain⟨k,hk,rfl,hno,UQ,RZ⟩:=hrel;rename World=>wq
         by_cases hlk:k<i
         ·have d4:=Zb ((k:Int)<(i:Int));obtain⟨b',o',hA',hb',Zm⟩:=(HH.out.quiet RZ).at_ k Z8;injection hA' with hA';injection hA' with Ol Om;subst Ol Om;obtain⟨r2,hr2⟩:=ZL (rs.getD k XG);rw [<-hr2]at Zm;have k0:wq.cell? ⟨b,o+k*4,none⟩=some (.string (strOf r2.name)):=Zm 0 _ rfl;rw [<-HK.out.2.2]at UQ;have q0:wq.cell? ↑rb=some (.string (strOf nm)):=UQ.cell 0;have HQ:=Z5 hno (Z9 UQ (Z9 RZ hr2));clear hno UQ RZ hr2 Zm hb';by_cases hs:r2.name=nm
          ·have y3:((strOf r2.name).toList == (strOf nm).toList)=true:=by rw [Tk];exact decide_eq_true hs
           have H2:=Z7 (Rk (W:=W) (H:=H) (G:=G) (rs:=rs) (i:=i+1) (by rw [FW.out];omega) (by rw [Wx,OB hlk (by rw [<-HQ.out.2.2.2,<-HK.out.2.2];exact hs),ZE,ZE]));clear hs;go_upto_region 17 with(fail)
           go_quiet (fail)
           have HM:=Z7 (HQ.out.2.2.1.drewN nq);clear k0 q0;generalize wq.drewN nq=w7 at *;go_wp2_with fail;go_ret;exact⟨by rw [H2.out];rfl,HM.out⟩
          ·have y3:((strOf r2.name).toList == (strOf nm).toList)=false:=by rw [Tk];exact decide_eq_false hs
           have HS:=Z7 hs;clear hs;go_upto_region 17 with(fail)
           go_quiet (fail)
           have UQ:=YV HQ.out.2.1 (Mod.drewN (Mod.refl ↑ZW wq) nq) (fun h=>h);have HM:=Z5 (HQ.out.2.2.1.drewN nq) UQ;clear k0 q0 UQ;generalize wq.drewN nq=w7 at *;go_wp2_with fail;go_roundw
           case rel=>
            refine⟨k+1,Z8,Zr,?_,by rw [<-HK.out.2.2];exact HM.out.2,HM.out.1⟩;rw [Y9,Vt,HQ.out.1,Te,Sd,XK,YS];exact decide_eq_true (by rw [<-HQ.out.2.2.2,<-HK.out.2.2];exact HS.out)
           case measure=>exact YD
         ·obtain rfl:k=i:=Z8;have d4:=Za ((k:Int)<(k:Int));have H2:=Z5 hno RZ;clear hno UQ RZ;go_wp2_with fail;go_roundw
          case rel=>
           refine⟨k+1,Z8,Zr,?_,H2.out.2⟩;rw [Wx,HK.out.1,<-HK.out.2.2,HRT.out,YS,YS,HK.out.2.2];exact H2.out.1
          case measure=>exact YD
       ·have y2:((Y*1) != H)=true:=by simpa using x2
        have z2:(Y != H)=true:=by simpa using x2
        have HB:=Z7 (JM.out.2 (by rw [JM.out.1,decide_eq_false x2,ZE,ZE]));clear RQ x1 x2;go_upto_region 12 with(fail)
        go_quiet (first|(go_at_call 51;exact Zy (yM.out _)))
        have HM:=Z7 ((HK.out.2.1.trans H4.out.2).drewN nq);clear s0 s1 r1;generalize w4.drewN nq=w5 at *;go_wp2_with fail;go_ret;exact⟨by rw [HB.out];rfl,HM.out⟩
      ·have y1:((X*1) != W)=true:=by simpa using x1
       have z1:(X != W)=true:=by simpa using x1
       have HB:=Z7 (JM.out.2 (by rw [JM.out.1,decide_eq_false x1,Zp,ZE]));clear RQ x1;go_upto_region 12 with(fail)
       go_quiet (first|(go_at_call 51;exact Zy (yM.out _)))
       have HM:=Z7 ((HK.out.2.1.trans H4.out.2).drewN nq);clear s0 s1 r1;generalize w4.drewN nq=w5 at *;go_wp2_with fail;go_ret;exact⟨by rw [HB.out];rfl,HM.out⟩
    ·have Rq:Yb W H G ⟨nm,1,qq,tg⟩=(seqRight (W.tdiv 2) (H.tdiv 2) G&&(decide (W.tdiv 2*2=W)&&decide (H.tdiv 2*2=H))):=Ml (W:=W) (H:=H) (G:=G) (d:=1) (q:=qq) (t:=tg) FX.out (by unfold Yv;exact decide_eq_true (by dsimp only;omega)) 2 rfl;have rs:=fun w=>MO w W H G ⟨nm,1,qq,tg⟩ 1 rfl Z8 hW hH;have rp:=fun w=>Ec w 1 Z8;obtain⟨X,hX⟩:=ZL (W.tdiv 2);obtain⟨Y,hY⟩:=ZL (H.tdiv 2);rw [<-hX,<-hY]at Rq;have pJ:∀w:World,Calls prog 49 #[↑W,↑H,↑G,.agg #[.string (strOf nm),.int .i64 1,↑qq,↑tg]] w fun e w'=>e=.returned (.agg #[.int .i64 X,.int .i64 Y,↑G])/\Mod ↑ZW w w':=fun w=>by rw [hX,hY];exact rs w
     have oL:∀w:World,Calls prog 51 #[.int .i64 1] w fun e w'=>e=.returned (.int .i64 2)/\w=w':=rp;have RS:=Z7 pJ;have RP:=Z7 oL;have JM:=Z5 Rq hno;clear Rq rs rp pJ oL hX hY hno;have hb0:=Zn wr 38 #[.string (strOf nm),.int .i64 1,↑qq,↑tg];obtain⟨rb,Rq⟩:=ZL (wr.heap.size);go_wp2_with fail;refine YH (RN.out _) ?_;rw [FX.out];rw [<-Rq]at hb0 ⊢;have Am:=Z5 hb0 ((Mod.refl ↑ZW wr).alloc (.cells #[.string (strOf nm),.int .i64 1,↑qq,↑tg] 38));obtain⟨rc,rf⟩:=hb0.both;clear Rq hb0 k0 k1 k2 k3;generalize wr.alloc (.cells #[.string (strOf nm),.int .i64 1,↑qq,↑tg] 38)=w1 at *;go_wp2_with fail;refine YX (RS.out _) fun w2 Y3=>?_;have hbr:=(Am.out.1.keep Y3 (fun h=>h)).alloc (.cells #[.int .i64 X,.int .i64 Y,↑G] 40);have Pw:=Zn w2 40 #[.int .i64 X,.int .i64 Y,↑G];have Ti:=(Am.out.2.trans Y3).alloc (.cells #[.int .i64 X,.int .i64 Y,↑G] 40);go_upto_region 11 with(fail)
     obtain⟨sb,PH⟩:=ZL (w2.heap.size);rw [<-PH]at Pw ⊢;generalize w2.alloc (.cells #[.int .i64 X,.int .i64 Y,↑G] 40)=w3 at *;obtain⟨sc,sf⟩:=Pw.both;clear rc rf Y3 PH;have H3:=Z5 hbr (Z9 Pw Ti);clear hbr Pw Ti Am;go_wp2_with fail;refine YX (Re w3 X Y G) fun w4 Xl=>?_;have hbr:=H3.out.1.keep Xl (fun h=>h);have Pw:=H3.out.2.1.keep Xl (fun h=>h);clear sc sf;have s0:w4.cell? ↑sb=some (.int .i64 X):=Pw.cell 0;have s1:w4.cell? ⟨sb,1,none⟩=some (.int .i64 Y):=Pw.cell 1;have r1:w4.cell? ⟨rb,1,none⟩=some (.int .i64 1):=hbr.cell 1;have H4:=Z5 hbr (H3.out.2.2.trans Xl);have xC:∀m,Calls prog 51 #[.int .i64 1] (w4.drewN m) fun e w'=>e=.returned (.int .i64 2)/\w'=w4.drewN m:=fun m=>(RP.out _).mono (fun _ _ h=>⟨h.1,h.2.symm⟩);have yM:=Z7 xC;clear hbr Pw Xl H3 xC;cases RQ:seqRight X Y G with
     | false=>
      have HB:=Z7 (JM.out.2 (by rw [JM.out.1,RQ,Zp]));clear RQ;go_upto_region 12 with(fail)
      go_quiet (first|(go_at_call 51;exact Zy (yM.out _)))
      have HM:=Z7 ((HK.out.2.1.trans H4.out.2).drewN nq);clear s0 s1 r1;generalize w4.drewN nq=w5 at *;go_wp2_with fail;go_ret;exact⟨by rw [HB.out];rfl,HM.out⟩
     | true=>
      have hb:=RQ;unfold seqRight at hb;rw [decide_eq_true_eq]at hb;obtain⟨⟨a1,a2,_⟩,⟨c1,c2,_⟩,_⟩:=hb;by_cases x1:X*2=W
      ·have y1:((X*2) != W)=false:=by simpa using x1
       by_cases x2:Y*2=H
       ·have y2:((Y*2) != H)=false:=by simpa using x2
        have hrt:Yb W H G ⟨nm,1,qq,tg⟩=true:=by
         have h:=JM.out.1;rw [RQ,decide_eq_true x1,decide_eq_true x2]at h;exact h
        have HRT:=Z7 hrt;clear RQ x1 x2 hrt;go_upto_region 12 with(fail)
        go_quiet (first|(go_at_call 51;exact Zy (yM.out _)))
        have hbr:=YV H4.out.1 (Mod.drewN (Mod.refl ↑ZW w4) nq) (fun h=>h);have RO:=(HK.out.2.1.trans H4.out.2).drewN nq;clear s0 s1 r1;generalize w4.drewN nq=w5 at *;have H5:=Z5 hbr RO;clear hbr RO;go_wp2_with fail;go_loopw [14] (EA w rb rs i) (fun k _=>i-(intOf k).toNat)
        case atStart=>exact⟨0,Z8,rfl,rfl,by rw [<-HK.out.2.2];exact H5.out.1,H5.out.2⟩
        case round=>
         obtain⟨k,hk,rfl,hno,UQ,RZ⟩:=hrel;rename World=>wq
         by_cases hlk:k<i
         ·have d4:=Zb ((k:Int)<(i:Int));obtain⟨b',o',hA',hb',Zm⟩:=(HH.out.quiet RZ).at_ k Z8;injection hA' with hA';injection hA' with Ol Om;subst Ol Om;obtain⟨r2,hr2⟩:=ZL (rs.getD k XG);rw [<-hr2]at Zm;have k0:wq.cell? ⟨b,o+k*4,none⟩=some (.string (strOf r2.name)):=Zm 0 _ rfl;rw [<-HK.out.2.2]at UQ;have q0:wq.cell? ↑rb=some (.string (strOf nm)):=UQ.cell 0;have HQ:=Z5 hno (Z9 UQ (Z9 RZ hr2));clear hno UQ RZ hr2 Zm hb';by_cases hs:r2.name=nm
          ·have y3:((strOf r2.name).toList == (strOf nm).toList)=true:=by rw [Tk];exact decide_eq_true hs
           have H2:=Z7 (Rk (W:=W) (H:=H) (G:=G) (rs:=rs) (i:=i+1) (by rw [FW.out];omega) (by rw [Wx,OB hlk (by rw [<-HQ.out.2.2.2,<-HK.out.2.2];exact hs),ZE,ZE]));clear hs;go_upto_region 17 with(fail)
           go_quiet (fail)
           have HM:=Z7 (HQ.out.2.2.1.drewN nq);clear k0 q0;generalize wq.drewN nq=w7 at *;go_wp2_with fail;go_ret;exact⟨by rw [H2.out];rfl,HM.out⟩
          ·have y3:((strOf r2.name).toList == (strOf nm).toList)=false:=by rw [Tk];exact decide_eq_false hs
           have HS:=Z7 hs;clear hs;go_upto_region 17 with(fail)
           go_quiet (fail)
           have UQ:=YV HQ.out.2.1 (Mod.drewN (Mod.refl ↑ZW wq) nq) (fun h=>h);have HM:=Z5 (HQ.out.2.2.1.drewN nq) UQ;clear k0 q0 UQ;generalize wq.drewN nq=w7 at *;go_wp2_with fail;go_roundw
           case rel=>
            refine⟨k+1,Z8,Zr,?_,by rw [<-HK.out.2.2];exact HM.out.2,HM.out.1⟩;rw [Y9,Vt,HQ.out.1,Te,Sd,XK,YS];exact decide_eq_true (by rw [<-HQ.out.2.2.2,<-HK.out.2.2];exact HS.out)
           case measure=>exact YD
         ·obtain rfl:k=i:=Z8;have d4:=Za ((k:Int)<(k:Int));have H2:=Z5 hno RZ;clear hno UQ RZ;go_wp2_with fail;go_roundw
          case rel=>
           refine⟨k+1,Z8,Zr,?_,H2.out.2⟩;rw [Wx,HK.out.1,<-HK.out.2.2,HRT.out,YS,YS,HK.out.2.2];exact H2.out.1
          case measure=>exact YD
       ·have y2:((Y*2) != H)=true:=by simpa using x2
        have HB:=Z7 (JM.out.2 (by rw [JM.out.1,decide_eq_false x2,ZE,ZE]));clear RQ x1 x2;go_upto_region 12 with(fail)
        go_quiet (first|(go_at_call 51;exact Zy (yM.out _)))
        have HM:=Z7 ((HK.out.2.1.trans H4.out.2).drewN nq);clear s0 s1 r1;generalize w4.drewN nq=w5 at *;go_wp2_with fail;go_ret;exact⟨by rw [HB.out];rfl,HM.out⟩
      ·have y1:((X*2) != W)=true:=by simpa using x1
       have HB:=Z7 (JM.out.2 (by rw [JM.out.1,decide_eq_false x1,Zp,ZE]));clear RQ x1;go_upto_region 12 with(fail)
       go_quiet (first|(go_at_call 51;exact Zy (yM.out _)))
       have HM:=Z7 ((HK.out.2.1.trans H4.out.2).drewN nq);clear s0 s1 r1;generalize w4.drewN nq=w5 at *;go_wp2_with fail;go_ret;exact⟨by rw [HB.out];rfl,HM.out⟩
    ·have Rq:Yb W H G ⟨nm,2,qq,tg⟩=(seqRight (W.tdiv 4) (H.tdiv 4) G&&(decide (W.tdiv 4*4=W)&&decide (H.tdiv 4*4=H))):=Ml (W:=W) (H:=H) (G:=G) (d:=2) (q:=qq) (t:=tg) FX.out (by unfold Yv;exact decide_eq_true (by dsimp only;omega)) 4 rfl;have rs:=fun w=>MO w W H G ⟨nm,2,qq,tg⟩ 2 rfl Z8 hW hH;have rp:=fun w=>Ec w 2 Z8;obtain⟨X,hX⟩:=ZL (W.tdiv 4);obtain⟨Y,hY⟩:=ZL (H.tdiv 4);rw [<-hX,<-hY]at Rq;have pJ:∀w:World,Calls prog 49 #[↑W,↑H,↑G,.agg #[.string (strOf nm),.int .i64 2,↑qq,↑tg]] w fun e w'=>e=.returned (.agg #[.int .i64 X,.int .i64 Y,↑G])/\Mod ↑ZW w w':=fun w=>by rw [hX,hY];exact rs w
     have oL:∀w:World,Calls prog 51 #[.int .i64 2] w fun e w'=>e=.returned (.int .i64 4)/\w=w':=rp;have RS:=Z7 pJ;have RP:=Z7 oL;have JM:=Z5 Rq hno;clear Rq rs rp pJ oL hX hY hno;have hb0:=Zn wr 38 #[.string (strOf nm),.int .i64 2,↑qq,↑tg];obtain⟨rb,Rq⟩:=ZL (wr.heap.size);go_wp2_with fail;refine YH (RN.out _) ?_;rw [FX.out];rw [<-Rq]at hb0 ⊢;have Am:=Z5 hb0 ((Mod.refl ↑ZW wr).alloc (.cells #[.string (strOf nm),.int .i64 2,↑qq,↑tg] 38));obtain⟨rc,rf⟩:=hb0.both;clear Rq hb0 k0 k1 k2 k3;generalize wr.alloc (.cells #[.string (strOf nm),.int .i64 2,↑qq,↑tg] 38)=w1 at *;go_wp2_with fail;refine YX (RS.out _) fun w2 Y3=>?_;have hbr:=(Am.out.1.keep Y3 (fun h=>h)).alloc (.cells #[.int .i64 X,.int .i64 Y,↑G] 40);have Pw:=Zn w2 40 #[.int .i64 X,.int .i64 Y,↑G];have Ti:=(Am.out.2.trans Y3).alloc (.cells #[.int .i64 X,.int .i64 Y,↑G] 40);go_upto_region 11 with(fail)
     obtain⟨sb,PH⟩:=ZL (w2.heap.size);rw [<-PH]at Pw ⊢;generalize w2.alloc (.cells #[.int .i64 X,.int .i64 Y,↑G] 40)=w3 at *;obtain⟨sc,sf⟩:=Pw.both;clear rc rf Y3 PH;have H3:=Z5 hbr (Z9 Pw Ti);clear hbr Pw Ti Am;go_wp2_with fail;refine YX (Re w3 X Y G) fun w4 Xl=>?_;have hbr:=H3.out.1.keep Xl (fun h=>h);have Pw:=H3.out.2.1.keep Xl (fun h=>h);clear sc sf;have s0:w4.cell? ↑sb=some (.int .i64 X):=Pw.cell 0;have s1:w4.cell? ⟨sb,1,none⟩=some (.int .i64 Y):=Pw.cell 1;have r1:w4.cell? ⟨rb,1,none⟩=some (.int .i64 2):=hbr.cell 1;have H4:=Z5 hbr (H3.out.2.2.trans Xl);have xC:∀m,Calls prog 51 #[.int .i64 2] (w4.drewN m) fun e w'=>e=.returned (.int .i64 4)/\w'=w4.drewN m:=fun m=>(RP.out _).mono (fun _ _ h=>⟨h.1,h.2.symm⟩);have yM:=Z7 xC;clear hbr Pw Xl H3 xC;cases RQ:seqRight X Y G with
     | false=>
      have HB:=Z7 (JM.out.2 (by rw [JM.out.1,RQ,Zp]));clear RQ;go_upto_region 12 with(fail)
      go_quiet (first|(go_at_call 51;exact Zy (yM.out _)))
      have HM:=Z7 ((HK.out.2.1.trans H4.out.2).drewN nq);clear s0 s1 r1;generalize w4.drewN nq=w5 at *;go_wp2_with fail;go_ret;exact⟨by rw [HB.out];rfl,HM.out⟩
     | true=>
      have hb:=RQ;unfold seqRight at hb;rw [decide_eq_true_eq]at hb;obtain⟨⟨a1,a2,_⟩,⟨c1,c2,_⟩,_⟩:=hb;by_cases x1:X*4=W
      ·have y1:((X*4) != W)=false:=by simpa using x1
       by_cases x2:Y*4=H
       ·have y2:((Y*4) != H)=false:=by simpa using x2
        have hrt:Yb W H G ⟨nm,2,qq,tg⟩=true:=by
         have h:=JM.out.1;rw [RQ,decide_eq_true x1,decide_eq_true x2]at h;exact h
        have HRT:=Z7 hrt;clear RQ x1 x2 hrt;go_upto_region 12 with(fail)
        go_quiet (first|(go_at_call 51;exact Zy (yM.out _)))
        have hbr:=YV H4.out.1 (Mod.drewN (Mod.refl ↑ZW w4) nq) (fun h=>h);have RO:=(HK.out.2.1.trans H4.out.2).drewN nq;clear s0 s1 r1;generalize w4.drewN nq=w5 at *;have H5:=Z5 hbr RO;clear hbr RO;go_wp2_with fail;go_loopw [14] (EA w rb rs i) (fun k _=>i-(intOf k).toNat)
        case atStart=>exact⟨0,Z8,rfl,rfl,by rw [<-HK.out.2.2];exact H5.out.1,H5.out.2⟩
        case round=>
         obtain⟨k,hk,rfl,hno,UQ,RZ⟩:=hrel;rename World=>wq
         by_cases hlk:k<i
         ·have d4:=Zb ((k:Int)<(i:Int));obtain⟨b',o',hA',hb',Zm⟩:=(HH.out.quiet RZ).at_ k Z8;injection hA' with hA';injection hA' with Ol Om;subst Ol Om;obtain⟨r2,hr2⟩:=ZL (rs.getD k XG);rw [<-hr2]at Zm;have k0:wq.cell? ⟨b,o+k*4,none⟩=some (.string (strOf r2.name)):=Zm 0 _ rfl;rw [<-HK.out.2.2]at UQ;have q0:wq.cell? ↑rb=some (.string (strOf nm)):=UQ.cell 0;have HQ:=Z5 hno (Z9 UQ (Z9 RZ hr2));clear hno UQ RZ hr2 Zm hb';by_cases hs:r2.name=nm
          ·have y3:((strOf r2.name).toList == (strOf nm).toList)=true:=by rw [Tk];exact decide_eq_true hs
           have H2:=Z7 (Rk (W:=W) (H:=H) (G:=G) (rs:=rs) (i:=i+1) (by rw [FW.out];omega) (by rw [Wx,OB hlk (by rw [<-HQ.out.2.2.2,<-HK.out.2.2];exact hs),ZE,ZE]));clear hs;go_upto_region 17 with(fail)
           go_quiet (fail)
           have HM:=Z7 (HQ.out.2.2.1.drewN nq);clear k0 q0;generalize wq.drewN nq=w7 at *;go_wp2_with fail;go_ret;exact⟨by rw [H2.out];rfl,HM.out⟩
          ·have y3:((strOf r2.name).toList == (strOf nm).toList)=false:=by rw [Tk];exact decide_eq_false hs
           have HS:=Z7 hs;clear hs;go_upto_region 17 with(fail)
           go_quiet (fail)
           have UQ:=YV HQ.out.2.1 (Mod.drewN (Mod.refl ↑ZW wq) nq) (fun h=>h);have HM:=Z5 (HQ.out.2.2.1.drewN nq) UQ;clear k0 q0 UQ;generalize wq.drewN nq=w7 at *;go_wp2_with fail;go_roundw
           case rel=>
            refine⟨k+1,Z8,Zr,?_,by rw [<-HK.out.2.2];exact HM.out.2,HM.out.1⟩;rw [Y9,Vt,HQ.out.1,Te,Sd,XK,YS];exact decide_eq_true (by rw [<-HQ.out.2.2.2,<-HK.out.2.2];exact HS.out)
           case measure=>exact YD
         ·obtain rfl:k=i:=Z8;have d4:=Za ((k:Int)<(k:Int));have H2:=Z5 hno RZ;clear hno UQ RZ;go_wp2_with fail;go_roundw
          case rel=>
           refine⟨k+1,Z8,Zr,?_,H2.out.2⟩;rw [Wx,HK.out.1,<-HK.out.2.2,HRT.out,YS,YS,HK.out.2.2];exact H2.out.1
          case measure=>exact YD
       ·have y2:((Y*4) != H)=true:=by simpa using x2
        have HB:=Z7 (JM.out.2 (by rw [JM.out.1,decide_eq_false x2,ZE,ZE]));clear RQ x1 x2;go_upto_region 12 with(fail)
        go_quiet (first|(go_at_call 51;exact Zy (yM.out _)))
        have HM:=Z7 ((HK.out.2.1.trans H4.out.2).drewN nq);clear s0 s1 r1;generalize w4.drewN nq=w5 at *;go_wp2_with fail;go_ret;exact⟨by rw [HB.out];rfl,HM.out⟩
      ·have y1:((X*4) != W)=true:=by simpa using x1
       have HB:=Z7 (JM.out.2 (by rw [JM.out.1,decide_eq_false x1,Zp,ZE]));clear RQ x1;go_upto_region 12 with(fail)
       go_quiet (first|(go_at_call 51;exact Zy (yM.out _)))
       have HM:=Z7 ((HK.out.2.1.trans H4.out.2).drewN nq);clear s0 s1 r1;generalize w4.drewN nq=w5 at *;go_wp2_with fail;go_ret;exact⟨by rw [HB.out];rfl,HM.out⟩
    ·have Rq:Yb W H G ⟨nm,3,qq,tg⟩=(seqRight (W.tdiv 8) (H.tdiv 8) G&&(decide (W.tdiv 8*8=W)&&decide (H.tdiv 8*8=H))):=Ml (W:=W) (H:=H) (G:=G) (d:=3) (q:=qq) (t:=tg) FX.out (by unfold Yv;exact decide_eq_true (by dsimp only;omega)) 8 rfl;have rs:=fun w=>MO w W H G ⟨nm,3,qq,tg⟩ 3 rfl Z8 hW hH;have rp:=fun w=>Ec w 3 Z8;obtain⟨X,hX⟩:=ZL (W.tdiv 8);obtain⟨Y,hY⟩:=ZL (H.tdiv 8);rw [<-hX,<-hY]at Rq;have pJ:∀w:World,Calls prog 49 #[↑W,↑H,↑G,.agg #[.string (strOf nm),.int .i64 3,↑qq,↑tg]] w fun e w'=>e=.returned (.agg #[.int .i64 X,.int .i64 Y,↑G])/\Mod ↑ZW w w':=fun w=>by rw [hX,hY];exact rs w
     have oL:∀w:World,Calls prog 51 #[.int .i64 3] w fun e w'=>e=.returned (.int .i64 8)/\w=w':=rp;have RS:=Z7 pJ;have RP:=Z7 oL;have JM:=Z5 Rq hno;clear Rq rs rp pJ oL hX hY hno;have hb0:=Zn wr 38 #[.string (strOf nm),.int .i64 3,↑qq,↑tg];obtain⟨rb,Rq⟩:=ZL (wr.heap.size);go_wp2_with fail;refine YH (RN.out _) ?_;rw [FX.out];rw [<-Rq]at hb0 ⊢;have Am:=Z5 hb0 ((Mod.refl ↑ZW wr).alloc (.cells #[.string (strOf nm),.int .i64 3,↑qq,↑tg] 38));obtain⟨rc,rf⟩:=hb0.both;clear Rq hb0 k0 k1 k2 k3;generalize wr.alloc (.cells #[.string (strOf nm),.int .i64 3,↑qq,↑tg] 38)=w1 at *;go_wp2_with fail;refine YX (RS.out _) fun w2 Y3=>?_;have hbr:=(Am.out.1.keep Y3 (fun h=>h)).alloc (.cells #[.int .i64 X,.int .i64 Y,↑G] 40);have Pw:=Zn w2 40 #[.int .i64 X,.int .i64 Y,↑G];have Ti:=(Am.out.2.trans Y3).alloc (.cells #[.int .i64 X,.int .i64 Y,↑G] 40);go_upto_region 11 with(fail)
     obtain⟨sb,PH⟩:=ZL (w2.heap.size);rw [<-PH]at Pw ⊢;generalize w2.alloc (.cells #[.int .i64 X,.int .i64 Y,↑G] 40)=w3 at *;obtain⟨sc,sf⟩:=Pw.both;clear rc rf Y3 PH;have H3:=Z5 hbr (Z9 Pw Ti);clear hbr Pw Ti Am;go_wp2_with fail;refine YX (Re w3 X Y G) fun w4 Xl=>?_;have hbr:=H3.out.1.keep Xl (fun h=>h);have Pw:=H3.out.2.1.keep Xl (fun h=>h);clear sc sf;have s0:w4.cell? ↑sb=some (.int .i64 X):=Pw.cell 0;have s1:w4.cell? ⟨sb,1,none⟩=some (.int .i64 Y):=Pw.cell 1;have r1:w4.cell? ⟨rb,1,none⟩=some (.int .i64 3):=hbr.cell 1;have H4:=Z5 hbr (H3.out.2.2.trans Xl);have xC:∀m,Calls prog 51 #[.int .i64 3] (w4.drewN m) fun e w'=>e=.returned (.int .i64 8)/\w'=w4.drewN m:=fun m=>(RP.out _).mono (fun _ _ h=>⟨h.1,h.2.symm⟩);have yM:=Z7 xC;clear hbr Pw Xl H3 xC;cases RQ:seqRight X Y G with
     | false=>
      have HB:=Z7 (JM.out.2 (by rw [JM.out.1,RQ,Zp]));clear RQ;go_upto_region 12 with(fail)
      go_quiet (first|(go_at_call 51;exact Zy (yM.out _)))
      have HM:=Z7 ((HK.out.2.1.trans H4.out.2).drewN nq);clear s0 s1 r1;generalize w4.drewN nq=w5 at *;go_wp2_with fail;go_ret;exact⟨by rw [HB.out];rfl,HM.out⟩
     | true=>
      have hb:=RQ;unfold seqRight at hb;rw [decide_eq_true_eq]at hb;obtain⟨⟨a1,a2,_⟩,⟨c1,c2,_⟩,_⟩:=hb;by_cases x1:X*8=W
      ·have y1:((X*8) != W)=false:=by simpa using x1
       by_cases x2:Y*8=H
       ·have y2:((Y*8) != H)=false:=by simpa using x2
        have hrt:Yb W H G ⟨nm,3,qq,tg⟩=true:=by
         have h:=JM.out.1;rw [RQ,decide_eq_true x1,decide_eq_true x2]at h;exact h
        have HRT:=Z7 hrt;clear RQ x1 x2 hrt;go_upto_region 12 with(fail)
        go_quiet (first|(go_at_call 51;exact Zy (yM.out _)))
        have hbr:=YV H4.out.1 (Mod.drewN (Mod.refl ↑ZW w4) nq) (fun h=>h);have RO:=(HK.out.2.1.trans H4.out.2).drewN nq;clear s0 s1 r1;generalize w4.drewN nq=w5 at *;have H5:=Z5 hbr RO;clear hbr RO;go_wp2_with fail;go_loopw [14] (EA w rb rs i) (fun k _=>i-(intOf k).toNat)
        case atStart=>exact⟨0,Z8,rfl,rfl,by rw [<-HK.out.2.2];exact H5.out.1,H5.out.2⟩
        case round=>
         obtain⟨k,hk,rfl,hno,UQ,RZ⟩:=hrel;rename World=>wq
         by_cases hlk:k<i
         ·have d4:=Zb ((k:Int)<(i:Int));obtain⟨b',o',hA',hb',Zm⟩:=(HH.out.quiet RZ).at_ k Z8;injection hA' with hA';injection hA' with Ol Om;subst Ol Om;obtain⟨r2,hr2⟩:=ZL (rs.getD k XG);rw [<-hr2]at Zm;have k0:wq.cell? ⟨b,o+k*4,none⟩=some (.string (strOf r2.name)):=Zm 0 _ rfl;rw [<-HK.out.2.2]at UQ;have q0:wq.cell? ↑rb=some (.string (strOf nm)):=UQ.cell 0;have HQ:=Z5 hno (Z9 UQ (Z9 RZ hr2));clear hno UQ RZ hr2 Zm hb';by_cases hs:r2.name=nm
          ·have y3:((strOf r2.name).toList == (strOf nm).toList)=true:=by rw [Tk];exact decide_eq_true hs
           have H2:=Z7 (Rk (W:=W) (H:=H) (G:=G) (rs:=rs) (i:=i+1) (by rw [FW.out];omega) (by rw [Wx,OB hlk (by rw [<-HQ.out.2.2.2,<-HK.out.2.2];exact hs),ZE,ZE]));clear hs;go_upto_region 17 with(fail)
           go_quiet (fail)
           have HM:=Z7 (HQ.out.2.2.1.drewN nq);clear k0 q0;generalize wq.drewN nq=w7 at *;go_wp2_with fail;go_ret;exact⟨by rw [H2.out];rfl,HM.out⟩
          ·have y3:((strOf r2.name).toList == (strOf nm).toList)=false:=by rw [Tk];exact decide_eq_false hs
           have HS:=Z7 hs;clear hs;go_upto_region 17 with(fail)
           go_quiet (fail)
           have UQ:=YV HQ.out.2.1 (Mod.drewN (Mod.refl ↑ZW wq) nq) (fun h=>h);have HM:=Z5 (HQ.out.2.2.1.drewN nq) UQ;clear k0 q0 UQ;generalize wq.drewN nq=w7 at *;go_wp2_with fail;go_roundw
           case rel=>
            refine⟨k+1,Z8,Zr,?_,by rw [<-HK.out.2.2];exact HM.out.2,HM.out.1⟩;rw [Y9,Vt,HQ.out.1,Te,Sd,XK,YS];exact decide_eq_true (by rw [<-HQ.out.2.2.2,<-HK.out.2.2];exact HS.out)
           case measure=>exact YD
         ·obtain rfl:k=i:=Z8;have d4:=Za ((k:Int)<(k:Int));have H2:=Z5 hno RZ;clear hno UQ RZ;go_wp2_with fail;go_roundw
          case rel=>
           refine⟨k+1,Z8,Zr,?_,H2.out.2⟩;rw [Wx,HK.out.1,<-HK.out.2.2,HRT.out,YS,YS,HK.out.2.2];exact H2.out.1
          case measure=>exact YD
       ·have y2:((Y*8) != H)=true:=by simpa using x2
        have HB:=Z7 (JM.out.2 (by rw [JM.out.1,decide_eq_false x2,ZE,ZE]));clear RQ x1 x2;go_upto_region 12 with(fail)
        go_quiet (first|(go_at_call 51;exact Zy (yM.out _)))
        have HM:=Z7 ((HK.out.2.1.trans H4.out.2).drewN nq);clear s0 s1 r1;generalize w4.drewN nq=w5 at *;go_wp2_with fail;go_ret;exact⟨by rw [HB.out];rfl,HM.out⟩
      ·have y1:((X*8) != W)=true:=by simpa using x1
       have HB:=Z7 (JM.out.2 (by rw [JM.out.1,decide_eq_false x1,Zp,ZE]));clear RQ x1;go_upto_region 12 with(fail)
       go_quiet (first|(go_at_call 51;exact Zy (yM.out _)))
       have HM:=Z7 ((HK.out.2.1.trans H4.out.2).drewN nq);clear s0 s1 r1;generalize w4.drewN nq=w5 at *;go_wp2_with fail;go_ret;exact⟨by rw [HB.out];rfl,HM.out⟩
  ·obtain rfl:i=n:=Z8;have d3:=Za ((i:Int)<(i:Int));have HR:Hid (U4 W H G rs=0):=by show _=_;refine FB ?_;unfold Us;rw [FW.out,O1,XK];exact decide_eq_true ⟨Z8,Z8⟩
   have H1:=Z7 hM;clear O1 hM;go_wp2_with fail;go_ret;exact⟨by rw [HR.out];rfl,H1.out⟩
end Go.Proofs.YthednemlahioeaaGreatDoor
