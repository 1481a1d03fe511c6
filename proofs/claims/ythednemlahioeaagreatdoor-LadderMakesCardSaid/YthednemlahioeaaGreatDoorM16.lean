/-
  Whether a text is a name: the ladder's, and the reference's.
-/
import Derived.Test.YthednemlahioeaaGreatDoorM15
import Derived.Laws.RangeAny
import Derived.LoopTactic
namespace Go.Proofs.YthednemlahioeaaGreatDoor
open Go.RowKit
open Bool renaming and_false→ZE,and_true→XK,false_and→Zp,not_true→VM,true_and→YS
open Lib renaming hid→Z7
open Int renaming tmod_eq_emod_of_nonneg→Zu
open Ending renaming returned→Zq
open Go.Proofs.Tryz
set_option maxRecDepth 100000
set_option maxHeartbeats 8000000
theorem sN(c:UInt8):O3 c = !((decide ((c.toNat:Int)<97) || decide ((122:Int)<(c.toNat:Int)))&&(decide ((c.toNat:Int)<48) || decide ((57:Int)<(c.toNat:Int)))):=by
 unfold O3;rw [Bool.eq_iff_iff];simp only [Bool.or_eq_true,decide_eq_true_eq,Bool.not_eq_true',Bool.and_eq_false_iff,Bool.or_eq_false_iff,decide_eq_false_iff_not];omega
theorem DU{l:List UInt8}(h:l.all O3=false):LJ l=false:=by unfold LJ;rw [h,ZE]
theorem BF{l:List UInt8}(h:l.all O3=true):LJ l=decide (1<=l.length/\l.length<=8):=by unfold LJ;rw [h,XK]
theorem BD{l:List UInt8}(h:¬(1<=l.length/\l.length<=8)):LJ l=false:=by unfold LJ;rw [decide_eq_false h,Zp]
def aeB(l:List UInt8)(v:Value):Prop:=∃k:Nat,k<=l.length/\v=↑k/\(l.take k).all O3=true
theorem acL{l:List UInt8}{k:Nat}(h:k<(strOf l).size)(h2:k<l.length):(strOf l)[k]'h=l[k]'h2:=rfl
theorem aeu(w:World)(l:List UInt8)(hl:l.length<=9223372036854775807):Calls prog 48 #[.string (strOf l)] w fun e w'=>e=.returned (.bool (LJ l))/\w=w':=by
 have hsz:=OC l;go_enter func48,ntmps48;go_wp2_with fail;go_loop [3] (aeB l) (fun i=>l.length-(intOf i).toNat)
 case atStart=>exact⟨0,Z8,rfl,Ze⟩
 case round=>
  obtain⟨k,hk,rfl,hall⟩:=hrel;have HA:=Z7 hall;clear hall;by_cases hlt:k<l.length
  ·have hc:=ajd hlt;have d0:=Zb ((k:Int)<(l.length:Int));have hx:=aag (P:=prog) (t:=9) l .i64 k _ underlying9 hc;generalize hcc:l[k]=c at hc hx;have hct:=c.toNat_lt;have hld:=sN c;have HC:=Z5 hc hld;clear hc hcc hld
   cases d1:decide ((c.toNat:Int)<97)<;>cases d2:decide ((122:Int)<(c.toNat:Int))<;>cases d3:decide ((c.toNat:Int)<48)<;>cases d4:decide ((57:Int)<(c.toNat:Int))<;>(
    have HB:=HC.out.2;rw [d1,d2,d3,d4]at HB;simp only [Bool.or_true,Bool.or_false,XK,ZE,VM,Bool.not_false]at HB;have HD:=Z7 HB;clear HB;go_wp2_with fail
    first
    | exact⟨⟨k+1,Z8,Zr,wu HA.out HC.out.1 HD.out⟩,by simp [intOf];omega⟩
    | (go_ret
       exact⟨by rw [DU (yR HC.out.1 HD.out)];rfl,rfl⟩))
  ·obtain rfl:k=l.length:=Z8;have d0:=Za ((l.length:Int)<(l.length:Int));have HY:=Z7 (BF (rC HA.out));cases d1:decide ((1:Int)<=(l.length:Int))with
   | false=>
     go_wp2_with fail;go_ret;exact⟨by rw [HY.out,show decide (1<=l.length/\l.length<=8)=false from decide_eq_false (by have:=of_decide_eq_false d1;omega)];rfl,rfl⟩
   | true=>
     cases d2:decide ((l.length:Int)<=8)with
     | false=>
       go_wp2_with fail;go_ret;exact⟨by rw [HY.out,show decide (1<=l.length/\l.length<=8)=false from decide_eq_false (by have:=of_decide_eq_false d2;omega)];rfl,rfl⟩
     | true=>
       go_wp2_with fail;go_ret;exact⟨by rw [HY.out,show decide (1<=l.length/\l.length<=8)=true from decide_eq_true (by have:=of_decide_eq_true d1;have:=of_decide_eq_true d2;omega)];rfl,rfl⟩
theorem ah6(w:World)(l:List UInt8)(hl:l.length<=9223372036854775807):Calls prog 91 #[.string (strOf l)] w fun e w'=>e=.returned (.bool (LJ l))/\Mod ↑ZW w w':=by
 have hsz:=OC l;by_cases h1:l.length<1
 ·have d1:=Zb ((l.length:Int)<1);have HN:=Z7 (BD (l:=l) Z8);go_enter func91,ntmps91;go_wp2_with fail;go_ret;exact⟨by rw [HN.out];rfl,Mod.refl _ _⟩
 ·have d1:=Za ((l.length:Int)<1);by_cases h2:8<l.length
  ·have d2:=Zb (8<(l.length:Int));have HN:=Z7 (BD (l:=l) Z8);go_enter func91,ntmps91;go_wp2_with fail;go_ret;exact⟨by rw [HN.out];rfl,Mod.refl _ _⟩
  ·have d2:=Za (8<(l.length:Int));have hit:∀k,Mod ↑ZW w (w.iter (strOf l) k):=fun k=>(Mod.refl _ w).alloc _;have HIT:=Z7 hit;clear hit;go_enter func91,ntmps91;go_wp2_with fail;go_loopw [4] (fun _ w'=>∃k:Nat,k<=l.length/\w'=w.iter (strOf l) k/\(l.take k).all O3=true) (fun _ w'=>l.length-w'.iterPos w.heap.size)
   case atStart=>exact⟨0,Z8,rfl,Ze⟩
   case round=>
    obtain⟨k,hk,rfl,hall⟩:=hrel;have HA:=Z7 hall;clear hall;by_cases hlt:k<l.length
    ·have hc:=ajd hlt;have iK:k<(strOf l).size:=Z8;generalize hcc:l[k]=c at hc;have hct:=c.toNat_lt;have hld:=sN c;have HC:=Z5 hc hld;have hce:((strOf l)[k]'iK)=c:=by rw [acL iK hlt];exact hcc
     clear hc hld;by_cases ha:c.toNat<128
     ·have qB:∀ty,(Instr.next ↑(ZC w.heap.size 0) true ty).run prog (w.iter (strOf l) k)=.ok (.tuple #[.bool true,.int .i64 k,.int .i32 c.toNat]) (w.iter (strOf l) (k+1)):=fun ty=>by
       have h:=run_next_ascii (P:=prog) w (strOf l) k ty iK (by rw [hce];exact ha);rw [hce]at h;exact h
      clear hcc hce
      cases e1:decide ((c.toNat:Int)<97)<;>cases e2:decide ((122:Int)<(c.toNat:Int))<;>cases e3:decide ((c.toNat:Int)<48)<;>cases e4:decide ((57:Int)<(c.toNat:Int))<;>(
       have HB:=HC.out.2;rw [e1,e2,e3,e4]at HB;simp only [Bool.or_true,Bool.or_false,XK,ZE,VM,Bool.not_false]at HB;have HD:=Z7 HB;clear HB;go_wp2_with fail
       first
       | (go_ret
          exact⟨by rw [DU (yR HC.out.1 HD.out)];rfl,HIT.out _⟩)
       | (go_roundw
          case rel=>exact⟨k+1,Z8,rfl,wu HA.out HC.out.1 HD.out⟩
          case measure=>simp;omega))
     ·have Fv:=decode_high (strOf l) k iK (by rw [hce];omega);have hle:=decode_le (strOf l) k;have qB:∀ty,(Instr.next ↑(ZC w.heap.size 0) true ty).run prog (w.iter (strOf l) k)=_:=fun ty=>run_next_any w (strOf l) k ty iK;have Fw:O3 c=false:=by
       unfold O3;rw [Cv,Cv];rfl
      have HN:=Z7 (DU (yR HC.out.1 Fw));generalize (Utf8.decode (strOf l) k).1=r at *;generalize (Utf8.decode (strOf l) k).2=nn at *;obtain⟨hr,Na⟩:=Fv;have e1:=Za ((r:Int)<97);have e2:=Zb ((122:Int)<(r:Int));have e3:=Za ((r:Int)<48);have e4:=Zb ((57:Int)<(r:Int));clear Fw hcc hce;go_wp2_with fail;go_ret;exact⟨by rw [HN.out];rfl,HIT.out _⟩
    ·obtain rfl:k=l.length:=Z8;have qB:∀ty,(Instr.next ↑(ZC w.heap.size 0) true ty).run prog (w.iter (strOf l) l.length)=.ok (.tuple #[.bool false]) (w.iter (strOf l) l.length):=fun ty=>run_next_end w (strOf l) l.length ty Z8;have HY:=Z7 ((BF (rC HA.out)).trans (decide_eq_true ⟨Z8,Z8⟩));go_wp2_with fail;go_ret;exact⟨by rw [HY.out];rfl,HIT.out _⟩
theorem FQ(W H G:Int)(h:¬((16<=W/\W<=4096/\W.tmod 16=0)/\(16<=H/\H<=4096/\H.tmod 16=0)/\1<=G/\G<=64)):seqRight W H G=false:=by
 unfold seqRight;rw [decide_eq_false_iff_not];rintro⟨⟨a,b,c⟩,⟨d,e,f⟩,k⟩;exact h ⟨⟨a,b,by rw [Zu Z8];exact c⟩,⟨d,e,by rw [Zu Z8];exact f⟩,k⟩
theorem afN(W H G:Int)(h:(16<=W/\W<=4096/\W.tmod 16=0)/\(16<=H/\H<=4096/\H.tmod 16=0)/\1<=G/\G<=64):seqRight W H G=true:=by
 obtain⟨⟨a,b,c⟩,⟨d,e,f⟩,k⟩:=h;rw [Zu Z8]at c f;unfold seqRight;rw [decide_eq_true_eq];exact⟨⟨a,b,c⟩,⟨d,e,f⟩,k⟩
theorem Re(w:World)(W H G:Int):Calls prog 50 #[.agg #[↑W,↑H,↑G]] w fun e w'=>e=.returned (.bool (seqRight W H G))/\Mod ↑ZW w w':=by
 by_cases c0:W.tmod 16=0
 ·have b0:(W.tmod 16 == 0)=true:=by simp [c0]
  by_cases c1:H.tmod 16=0
  ·have b1:(H.tmod 16 == 0)=true:=by simp [c1]
   by_cases c2:16<=W
   ·have b2:decide (16<=W)=true:=by simp;omega
    have b0e:((W % 16) == 0)=true:=by rw [<-Zu Z8];exact b0
    by_cases c3:16<=H
    ·have b3:decide (16<=H)=true:=by simp;omega
     have b1e:((H % 16) == 0)=true:=by rw [<-Zu Z8];exact b1
     by_cases c4:W<=4096
     ·have b4:decide (W<=4096)=true:=by simp;omega
      by_cases c5:H<=4096
      ·have b5:decide (H<=4096)=true:=by simp;omega
       by_cases c6:1<=G
       ·have b6:decide (1<=G)=true:=by simp;omega
        by_cases c7:G<=64
        ·have b7:decide (G<=64)=true:=by simp;omega
         have hr:seqRight W H G=true:=afN W H G ⟨⟨c2,c4,c0⟩,⟨c3,c5,c1⟩,c6,c7⟩;clear c0 c1;have HR:=Z7 hr;clear hr;go_enter func50,ntmps50;go_wp2_with fail;go_ret;exact⟨congrArg (fun b=>Zq (.bool b)) HR.out.symm,(Mod.refl _ _).alloc _⟩
        ·have b7:decide (G<=64)=false:=by simp;omega
         have hr:seqRight W H G=false:=FQ W H G (fun h=>absurd h (by rintro⟨⟨a,b,c⟩,⟨d,e,f⟩,k,m⟩;exact c7 WL));clear c7 c0 c1;have HR:=Z7 hr;clear hr;go_enter func50,ntmps50;go_wp2_with fail;go_ret;exact⟨congrArg (fun b=>Zq (.bool b)) HR.out.symm,(Mod.refl _ _).alloc _⟩
       ·have b6:decide (1<=G)=false:=by simp;omega
        have hr:seqRight W H G=false:=FQ W H G (fun h=>absurd h (by rintro⟨⟨a,b,c⟩,⟨d,e,f⟩,k,m⟩;exact c6 WL));clear c6 c0 c1;have HR:=Z7 hr;clear hr;go_enter func50,ntmps50;go_wp2_with fail;go_ret;exact⟨congrArg (fun b=>Zq (.bool b)) HR.out.symm,(Mod.refl _ _).alloc _⟩
      ·have b5:decide (H<=4096)=false:=by simp;omega
       have hr:seqRight W H G=false:=FQ W H G (fun h=>absurd h (by rintro⟨⟨a,b,c⟩,⟨d,e,f⟩,k,m⟩;exact c5 WL));clear c5 c0 c1;have HR:=Z7 hr;clear hr;go_enter func50,ntmps50;go_wp2_with fail;go_ret;exact⟨congrArg (fun b=>Zq (.bool b)) HR.out.symm,(Mod.refl _ _).alloc _⟩
     ·have b4:decide (W<=4096)=false:=by simp;omega
      have hr:seqRight W H G=false:=FQ W H G (fun h=>absurd h (by rintro⟨⟨a,b,c⟩,⟨d,e,f⟩,k,m⟩;exact c4 WL));clear c4 c0 c1;have HR:=Z7 hr;clear hr;go_enter func50,ntmps50;go_wp2_with fail;go_ret;exact⟨congrArg (fun b=>Zq (.bool b)) HR.out.symm,(Mod.refl _ _).alloc _⟩
    ·have b3:decide (16<=H)=false:=by simp;omega
     have hr:seqRight W H G=false:=FQ W H G (fun h=>absurd h (by rintro⟨⟨a,b,c⟩,⟨d,e,f⟩,k,m⟩;exact c3 WL));clear c3 c0 c1;have HR:=Z7 hr;clear hr;go_enter func50,ntmps50;go_wp2_with fail;go_ret;exact⟨congrArg (fun b=>Zq (.bool b)) HR.out.symm,(Mod.refl _ _).alloc _⟩
   ·have b2:decide (16<=W)=false:=by simp;omega
    have hr:seqRight W H G=false:=FQ W H G (fun h=>absurd h (by rintro⟨⟨a,b,c⟩,⟨d,e,f⟩,k,m⟩;exact c2 WL));clear c2 c0 c1;have HR:=Z7 hr;clear hr;go_enter func50,ntmps50;go_wp2_with fail;go_ret;exact⟨congrArg (fun b=>Zq (.bool b)) HR.out.symm,(Mod.refl _ _).alloc _⟩
  ·have b1:(H.tmod 16 == 0)=false:=by simp [c1]
   have hr:seqRight W H G=false:=FQ W H G (fun h=>absurd h (by rintro⟨⟨a,b,c⟩,⟨d,e,f⟩,k,m⟩;exact c1 WL));clear c1 c0;have HR:=Z7 hr;clear hr;go_enter func50,ntmps50;go_wp2_with fail;go_ret;exact⟨congrArg (fun b=>Zq (.bool b)) HR.out.symm,(Mod.refl _ _).alloc _⟩
 ·have b0:(W.tmod 16 == 0)=false:=by simp [c0]
  have hr:seqRight W H G=false:=FQ W H G (fun h=>absurd h (by rintro⟨⟨a,b,c⟩,⟨d,e,f⟩,k,m⟩;exact c0 WL));clear c0;have HR:=Z7 hr;clear hr;go_enter func50,ntmps50;go_wp2_with fail;go_ret;exact⟨congrArg (fun b=>Zq (.bool b)) HR.out.symm,(Mod.refl _ _).alloc _⟩
def bS(W H G:Int):Value:=.agg #[↑W,↑H,↑G]
theorem Bv(w:World)(W H G D:Int)(hD:0<=D/\D<=3)(hW:-1099511627776<=W/\W<=1099511627776)(hH:-1099511627776<=H/\H<=1099511627776):
  Calls prog 92 #[↑W,↑H,↑G,↑D] w fun e w'=>e=.returned (bS (Rj W D) (Rj H D) G)/\Mod ↑ZW w w':=by
 obtain⟨hW1,hW2⟩:=hW;obtain⟨hH1,qi⟩:=hH;have h4:D=0\/D=1\/D=2\/D=3:=Z8;rcases h4 with rfl|rfl|rfl|rfl
 iterate 4
  ·unfold bS;go_enter func92,ntmps92;go_upto_region 1 with(fail)
   refine YK [8] [] [0,1,2,3,4,5,6,7,8] ZR ZR Xc ?_;iterate 8 (refine Yd ?_)
   refine XJ rfl rfl (fun K hK=>?_);go_simp;refine hK _ _ ?_;clear hK K;refine XD ?_;go_wp2_with fail
   first
   | exact bodyPost_ret (v:=.agg #[↑W,↑H,↑G]) (by simp [results,results92,go_sem]) rfl ⟨by rw [wW,wW],((Mod.refl _ w).alloc _).drew⟩
   | exact bodyPost_ret (v:=.agg #[.int .i64 (W/2),.int .i64 (H/2),↑G]) (by simp [results,results92,go_sem]) rfl ⟨rfl,((Mod.refl _ w).alloc _).drew⟩
   | exact bodyPost_ret (v:=.agg #[.int .i64 (W/4),.int .i64 (H/4),↑G]) (by simp [results,results92,go_sem]) rfl ⟨rfl,((Mod.refl _ w).alloc _).drew⟩
   | exact bodyPost_ret (v:=.agg #[.int .i64 (W/8),.int .i64 (H/8),↑G]) (by simp [results,results92,go_sem]) rfl ⟨rfl,((Mod.refl _ w).alloc _).drew⟩
def Rg.cells(r:Rg):List Value:=[.string (strOf r.name),↑r.down,↑r.q,↑r.tg]
theorem abD(w:World)(W H G:Int)(r:Rg)(hn:r.name.length<=9223372036854775807)(hW:-1099511627776<=W/\W<=1099511627776)(hH:-1099511627776<=H/\H<=1099511627776):
  Calls prog 47 #[↑W,↑H,↑G,.agg r.cells.toArray] w fun e w'=>e=.returned (.bool (Yb W H G r))/\Mod ↑ZW w w':=by
 obtain⟨nm,dn,qq,tg⟩:=r;unfold Rg.cells;dsimp only at hn ⊢;have h0:=(Sat.nil ↑ZW w).alloc 38 #[.string (strOf nm),↑dn,↑qq,↑tg] rfl;obtain⟨rc,rf⟩:=(h0.ZX 0 rfl).both;dsimp only at rc;have H0:=Z7 h0;have LN:=Z7 (fun w=>ah6 w nm hn);clear h0;cases yD:LJ nm with
 | false=>
  have HR:Hid (Yb W H G ⟨nm,dn,qq,tg⟩=false):=by show _=_;unfold Yb;dsimp only;rw [yD,Zp]
  have FX:=Z7 yD;clear yD;go_enter func47,ntmps47;go_wp2_with fail;refine YX (LN.out _) fun w1 Y6=>?_;rw [FX.out];have H1:=Z7 (H0.out.mod.trans Y6);clear Y6 rc rf;go_wp2_with fail;go_ret;exact⟨by rw [HR.out];rfl,H1.out⟩
 | true=>
  have FX:=Z7 yD;clear yD;by_cases b0:dn<0
  ·have e0:decide (dn<0)=true:=decide_eq_true b0;have ha:Yv ⟨nm,dn,qq,tg⟩=false:=by unfold Yv;exact decide_eq_false (by dsimp only;omega)
   have HR:Hid (Yb W H G ⟨nm,dn,qq,tg⟩=false):=by show _=_;unfold Yb;rw [ha,Zp,ZE]
   clear ha;go_enter func47,ntmps47;go_wp2_with fail;refine YX (LN.out _) fun w1 Y6=>?_;rw [FX.out];have hs1:=H0.out.quiet Y6;clear rc rf;obtain⟨rc,rf⟩:=(hs1.ZX 0 rfl).both;dsimp only at rc;have H1:=Z7 hs1.mod;clear Y6 hs1;go_wp2_with fail;go_ret;exact⟨by rw [HR.out];rfl,H1.out⟩
  have e0:decide (dn<0)=false:=decide_eq_false b0;by_cases b1:3<dn
  ·have e1:decide (3<dn)=true:=decide_eq_true b1;have ha:Yv ⟨nm,dn,qq,tg⟩=false:=by unfold Yv;exact decide_eq_false (by dsimp only;omega)
   have HR:Hid (Yb W H G ⟨nm,dn,qq,tg⟩=false):=by show _=_;unfold Yb;rw [ha,Zp,ZE]
   clear ha;go_enter func47,ntmps47;go_wp2_with fail;refine YX (LN.out _) fun w1 Y6=>?_;rw [FX.out];have hs1:=H0.out.quiet Y6;clear rc rf;obtain⟨rc,rf⟩:=(hs1.ZX 0 rfl).both;dsimp only at rc;have H1:=Z7 hs1.mod;clear Y6 hs1;go_wp2_with fail;go_ret;exact⟨by rw [HR.out];rfl,H1.out⟩
  have e1:decide (3<dn)=false:=decide_eq_false b1;by_cases b2:qq<0
  ·have e2:decide (qq<0)=true:=decide_eq_true b2;have ha:Yv ⟨nm,dn,qq,tg⟩=false:=by unfold Yv;exact decide_eq_false (by dsimp only;omega)
   have HR:Hid (Yb W H G ⟨nm,dn,qq,tg⟩=false):=by show _=_;unfold Yb;rw [ha,Zp,ZE]
   clear ha;go_enter func47,ntmps47;go_wp2_with fail;refine YX (LN.out _) fun w1 Y6=>?_;rw [FX.out];have hs1:=H0.out.quiet Y6;clear rc rf;obtain⟨rc,rf⟩:=(hs1.ZX 0 rfl).both;dsimp only at rc;have H1:=Z7 hs1.mod;clear Y6 hs1;go_wp2_with fail;go_ret;exact⟨by rw [HR.out];rfl,H1.out⟩
  have e2:decide (qq<0)=false:=decide_eq_false b2;by_cases b3:31<qq
  ·have e3:decide (31<qq)=true:=decide_eq_true b3;have ha:Yv ⟨nm,dn,qq,tg⟩=false:=by unfold Yv;exact decide_eq_false (by dsimp only;omega)
   have HR:Hid (Yb W H G ⟨nm,dn,qq,tg⟩=false):=by show _=_;unfold Yb;rw [ha,Zp,ZE]
   clear ha;go_enter func47,ntmps47;go_wp2_with fail;refine YX (LN.out _) fun w1 Y6=>?_;rw [FX.out];have hs1:=H0.out.quiet Y6;clear rc rf;obtain⟨rc,rf⟩:=(hs1.ZX 0 rfl).both;dsimp only at rc;have H1:=Z7 hs1.mod;clear Y6 hs1;go_wp2_with fail;go_ret;exact⟨by rw [HR.out];rfl,H1.out⟩
  have e3:decide (31<qq)=false:=decide_eq_false b3;by_cases b4:tg<0
  ·have e4:decide (tg<0)=true:=decide_eq_true b4;have ha:Yv ⟨nm,dn,qq,tg⟩=false:=by unfold Yv;exact decide_eq_false (by dsimp only;omega)
   have HR:Hid (Yb W H G ⟨nm,dn,qq,tg⟩=false):=by show _=_;unfold Yb;rw [ha,Zp,ZE]
   clear ha;go_enter func47,ntmps47;go_wp2_with fail;refine YX (LN.out _) fun w1 Y6=>?_;rw [FX.out];have hs1:=H0.out.quiet Y6;clear rc rf;obtain⟨rc,rf⟩:=(hs1.ZX 0 rfl).both;dsimp only at rc;have H1:=Z7 hs1.mod;clear Y6 hs1;go_wp2_with fail;go_ret;exact⟨by rw [HR.out];rfl,H1.out⟩
  have e4:decide (tg<0)=false:=decide_eq_false b4;by_cases b5:1048576<tg
  ·have e5:decide (1048576<tg)=true:=decide_eq_true b5;have ha:Yv ⟨nm,dn,qq,tg⟩=false:=by unfold Yv;exact decide_eq_false (by dsimp only;omega)
   have HR:Hid (Yb W H G ⟨nm,dn,qq,tg⟩=false):=by show _=_;unfold Yb;rw [ha,Zp,ZE]
   clear ha;go_enter func47,ntmps47;go_wp2_with fail;refine YX (LN.out _) fun w1 Y6=>?_;rw [FX.out];have hs1:=H0.out.quiet Y6;clear rc rf;obtain⟨rc,rf⟩:=(hs1.ZX 0 rfl).both;dsimp only at rc;have H1:=Z7 hs1.mod;clear Y6 hs1;go_wp2_with fail;go_ret;exact⟨by rw [HR.out];rfl,H1.out⟩
  have e5:decide (1048576<tg)=false:=decide_eq_false b5;have ha:Yv ⟨nm,dn,qq,tg⟩=true:=by unfold Yv;exact decide_eq_true (by dsimp only;omega)
  have hd:0<=dn/\dn<=3:=⟨Z8,Z8⟩
  obtain⟨w2,hw2⟩:=ZL (Rj W dn);obtain⟨h2,hh2⟩:=ZL (Rj H dn);have HR:Hid (Yb W H G ⟨nm,dn,qq,tg⟩=(seqRight w2 h2 G&&(decide (w2*(2 ^ dn.toNat:Nat)=W)&&decide (h2*(2 ^ dn.toNat:Nat)=H)))):=by show _=_;unfold Yb;rw [ha];dsimp only;rw [FX.out,YS,YS,<-hw2,<-hh2]
  have ls:∀w:World,Calls prog 92 #[↑W,↑H,↑G,↑dn] w fun e w'=>e=.returned (.agg #[↑w2,↑h2,↑G])/\Mod ↑ZW w w':=fun w=>by rw [hw2,hh2];exact Bv w W H G dn hd hW hH
  have LS:=Z7 ls;clear ls;clear ha hw2 hh2;go_enter func47,ntmps47;go_wp2_with fail;refine YX (LN.out _) fun w1 Y6=>?_;rw [FX.out];have hs1:=H0.out.quiet Y6;clear rc rf;obtain⟨rc,rf⟩:=(hs1.ZX 0 rfl).both;dsimp only at rc;have H1:=Z7 hs1;clear Y6 hs1;go_wp2_with fail;refine YX (LS.out _) fun w3 X7=>?_;have hs3:=(H1.out.quiet X7).alloc (g:=w3.heap.size) 40 #[↑w2,↑h2,↑G] rfl;clear rc rf;go_upto_region 6 with(fail)
  obtain⟨sb,PH⟩:=ZL (w3.heap.size);rw [<-PH]at hs3 ⊢;generalize w3.alloc (.cells #[↑w2,↑h2,↑G] 40)=w4 at *;obtain⟨sc,sf⟩:=(hs3.ZX 0 rfl).both;obtain⟨rc,rf⟩:=(hs3.ZX 1 rfl).both;dsimp only at sc rc;have H3:=Z7 hs3;clear X7 hs3 PH;cases RQ:seqRight w2 h2 G with
  | false=>
   go_wp2_with fail;refine YX (FT w4 w2 h2 G RQ) fun w5 UR=>?_;have H5:=Z5 (H3.out.mod.trans UR) RQ;clear UR RQ;go_wp2_with fail;go_ret;exact⟨by rw [HR.out,H5.out.2];rfl,H5.out.1⟩
  | true=>
   go_wp2_with fail;refine YX (Pe w4 w2 h2 G RQ) fun w5 UR=>?_;have hs5:=H3.out.quiet UR;clear sc sf rc rf;obtain⟨sc,sf⟩:=(hs5.ZX 0 rfl).both;obtain⟨rc,rf⟩:=(hs5.ZX 1 rfl).both;dsimp only at sc rc;have hb:=RQ;unfold seqRight at hb;rw [decide_eq_true_eq]at hb;obtain⟨⟨a1,a2,_⟩,⟨c1,c2,_⟩,_⟩:=hb;have H5:=Z5 hs5.mod RQ;clear UR hs5 RQ;have h4:dn=0\/dn=1\/dn=2\/dn=3:=Z8;clear hd e0 e1 b0 b1;rcases h4 with rfl|rfl|rfl|rfl
   ·have Ez:Hid (Yb W H G ⟨nm,0,qq,tg⟩=(decide (w2=W)&&decide (h2=H))):=by show _=_;rw [HR.out,H5.out.2,YS,show(((2 ^ (0:Int).toNat:Nat)):Int)=1 from rfl,Int.mul_one,Int.mul_one]
    by_cases x1:w2=W
    ·have y1:((w2) == W)=true:=by simpa using x1
     by_cases x2:h2=H
     ·have y2:((h2) == H)=true:=by simpa using x2
      have E9:Hid (Yb W H G ⟨nm,0,qq,tg⟩=true):=by show _=_;rw [Ez.out,decide_eq_true x1,decide_eq_true x2];rfl
      clear x1 x2;go_wp2_with fail;go_ret;exact⟨by rw [E9.out];rfl,H5.out.1⟩
     ·have y2:((h2) == H)=false:=by simpa using x2
      have E9:Hid (Yb W H G ⟨nm,0,qq,tg⟩=false):=by show _=_;rw [Ez.out,decide_eq_false x2,ZE]
      clear x1 x2;go_wp2_with fail;go_ret;exact⟨by rw [E9.out];rfl,H5.out.1⟩
    ·have y1:((w2) == W)=false:=by simpa using x1
     have E9:Hid (Yb W H G ⟨nm,0,qq,tg⟩=false):=by show _=_;rw [Ez.out,decide_eq_false x1,Zp]
     clear x1;go_wp2_with fail;go_ret;exact⟨by rw [E9.out];rfl,H5.out.1⟩
   ·have Ez:Hid (Yb W H G ⟨nm,1,qq,tg⟩=(decide (w2*2=W)&&decide (h2*2=H))):=by show _=_;rw [HR.out,H5.out.2,YS,show(((2 ^ (1:Int).toNat:Nat)):Int)=2 from rfl]
    by_cases x1:w2*2=W
    ·have y1:((w2*2) == W)=true:=by simpa using x1
     by_cases x2:h2*2=H
     ·have y2:((h2*2) == H)=true:=by simpa using x2
      have E9:Hid (Yb W H G ⟨nm,1,qq,tg⟩=true):=by show _=_;rw [Ez.out,decide_eq_true x1,decide_eq_true x2];rfl
      clear x1 x2;go_wp2_with fail;go_ret;exact⟨by rw [E9.out];rfl,H5.out.1⟩
     ·have y2:((h2*2) == H)=false:=by simpa using x2
      have E9:Hid (Yb W H G ⟨nm,1,qq,tg⟩=false):=by show _=_;rw [Ez.out,decide_eq_false x2,ZE]
      clear x1 x2;go_wp2_with fail;go_ret;exact⟨by rw [E9.out];rfl,H5.out.1⟩
    ·have y1:((w2*2) == W)=false:=by simpa using x1
     have E9:Hid (Yb W H G ⟨nm,1,qq,tg⟩=false):=by show _=_;rw [Ez.out,decide_eq_false x1,Zp]
     clear x1;go_wp2_with fail;go_ret;exact⟨by rw [E9.out];rfl,H5.out.1⟩
   ·have Ez:Hid (Yb W H G ⟨nm,2,qq,tg⟩=(decide (w2*4=W)&&decide (h2*4=H))):=by show _=_;rw [HR.out,H5.out.2,YS,show(((2 ^ (2:Int).toNat:Nat)):Int)=4 from rfl]
    by_cases x1:w2*4=W
    ·have y1:((w2*4) == W)=true:=by simpa using x1
     by_cases x2:h2*4=H
     ·have y2:((h2*4) == H)=true:=by simpa using x2
      have E9:Hid (Yb W H G ⟨nm,2,qq,tg⟩=true):=by show _=_;rw [Ez.out,decide_eq_true x1,decide_eq_true x2];rfl
      clear x1 x2;go_wp2_with fail;go_ret;exact⟨by rw [E9.out];rfl,H5.out.1⟩
     ·have y2:((h2*4) == H)=false:=by simpa using x2
      have E9:Hid (Yb W H G ⟨nm,2,qq,tg⟩=false):=by show _=_;rw [Ez.out,decide_eq_false x2,ZE]
      clear x1 x2;go_wp2_with fail;go_ret;exact⟨by rw [E9.out];rfl,H5.out.1⟩
    ·have y1:((w2*4) == W)=false:=by simpa using x1
     have E9:Hid (Yb W H G ⟨nm,2,qq,tg⟩=false):=by show _=_;rw [Ez.out,decide_eq_false x1,Zp]
     clear x1;go_wp2_with fail;go_ret;exact⟨by rw [E9.out];rfl,H5.out.1⟩
   ·have Ez:Hid (Yb W H G ⟨nm,3,qq,tg⟩=(decide (w2*8=W)&&decide (h2*8=H))):=by show _=_;rw [HR.out,H5.out.2,YS,show(((2 ^ (3:Int).toNat:Nat)):Int)=8 from rfl]
    by_cases x1:w2*8=W
    ·have y1:((w2*8) == W)=true:=by simpa using x1
     by_cases x2:h2*8=H
     ·have y2:((h2*8) == H)=true:=by simpa using x2
      have E9:Hid (Yb W H G ⟨nm,3,qq,tg⟩=true):=by show _=_;rw [Ez.out,decide_eq_true x1,decide_eq_true x2];rfl
      clear x1 x2;go_wp2_with fail;go_ret;exact⟨by rw [E9.out];rfl,H5.out.1⟩
     ·have y2:((h2*8) == H)=false:=by simpa using x2
      have E9:Hid (Yb W H G ⟨nm,3,qq,tg⟩=false):=by show _=_;rw [Ez.out,decide_eq_false x2,ZE]
      clear x1 x2;go_wp2_with fail;go_ret;exact⟨by rw [E9.out];rfl,H5.out.1⟩
    ·have y1:((w2*8) == W)=false:=by simpa using x1
     have E9:Hid (Yb W H G ⟨nm,3,qq,tg⟩=false):=by show _=_;rw [Ez.out,decide_eq_false x1,Zp]
     clear x1;go_wp2_with fail;go_ret;exact⟨by rw [E9.out];rfl,H5.out.1⟩
structure Wd(w:World)(F:Nat->Prop)(d:Yz)(f:Yy)(c:List Value):Prop where
 ex:∃v0 v1 v2,c=[↑d.W,↑d.H,v0,↑d.W2,↑d.H2,v1,↑d.W2,↑d.H2,v2] /\
  WA w F 1 v0 d.nY (Yw f.Y)/\WA w F 1 v1 d.nC (Yw f.U)/\WA w F 1 v2 d.nC (Yw f.V)
theorem WA.blk{w:World}{F:Nat->Prop}{g n:Nat}{l:List UInt8}(h:ZI w g 5 (Yw l).toArray)(hl:l.length=n)(hF:F g):WA w F 1 ↑(ZZ g n n) n (Yw l):=by
 refine⟨_,_,rfl,Nat.le_refl _,fun e=>(by cases e),⟨by rw [YG,hl,Nat.mul_one],fun e=>(by cases e),fun ad e j u hu=>?_⟩,fun ad e _=>?_⟩
 ·injection e with e;subst e;rw [addr_add,h.cell j];simpa using hu
 ·injection e with e;subst e;exact⟨h.lt,hF⟩
theorem Wd.ah2{w:World}{F:Nat->Prop}{d:Yz}{gy gu gv:Nat}{f:Yy}(h:WN w d gy gu gv f)(h0:F gy)(h1:F gu)(h2:F gv):Wd w F d f (YF d gy gu gv):=
 ⟨_,_,_,rfl,.blk h.Ff h.ly h0,.blk h.bu h.lu h1,.blk h.bv h.lv h2⟩
theorem Wd.turn{w w':World}{F F' S:Nat->Prop}{d:Yz}{f:Yy}{c:List Value}(h:Wd w F d f c)(hm:Mod S w w')(hS:∀k,F k->k<w.heap.size->¬S k)(hF:∀k,F k->k<w.heap.size->F' k):Wd w' F' d f c:=by
 obtain⟨v0,v1,v2,h0,h1,h2,h3⟩:=h.ex;exact⟨v0,v1,v2,h0,h1.turn hm hS hF,h2.turn hm hS hF,h3.turn hm hS hF⟩
def OQ(w:World)(F:Nat->Prop)(d:Yz)(s:List (List UInt8 × Yy))(c:List Value):Prop:=
 ∃sv fv,c=[sv,fv]/\WI w F 1 (PM w F) sv (s.map Prod.fst)/\WI w F 9 (Wd w F d) fv (s.map Prod.snd)
theorem OQ.turn{w w':World}{F F' S:Nat->Prop}{d:Yz}{s:List (List UInt8 × Yy)}{c:List Value}(h:OQ w F d s c)(hm:Mod S w w')(hS:∀k,F k->k<w.heap.size->¬S k)(hF:∀k,F k->k<w.heap.size->F' k):OQ w' F' d s c:=by
 obtain⟨sv,fv,h0,h1,h2⟩:=h;exact⟨sv,fv,h0,h1.turn hm hS hF (fun x _ c k=>k.turn hm hS hF),h2.turn hm hS hF (fun x _ c k=>k.turn hm hS hF)⟩
structure Lx where
 r:Rg
 G:Int
 d:Yz
 TD:List (List (List UInt8 × Yy))
def Ny(w:World)(F:Nat->Prop)(m:Lx)(c:List Value):Prop:=
 ∃sv,c=m.r.cells++[↑m.d.W,↑m.d.H,↑m.G,sv]/\WI w F 2 (OQ w F m.d) sv m.TD
theorem Ny.turn{w w':World}{F F' S:Nat->Prop}{m:Lx}{c:List Value}(h:Ny w F m c)(hm:Mod S w w')(hS:∀k,F k->k<w.heap.size->¬S k)(hF:∀k,F k->k<w.heap.size->F' k):Ny w' F' m c:=by
 obtain⟨sv,h0,h1⟩:=h;exact⟨sv,h0,h1.turn hm hS hF (fun x _ c k=>k.turn hm hS hF)⟩
def OP(w:World)(F:Nat->Prop)(v:Value)(ms:List Lx):Prop:=WI w F 8 (Ny w F) v ms
theorem OP.turn{w w':World}{F F' S:Nat->Prop}{v:Value}{ms:List Lx}(h:OP w F v ms)(hm:Mod S w w')(hS:∀k,F k->k<w.heap.size->¬S k)(hF:∀k,F k->k<w.heap.size->F' k):OP w' F' v ms:=
 WI.turn h hm hS hF (fun _ _ _ k=>k.turn hm hS hF)
end Go.Proofs.YthednemlahioeaaGreatDoor
