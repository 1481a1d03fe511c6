/-
  The reference's plane block of 8 and of 16. Written by gen_gblk.py.
-/
import Derived.Test.YthednemlahioeaaGreatDoorM22
namespace Go.Proofs.YthednemlahioeaaGreatDoor
open Go.RowKit
open And renaming intro→Z9
open Sat renaming nil→YT,after→Zw
open Lib renaming hid→Z7
open World renaming ownsRow_nil→Yl
open Nat renaming le_trans→ZQ,add_assoc→YJ,add_mul→Y5,one_mul→Ym
open Ending renaming returned→Zq
open Int renaming tmod_eq_emod_of_nonneg→Zu
open IntWalk renaming i64_in→Z4
open UInt8 renaming toNat_lt→ZN
open Go.Proofs.Tryz
set_option maxRecDepth 100000
set_option maxHeartbeats 8000000
theorem Kb{k m:Nat}(h:k<m):Uj (k:Int) m=k:=by unfold Uj;rw [Xb,Xb];exact Int.toNat_natCast k
def RK1(w:World)(p:Nat)(cs:Array Value)(f:Nat->UInt8)(n:Nat)(v10 v11:Value)(wr:World):Prop:=∃j:Nat,j<=n/\v11=↑j/\GrowAt w wr p cs v10 (VZ f (j*n))
def RK2(w:World)(p:Nat)(cs:Array Value)(f:Nat->UInt8)(n j:Nat)(v10 v12:Value)(wr:World):Prop:=∃i:Nat,i<=n/\v12=↑i/\GrowAt w wr p cs v10 (VZ f (j*n+i))
theorem aen(w:World)(W H:Nat)(A:Option Addr)(n c:Nat)(ZJ:List UInt8)(h:Yx W H=true)(hn:n=W*H)(YZ:BytesIn w A n c ZJ)(x y:Nat)(hx:x+8<=W)(hy:y+8<=H):
  Calls prog 223 #[.agg #[↑W,↑H,.slice A n c],↑x,↑y,.int .i64 8] w
   fun e w'=>∃v,e=.returned v/\Bytes w' w.heap.size v (Pv W ZJ x y 8)/\Mod ↑ZW w w':=by
 obtain⟨_,hW1,hW2,hH1,qi,_⟩:=YB h;have HI:=Z5 h (Z9 hn YZ);clear h YZ hn;have h0:=(YT ↑ZW w).alloc 56 #[↑W,↑H,.slice A n c] rfl;have H0:=Z7 h0;clear h0;go_enter func223,ntmps223;go_wp2_with fail;refine YX (Ur _ W H A n c HI.out.1 HI.out.2.1) fun w1 Y6=>?_;have HS:=H0.out.quiet Y6;have qV:Hid (GrowAt w w1 w.heap.size #[↑W,↑H,.slice A n c] ↑Zd (VZ (CG W ZJ x y 8) (0*8))):=⟨Yl _ _ _ _,HS.ZX 0 rfl,HS.mod⟩
 clear Y6 HS H0;go_wp2_with fail;go_loopw [10,11] (RK1 w w.heap.size #[↑W,↑H,.slice A n c] (CG W ZJ x y 8) 8) (fun _ s _=>8-(intOf s).toNat)
 case atStart=>exact⟨0,Z8,rfl,qV.out⟩
 case round=>
  clear qV;obtain⟨j,hj,rfl,hG⟩:=hrel;have HG:=Z7 hG;clear hG;by_cases hlt:j<8
  ·have d1:=Zb ((j:Int)<8);go_wp2_with fail;go_loopw [10,12] (RK2 w w.heap.size #[↑W,↑H,.slice A n c] (CG W ZJ x y 8) 8 j) (fun _ s _=>8-(intOf s).toNat)
   case atStart=>exact⟨0,Z8,rfl,HG.out⟩
   case round=>
    clear HG;rename World=>w5
    obtain⟨i,hi,rfl,hG⟩:=hrel;by_cases Pq:i<8
    ·have d2:=Zb ((i:Int)<8);have Bn:TB W H ZJ ((x:Int)+(i:Int)) ((y:Int)+(j:Int))=CG W ZJ x y 8 (j*8+i):=by
      rw [u6 _ _ _ _ _ _ _ Pq];unfold TB;rw [show(x:Int)+(i:Int)=((x+i:Nat):Int)by omega,show(y:Int)+(j:Int)=((y+j:Nat):Int)by omega,Kb Z8,Kb Z8]
     obtain⟨A5,c5,hv5⟩:=ZG hG.1;subst hv5;have xk:(VZ (CG W ZJ x y 8) (j*8+i)).length=j*8+i:=RL _ _;have hle:j*8+i<=4096:=Z8;obtain⟨k5,hk5⟩:=ZL ((VZ (CG W ZJ x y 8) (j*8+i)).length);rw [<-hk5]at hG ⊢;have Gq:=hG.2.1.drew.cell;have HK:=Z5 hG (Z9 Bn (Z9 hk5 (ZQ (Nat.le_of_eq xk) hle)));clear hG Bn hk5 xk hle;have AT:=Z7 (fAt w5.drew W H A n c ZJ HI.out.1 HI.out.2.1 (HI.out.2.2.quiet HK.out.1.2.2.drew) ((x:Int)+(i:Int)) ((y:Int)+(j:Int)));have pc0:w5.drew.cell? ↑w.heap.size=some ↑W:=Gq 0;have pI:w5.drew.cell? ⟨w.heap.size,1,none⟩=some ↑H:=Gq 1;have tq:w5.drew.cell? ⟨w.heap.size,2,none⟩=some (.slice A n c):=Gq 2;clear Gq;go_upto_region 11 with(fail)
     refine YY [8,9,10] [0] (1 :: 2 :: 3 :: 4 :: 5 :: 6 :: 7 :: 0 :: 8 :: 9 :: 10 :: 11 :: []) (fun _=>True) ZR ZR Xc trivial ?_;iterate 3 (refine Zc ?_)
     refine Vm rfl rfl (fun K hK=>?_);go_simp;refine⟨_,(ML _ (x:Int) (i:Int) Z8 Z8).mono (fun _ _ ⟨a,b⟩=>⟨a,b.symm⟩),hK _ ?_⟩;clear hK K;iterate 2 (refine Zc ?_)
     refine Vm rfl rfl (fun K hK=>?_);go_simp;refine⟨_,(ML _ (y:Int) (j:Int) Z8 Z8).mono (fun _ _ ⟨a,b⟩=>⟨a,b.symm⟩),hK _ ?_⟩;clear hK K;refine Yc rfl rfl rfl (fun _ _=>rfl) ?_;refine Zf rfl rfl (fun K hK=>?_);go_simp;refine AT.out.mono ?_;rintro e w6 ⟨rfl,Xt⟩;rw [HK.out.2.1];dsimp only [];have HA:=Z5 (HK.out.1.quiet ((Mod.refl ↑ZW w5).drew.trans Xt)) HK.out.2;refine hK _ _ trivial ?_;clear hK K Xt pc0 pI tq;refine Zf rfl rfl (fun K hK=>?_);go_simp;refine hK _ _ trivial ?_;clear hK K;refine Zf rfl rfl (fun K hK=>?_);refine FR w6 (by rfl) _ _ (by rfl) w.heap.size (.slice A5 k5 c5) (VZ (CG W ZJ x y 8) (j*8+i)) (CG W ZJ x y 8 (j*8+i)) (by rfl) (by rfl) HA.out.1.1 HA.out.1.2.2.size (by have:=HA.out.2.2.1;have:=HA.out.2.2.2;omega) ?_;intro v7 w7 NK Bi _ _;have HO:=Z7 (HA.out.1.app NK Bi);clear NK Bi;refine hK _ _ trivial ?_;clear hK K;refine Zc ?_;refine Yg ?_;go_wp2_with fail;go_roundw
     case rel=>exact⟨i+1,Z8,Zr,by rw [<-YJ,P7];exact HO.out⟩
     case measure=>exact YD
    ·obtain rfl:i=8:=Z8;have HK:=Z7 hG;clear hG;go_wp2_with fail;go_roundw
     case rel=>exact⟨j+1,Z8,Zr,by rw [Y5,Ym];exact HK.out⟩
     case measure=>exact YD
  ·obtain rfl:j=8:=Z8;go_wp2_with fail;go_ret;exact⟨_,rfl,HG.out.1,HG.out.2.2⟩
theorem acY(w:World)(W H:Nat)(A:Option Addr)(n c:Nat)(ZJ:List UInt8)(h:Yx W H=true)(hn:n=W*H)(YZ:BytesIn w A n c ZJ)(x y:Nat)(hx:x+16<=W)(hy:y+16<=H):
  Calls prog 223 #[.agg #[↑W,↑H,.slice A n c],↑x,↑y,.int .i64 16] w
   fun e w'=>∃v,e=.returned v/\Bytes w' w.heap.size v (Pv W ZJ x y 16)/\Mod ↑ZW w w':=by
 obtain⟨_,hW1,hW2,hH1,qi,_⟩:=YB h;have HI:=Z5 h (Z9 hn YZ);clear h YZ hn;have h0:=(YT ↑ZW w).alloc 56 #[↑W,↑H,.slice A n c] rfl;have H0:=Z7 h0;clear h0;go_enter func223,ntmps223;go_wp2_with fail;refine YX (Ur _ W H A n c HI.out.1 HI.out.2.1) fun w1 Y6=>?_;have HS:=H0.out.quiet Y6;have qV:Hid (GrowAt w w1 w.heap.size #[↑W,↑H,.slice A n c] ↑Zd (VZ (CG W ZJ x y 16) (0*16))):=⟨Yl _ _ _ _,HS.ZX 0 rfl,HS.mod⟩
 clear Y6 HS H0;go_wp2_with fail;go_loopw [10,11] (RK1 w w.heap.size #[↑W,↑H,.slice A n c] (CG W ZJ x y 16) 16) (fun _ s _=>16-(intOf s).toNat)
 case atStart=>exact⟨0,Z8,rfl,qV.out⟩
 case round=>
  clear qV;obtain⟨j,hj,rfl,hG⟩:=hrel;have HG:=Z7 hG;clear hG;by_cases hlt:j<16
  ·have d1:=Zb ((j:Int)<16);go_wp2_with fail;go_loopw [10,12] (RK2 w w.heap.size #[↑W,↑H,.slice A n c] (CG W ZJ x y 16) 16 j) (fun _ s _=>16-(intOf s).toNat)
   case atStart=>exact⟨0,Z8,rfl,HG.out⟩
   case round=>
    clear HG;rename World=>w5
    obtain⟨i,hi,rfl,hG⟩:=hrel;by_cases Pq:i<16
    ·have d2:=Zb ((i:Int)<16);have Bn:TB W H ZJ ((x:Int)+(i:Int)) ((y:Int)+(j:Int))=CG W ZJ x y 16 (j*16+i):=by
      rw [u6 _ _ _ _ _ _ _ Pq];unfold TB;rw [show(x:Int)+(i:Int)=((x+i:Nat):Int)by omega,show(y:Int)+(j:Int)=((y+j:Nat):Int)by omega,Kb Z8,Kb Z8]
     obtain⟨A5,c5,hv5⟩:=ZG hG.1;subst hv5;have xk:(VZ (CG W ZJ x y 16) (j*16+i)).length=j*16+i:=RL _ _;have hle:j*16+i<=4096:=Z8;obtain⟨k5,hk5⟩:=ZL ((VZ (CG W ZJ x y 16) (j*16+i)).length);rw [<-hk5]at hG ⊢;have Gq:=hG.2.1.drew.cell;have HK:=Z5 hG (Z9 Bn (Z9 hk5 (ZQ (Nat.le_of_eq xk) hle)));clear hG Bn hk5 xk hle;have AT:=Z7 (fAt w5.drew W H A n c ZJ HI.out.1 HI.out.2.1 (HI.out.2.2.quiet HK.out.1.2.2.drew) ((x:Int)+(i:Int)) ((y:Int)+(j:Int)));have pc0:w5.drew.cell? ↑w.heap.size=some ↑W:=Gq 0;have pI:w5.drew.cell? ⟨w.heap.size,1,none⟩=some ↑H:=Gq 1;have tq:w5.drew.cell? ⟨w.heap.size,2,none⟩=some (.slice A n c):=Gq 2;clear Gq;go_upto_region 11 with(fail)
     refine YY [8,9,10] [0] (1 :: 2 :: 3 :: 4 :: 5 :: 6 :: 7 :: 0 :: 8 :: 9 :: 10 :: 11 :: []) (fun _=>True) ZR ZR Xc trivial ?_;iterate 3 (refine Zc ?_)
     refine Vm rfl rfl (fun K hK=>?_);go_simp;refine⟨_,(ML _ (x:Int) (i:Int) Z8 Z8).mono (fun _ _ ⟨a,b⟩=>⟨a,b.symm⟩),hK _ ?_⟩;clear hK K;iterate 2 (refine Zc ?_)
     refine Vm rfl rfl (fun K hK=>?_);go_simp;refine⟨_,(ML _ (y:Int) (j:Int) Z8 Z8).mono (fun _ _ ⟨a,b⟩=>⟨a,b.symm⟩),hK _ ?_⟩;clear hK K;refine Yc rfl rfl rfl (fun _ _=>rfl) ?_;refine Zf rfl rfl (fun K hK=>?_);go_simp;refine AT.out.mono ?_;rintro e w6 ⟨rfl,Xt⟩;rw [HK.out.2.1];dsimp only [];have HA:=Z5 (HK.out.1.quiet ((Mod.refl ↑ZW w5).drew.trans Xt)) HK.out.2;refine hK _ _ trivial ?_;clear hK K Xt pc0 pI tq;refine Zf rfl rfl (fun K hK=>?_);go_simp;refine hK _ _ trivial ?_;clear hK K;refine Zf rfl rfl (fun K hK=>?_);refine FR w6 (by rfl) _ _ (by rfl) w.heap.size (.slice A5 k5 c5) (VZ (CG W ZJ x y 16) (j*16+i)) (CG W ZJ x y 16 (j*16+i)) (by rfl) (by rfl) HA.out.1.1 HA.out.1.2.2.size (by have:=HA.out.2.2.1;have:=HA.out.2.2.2;omega) ?_;intro v7 w7 NK Bi _ _;have HO:=Z7 (HA.out.1.app NK Bi);clear NK Bi;refine hK _ _ trivial ?_;clear hK K;refine Zc ?_;refine Yg ?_;go_wp2_with fail;go_roundw
     case rel=>exact⟨i+1,Z8,Zr,by rw [<-YJ,P7];exact HO.out⟩
     case measure=>exact YD
    ·obtain rfl:i=16:=Z8;have HK:=Z7 hG;clear hG;go_wp2_with fail;go_roundw
     case rel=>exact⟨j+1,Z8,Zr,by rw [Y5,Ym];exact HK.out⟩
     case measure=>exact YD
  ·obtain rfl:j=16:=Z8;go_wp2_with fail;go_ret;exact⟨_,rfl,HG.out.1,HG.out.2.2⟩
def fO(pl:Nat)(a b c:Option Addr):Option Addr:=if pl=0 then a else if pl=1 then b else c
def oD(pl a b c:Nat):Nat:=if pl=0 then a else if pl=1 then b else c
def plA(d:Yz)(pl:Nat)(A:Option Addr)(k:Nat):Array Value:=#[↑(d.T9 pl),↑(d.MN pl),.slice A (d.FE pl) k]
theorem ab4(w:World)(d:Yz)(A0 A1 A2:Option Addr)(c0 c1 c2 pl:Nat)(hpl:pl<3):Calls prog 173 #[.agg (NG d A0 A1 A2 c0 c1 c2).toArray,↑pl] w fun e w'=>e=.returned (.agg (plA d pl (fO pl A0 A1 A2) (oD pl c0 c1 c2)))/\Mod ↑ZW w w':=by
 have h3:pl=0\/pl=1\/pl=2:=Z8;rcases h3 with rfl|rfl|rfl
 ·unfold NG plA;go_enter func173,ntmps173;go_wp2_with fail;exact bodyPost_ret (v:=.agg #[↑d.W,↑d.H,.slice A0 d.nY c0]) (by simp [results,results173,go_sem]) rfl ⟨rfl,((Mod.refl _ _).alloc _).alloc _⟩
 ·unfold NG plA;go_enter func173,ntmps173;go_wp2_with fail;exact bodyPost_ret (v:=.agg #[↑d.W2,↑d.H2,.slice A1 d.nC c1]) (by simp [results,results173,go_sem]) rfl ⟨rfl,((Mod.refl _ _).alloc _).alloc _⟩
 ·unfold NG plA;go_enter func173,ntmps173;go_wp2_with fail;exact bodyPost_ret (v:=.agg #[↑d.W2,↑d.H2,.slice A2 d.nC c2]) (by simp [results,results173,go_sem]) rfl ⟨rfl,((Mod.refl _ _).alloc _).alloc _⟩
theorem I4.at_{w:World}{d:Yz}{A0 A1 A2:Option Addr}{c0 c1 c2:Nat}{f:Yy}(h:I4 w d (NG d A0 A1 A2 c0 c1 c2) f){pl:Nat}(hpl:pl<3):BytesIn w (fO pl A0 A1 A2) (d.FE pl) (oD pl c0 c1 c2) (f.get pl)/\d.FE pl<=oD pl c0 c1 c2:=by
 obtain⟨A,c,h1,h2,h3,h4,h5⟩:=h.pl pl hpl;have hp:pl=0\/pl=1\/pl=2:=Z8;rcases hp with rfl|rfl|rfl
 all_goals
  injection h3 with h3;injection h3 with e1 e2 e3;subst e1 e3;exact⟨h4,h5⟩
theorem oI(w:World)(d:Yz)(hd:d.Ok)(A0 A1 A2:Option Addr)(c0 c1 c2:Nat)(f:Yy)(hf:I4 w d (NG d A0 A1 A2 c0 c1 c2) f)(pl x y:Nat)(hpl:pl<3)(hx:x+8<=d.T9 pl)(hy:y+8<=d.MN pl):
  Calls prog 171 #[.agg (NG d A0 A1 A2 c0 c1 c2).toArray,.agg #[↑pl,↑x,↑y]] w fun e w'=>∃v,e=.returned v/\Bytes w' w.heap.size v (Pv (d.T9 pl) (f.get pl) x y 8)/\Mod ↑ZW w w':=by
 have h0:=((YT ↑ZW w).alloc 58 (NG d A0 A1 A2 c0 c1 c2).toArray rfl).alloc (g:=w.heap.size+1) 282 #[↑pl,↑x,↑y] Ze;obtain⟨YZ,_⟩:=hf.at_ hpl;obtain⟨Il,Na⟩:=hd.FE pl;have HI:=Z5 Il (Z9 Na YZ);have H0:=Z7 h0.drew;obtain⟨fc,ff⟩:=(h0.drew.ZX 1 rfl).both;obtain⟨pc,pf⟩:=(h0.drew.ZX 0 rfl).both;dsimp only at fc pc;unfold NG at fc;clear hf YZ Il Na h0 hd;have P1:=Z7 (fun w=>ab4 w d A0 A1 A2 c0 c1 c2 pl hpl);unfold NG at P1 ⊢;go_enter func171,ntmps171;go_upto_region 1 with(fail)
 refine YY [3,8] [4,5,6,7] (0 :: 1 :: 2 :: 4 :: 5 :: 6 :: 7 :: 3 :: 8 :: 9 :: []) (fun w'=>ZI w' (w.heap.size+1) 282 #[↑pl,↑x,↑y]) ZR ZR Xc (H0.out.ZX 0 rfl) ?_;iterate 3 (refine Zc ?_)
 clear fc ff pc pf;refine Yc rfl rfl rfl (fun _ _=>rfl) ?_;refine Yc (v:=↑x) rfl rfl rfl (fun w' hS=>?_) ?_
 ·have cS:=hS.cell;go_simp
 refine Yc rfl rfl rfl (fun _ _=>rfl) ?_;refine Yc (v:=↑y) rfl rfl rfl (fun w' hS=>?_) ?_
 ·have cS:=hS.cell;go_simp
 refine Zf rfl rfl (fun K hK=>?_);go_simp;refine YX (P1.out _) fun w2 Y3=>?_;have H2:=Z7 (H0.out.quiet Y3);dsimp only [];refine hK _ _ (H2.out.ZX 0 rfl) ?_;clear hK K Y3;refine Zf rfl rfl (fun K hK=>?_);go_simp;refine(aen _ (d.T9 pl) (d.MN pl) _ (d.FE pl) _ (f.get pl) HI.out.1 HI.out.2.1 (HI.out.2.2.quiet H2.out.mod) x y hx hy).mono ?_;rintro e w3 ⟨v3,rfl,hv3,X7⟩;have H3:=Z5 (hv3.down H2.out.mod.size) (H2.out.mod.trans X7);dsimp only [];refine hK _ _ ((H2.out.quiet X7).ZX 0 rfl) ?_;clear hK K X7 hv3;refine Zc ?_;refine Yg ?_;go_wp2_with fail;go_ret;exact⟨v3,rfl,H3.out.1,H3.out.2⟩
theorem acn(v n:Int)(hn:0<n):-((n-1-v)/n)=v/n:=by
 have h1:=Int.mul_ediv_add_emod v n;have h2:=Int.emod_nonneg v (show n≠0 by omega);have h3:=Int.emod_lt_of_pos v hn;have e:n-1-v=(n-1-v % n)+n*(-(v/n)):=by rw [Int.mul_neg];omega
 rw [e,Int.add_mul_ediv_left _ _ Z8,Int.ediv_eq_zero_of_lt Z8 Z8];omega
theorem Oq(w:World)(v:Int)(n:Nat)(hn:1<=n/\n<=64)(hv:-4611686018427387904<=v/\v<=4611686018427387904):Calls prog 309 #[↑v,↑n] w fun e w'=>e=.returned (.int .i64 (v/(n:Int)))/\w=w':=by
 obtain⟨qA,yC⟩:=hn;obtain⟨Gr,hv2⟩:=hv;by_cases h:0<=v
 ·have d1:decide (0<=v)=true:=decide_eq_true h;go_enter func309,ntmps309;go_wp2_with fail;go_ret;exact⟨rfl,rfl⟩
 ·have d1:decide (0<=v)=false:=decide_eq_false h;go_enter func309,ntmps309;go_wp2_with fail;go_ret
  exact⟨congrArg (fun z=>Zq (.int .i64 z)) (by
   rw [acn v (n:Int) Z8];have b1:v/(n:Int)<0:=Int.ediv_neg_of_neg_of_pos h Z8
   have b2:v<=v/(n:Int):=Int.le_ediv_of_mul_le Z8 (by
    have:=Int.mul_le_mul_of_nonpos_left (a:=v) (show v<=0 by omega) (show(1:Int)<=(n:Int)by omega);omega)
   exact IntWalk.wrap64_in _ ⟨Z8,Z8⟩),rfl⟩
theorem dG(w:World)(a b c d e f:Nat)(ha:a<256)(hb:b<256)(hc:c<256)(hd:d<256)(he:e<256)(hf:f<256):
  Calls prog 409 #[.agg #[↑a,↑b,↑c,↑d,↑e,↑f]] w fun r w'=>r=.returned ↑(Dk a b c d e f:Nat)/\Mod ↑ZW w w':=by
 go_enter func409,ntmps409;go_wp2_with fail;refine(Oq _ _ 32 ⟨Z8,Z8⟩ ⟨Z8,Z8⟩).mono ?_;rintro r w1 ⟨rfl,rfl⟩;go_wp2_with fail
 all_goals
  go_ret;refine⟨congrArg (fun z=>Zq (.int .i64 z)) ?_,(Mod.refl _ _).alloc _⟩;unfold Dk XM lQ
  (repeat' split)<;>omega
def wO(f:Nat->Nat)(n k:Nat):Array Value:=((List.range n).map fun i=>Value.int .i64 ((if i<k then f i else 0:Nat):Int)).toArray
theorem dJ(f:Nat->Nat):wO f 6 6=#[↑(f 0),↑(f 1),↑(f 2),↑(f 3),↑(f 4),↑(f 5)]:=rfl
theorem rT(f:Nat->Nat):wO f 6 0=#[↑Z0,↑Z0,↑Z0,↑Z0,↑Z0,↑Z0]:=rfl
theorem wP(f:Nat->Nat)(n k:Nat):(wO f n k).setIfInBounds k ↑(f k)=wO f n (k+1):=by
 unfold wO;rw [List.setIfInBounds_toArray];refine congrArg List.toArray (List.ext_getElem Ze fun i h1 h2=>?_);simp only [List.getElem_set,List.getElem_map,List.getElem_range];by_cases e:k=i
 ·subst e;simp
 ·rw [if_neg e];by_cases h:i<k
  ·rw [if_pos h,VI]
  ·rw [if_neg h,Xb]
theorem Ba{w:World}{q n k:Nat}{t:TypeId}{f:Nat->Nat}(hb:ZI w q t (wO f n k))(hk:k<n):w.cell? ⟨q,k,none⟩=some ↑Z0:=by
 rw [hb.cell];unfold wO;rw [List.getElem?_toArray];simp [hk]
def ajX(w:World)(p q:Nat)(pv:Array Value)(f:Nat->Nat)(i:Value)(wr:World):Prop:=
 ∃k:Nat,k<=6/\i=↑k/\Sat ↑ZW w wr [⟨q,483,wO f 6 k⟩,⟨p,56,pv⟩] []
theorem rP(w:World)(W H:Nat)(A:Option Addr)(n c:Nat)(ZJ:List UInt8)(h:Yx W H=true)(hn:n=W*H)(YZ:BytesIn w A n c ZJ)(x y:Int)(hx:-1073741824<=x/\x<=1073741824):
  Calls prog 371 #[.agg #[↑W,↑H,.slice A n c],↑x,↑y] w fun e w'=>e=.returned ↑(F3 W H ZJ x y:Nat)/\Mod ↑ZW w w':=by
 have HI:=Z5 h (Z9 YZ hn);clear h YZ hn;have h0:=(YT ↑ZW w)
 obtain⟨hx1,hx2⟩:=hx;go_enter func371,ntmps371;go_wp2_with fail;obtain⟨f,hf⟩:∃f:Nat->Nat,f=fun(i:Nat)=>(TB W H ZJ (x-2+(i:Int)) y).toNat:=⟨_,rfl⟩
 have HF:=Z7 hf;clear hf;go_loopw [8] (ajX w w.heap.size (w.heap.size+1) #[↑W,↑H,.slice A n c] f) (fun i _=>6-(intOf i).toNat)
 case atStart=>exact⟨0,Z8,rfl,by rw [rT];exact(by repeat' (first|with_reducible exact h0|with_reducible refine Sat.put ?_ ?_|with_reducible refine Sat.alloc ?_ _ _ ?_|with_reducible rfl|(show(World.heap _).size=_;simp;done)|with_reducible refine Sat.drewN ?_ _|with_reducible refine Sat.drew ?_|exact Tg.here rfl|exact Tg.there (Tg.here rfl)|exact Tg.there (Tg.there (Tg.here rfl))|exact Tg.there (Tg.there (Tg.there (Tg.here rfl)))|exact Tg.there (Tg.there (Tg.there (Tg.there (Tg.here rfl))))))⟩
 case round=>
  obtain⟨k,hk,rfl,HS⟩:=hrel;obtain⟨pc,pf⟩:=(HS.ZX 1 rfl).both;obtain⟨qc,qf⟩:=(HS.ZX 0 rfl).both;have pl:=(HS.ZX 1 rfl).lt;have ql:=(HS.ZX 0 rfl).lt;have HH:=Z7 HS;clear HS;by_cases hlt:k<6
  ·have d1:=Zb ((k:Int)<6);have Co:(TB W H ZJ (x-2+(k:Int)) y).toNat=f k:=by rw [HF.out]
   have HK:=Z7 Co;clear Co qc qf;go_wp2_with fail;refine YX (fAt _ W H A n c ZJ HI.out.1 HI.out.2.2 (HI.out.2.1.quiet HH.out.mod) _ _) fun w1 Y6=>?_;have XZ:=Zw Y6 HH.out;clear Y6 pc pf pl ql;have qf:=(XZ.ZX 0 rfl).frozen;have ql:=(XZ.ZX 0 rfl).lt;have q0:=Ba (XZ.ZX 0 rfl) hlt;have x0:(TB W H ZJ (x-2+(k:Int)) y).toNat<256:=ZN _;have HG:=Z7 XZ;clear XZ;rw [HK.out]at x0 ⊢;go_wp2_with fail;go_roundw
   case rel=>exact⟨k+1,Z8,Zr,HG.out.put (Tg.here (wP f 6 k))⟩
   case measure=>exact YD
  ·obtain rfl:k=6:=Z8;have hb:=HH.out.ZX 0 rfl;rw [dJ]at hb;have q0:wr.cell? ↑(w.heap.size+1)=some ↑(f 0):=hb.cell 0;have q1:wr.cell? ⟨w.heap.size+1,1,none⟩=some ↑(f 1):=hb.cell 1;have q2:wr.cell? ⟨w.heap.size+1,2,none⟩=some ↑(f 2):=hb.cell 2;have q3:wr.cell? ⟨w.heap.size+1,3,none⟩=some ↑(f 3):=hb.cell 3;have q4:wr.cell? ⟨w.heap.size+1,4,none⟩=some ↑(f 4):=hb.cell 4;have q5:wr.cell? ⟨w.heap.size+1,5,none⟩=some ↑(f 5):=hb.cell 5;have zF:∀i,f i<256:=fun i=>by rw [HF.out];exact ZN _
   clear hb pc pf pl qc qf;go_wp2_with fail;refine YX (dG _ _ _ _ _ _ _ (zF _) (zF _) (zF _) (zF _) (zF _) (zF _)) fun w1 Y6=>?_;have hM:=HH.out.mod.trans Y6;clear Y6 ql q0 q1 q2 q3 q4 q5;go_wp2_with fail;go_ret;exact⟨by rw [HF.out];simp [F3],hM⟩
theorem ajm(w:World)(W H:Nat)(A:Option Addr)(n c:Nat)(ZJ:List UInt8)(h:Yx W H=true)(hn:n=W*H)(YZ:BytesIn w A n c ZJ)(x y:Int)(hx:-1073741824<=y/\y<=1073741824):
  Calls prog 372 #[.agg #[↑W,↑H,.slice A n c],↑x,↑y] w fun e w'=>e=.returned ↑(wJ W H ZJ x y:Nat)/\Mod ↑ZW w w':=by
 have HI:=Z5 h (Z9 YZ hn);clear h YZ hn;have h0:=(YT ↑ZW w)
 obtain⟨hx1,hx2⟩:=hx;go_enter func372,ntmps372;go_wp2_with fail;obtain⟨f,hf⟩:∃f:Nat->Nat,f=fun(i:Nat)=>(TB W H ZJ x (y-2+(i:Int))).toNat:=⟨_,rfl⟩
 have HF:=Z7 hf;clear hf;go_loopw [8] (ajX w w.heap.size (w.heap.size+1) #[↑W,↑H,.slice A n c] f) (fun i _=>6-(intOf i).toNat)
 case atStart=>exact⟨0,Z8,rfl,by rw [rT];exact(by repeat' (first|with_reducible exact h0|with_reducible refine Sat.put ?_ ?_|with_reducible refine Sat.alloc ?_ _ _ ?_|with_reducible rfl|(show(World.heap _).size=_;simp;done)|with_reducible refine Sat.drewN ?_ _|with_reducible refine Sat.drew ?_|exact Tg.here rfl|exact Tg.there (Tg.here rfl)|exact Tg.there (Tg.there (Tg.here rfl))|exact Tg.there (Tg.there (Tg.there (Tg.here rfl)))|exact Tg.there (Tg.there (Tg.there (Tg.there (Tg.here rfl))))))⟩
 case round=>
  obtain⟨k,hk,rfl,HS⟩:=hrel;obtain⟨pc,pf⟩:=(HS.ZX 1 rfl).both;obtain⟨qc,qf⟩:=(HS.ZX 0 rfl).both;have pl:=(HS.ZX 1 rfl).lt;have ql:=(HS.ZX 0 rfl).lt;have HH:=Z7 HS;clear HS;by_cases hlt:k<6
  ·have d1:=Zb ((k:Int)<6);have Co:(TB W H ZJ x (y-2+(k:Int))).toNat=f k:=by rw [HF.out]
   have HK:=Z7 Co;clear Co qc qf;go_wp2_with fail;refine YX (fAt _ W H A n c ZJ HI.out.1 HI.out.2.2 (HI.out.2.1.quiet HH.out.mod) _ _) fun w1 Y6=>?_;have XZ:=Zw Y6 HH.out;clear Y6 pc pf pl ql;have qf:=(XZ.ZX 0 rfl).frozen;have ql:=(XZ.ZX 0 rfl).lt;have q0:=Ba (XZ.ZX 0 rfl) hlt;have x0:(TB W H ZJ x (y-2+(k:Int))).toNat<256:=ZN _;have HG:=Z7 XZ;clear XZ;rw [HK.out]at x0 ⊢;go_wp2_with fail;go_roundw
   case rel=>exact⟨k+1,Z8,Zr,HG.out.put (Tg.here (wP f 6 k))⟩
   case measure=>exact YD
  ·obtain rfl:k=6:=Z8;have hb:=HH.out.ZX 0 rfl;rw [dJ]at hb;have q0:wr.cell? ↑(w.heap.size+1)=some ↑(f 0):=hb.cell 0;have q1:wr.cell? ⟨w.heap.size+1,1,none⟩=some ↑(f 1):=hb.cell 1;have q2:wr.cell? ⟨w.heap.size+1,2,none⟩=some ↑(f 2):=hb.cell 2;have q3:wr.cell? ⟨w.heap.size+1,3,none⟩=some ↑(f 3):=hb.cell 3;have q4:wr.cell? ⟨w.heap.size+1,4,none⟩=some ↑(f 4):=hb.cell 4;have q5:wr.cell? ⟨w.heap.size+1,5,none⟩=some ↑(f 5):=hb.cell 5;have zF:∀i,f i<256:=fun i=>by rw [HF.out];exact ZN _
   clear hb pc pf pl qc qf;go_wp2_with fail;refine YX (dG _ _ _ _ _ _ _ (zF _) (zF _) (zF _) (zF _) (zF _) (zF _)) fun w1 Y6=>?_;have hM:=HH.out.mod.trans Y6;clear Y6 ql q0 q1 q2 q3 q4 q5;go_wp2_with fail;go_ret;exact⟨by rw [HF.out];simp [wJ],hM⟩
theorem Cg(x:Int):x.tmod 2=0 ↔ x % 2=0:=by
 by_cases h:0<=x
 ·rw [Zu h]
 ·have e:x = -(-x):=Z8;have h2:x.tmod 2 = -((-x) % 2):=by
   conv=>lhs;rw [e]
   rw [Int.neg_tmod,Zu Z8]
  rw [h2];omega
theorem Ah{x:Int}(h:x % 2=0):(x.tmod 2 == 0)=true:=by rw [beq_iff_eq,Cg];exact h
theorem Ag{x:Int}(h:¬x % 2=0):(x.tmod 2 == 0)=false:=by rw [beq_eq_false_iff_ne,Ne,Cg];exact h
theorem AZ(w:World)(W H:Nat)(A:Option Addr)(n c:Nat)(ZJ:List UInt8)(h:Yx W H=true)(hn:n=W*H)(YZ:BytesIn w A n c ZJ)(x y:Int)(hx:-1073741824<=x/\x<=1073741824)(hy:-1073741824<=y/\y<=1073741824):
  Calls prog 311 #[.agg #[↑W,↑H,.slice A n c],↑x,↑y] w fun e w'=>e=.returned (.int .u8 ((JU W H ZJ x y:Nat):Int))/\Mod ↑ZW w w':=by
 have HI:=Z5 h (Z9 YZ hn);clear h YZ hn;have h0:=(YT ↑ZW w)
 obtain⟨hx1,hx2⟩:=hx;obtain⟨Bt,sM⟩:=hy;have iY:JU W H ZJ x y=JU W H ZJ x y:=rfl
 conv at iY=>rhs;unfold JU
 have HD:=Z7 iY;clear iY;by_cases hcy:y % 2=0
 ·have d2:(y.tmod 2 == 0)=true:=Ah hcy;have HR:=Z7 (HD.out.trans (if_pos hcy));clear hcy HD;by_cases hcx:x % 2=0
  ·have d1:(x.tmod 2 == 0)=true:=Ah hcx;have HR:=Z7 (HR.out.trans (if_pos hcx));clear hcx;go_enter func311,ntmps311;go_wp2_with fail;refine YX (Ur _ W H A n c HI.out.1 HI.out.2.2) fun w1 Y6=>?_;have HS:=(h0.alloc 56 #[↑W,↑H,.slice A n c] rfl).quiet Y6;obtain⟨pc,pf⟩:=(HS.ZX 0 rfl).both;clear Y6;go_wp2_with fail;refine YH (Oq _ _ 2 ⟨Z8,Z8⟩ ⟨Z8,Z8⟩) ?_;go_wp2_with fail;refine YH (Oq _ _ 2 ⟨Z8,Z8⟩ ⟨Z8,Z8⟩) ?_;go_wp2_with fail;refine(fAt _ W H A n c ZJ HI.out.1 HI.out.2.2 (HI.out.2.1.quiet HS.mod) _ _).mono ?_;rintro e w2 ⟨rfl,Y3⟩;go_wp2_with fail;go_ret;exact⟨by rw [HR.out];rfl,HS.mod.trans Y3⟩
  ·have d1:(x.tmod 2 == 0)=false:=Ag hcx;have HR:=Z7 (HR.out.trans (if_neg hcx));have hl:=LX W H ZJ (x/2) (y/2);clear hcx;go_enter func311,ntmps311;go_wp2_with fail;refine YX (Ur _ W H A n c HI.out.1 HI.out.2.2) fun w1 Y6=>?_;have HS:=(h0.alloc 56 #[↑W,↑H,.slice A n c] rfl).quiet Y6;obtain⟨pc,pf⟩:=(HS.ZX 0 rfl).both;clear Y6;go_wp2_with fail;refine YH (Oq _ _ 2 ⟨Z8,Z8⟩ ⟨Z8,Z8⟩) ?_;go_wp2_with fail;refine YH (Oq _ _ 2 ⟨Z8,Z8⟩ ⟨Z8,Z8⟩) ?_;go_wp2_with fail;refine(rP _ W H A n c ZJ HI.out.1 HI.out.2.2 (HI.out.2.1.quiet HS.mod) _ _ ⟨Z8,Z8⟩).mono ?_;rintro e w2 ⟨rfl,Y3⟩;go_wp2_with fail;go_ret;exact⟨by rw [HR.out];rfl,HS.mod.trans Y3⟩
 ·have d2:(y.tmod 2 == 0)=false:=Ag hcy;have HR:=Z7 (HD.out.trans (if_neg hcy));clear hcy HD;by_cases hcx:x % 2=0
  ·have d1:(x.tmod 2 == 0)=true:=Ah hcx;have HR:=Z7 (HR.out.trans (if_pos hcx));have hl:wJ W H ZJ (x/2) (y/2)<256:=Dl _ _ _ _ _ _;clear hcx;go_enter func311,ntmps311;go_wp2_with fail;refine YX (Ur _ W H A n c HI.out.1 HI.out.2.2) fun w1 Y6=>?_;have HS:=(h0.alloc 56 #[↑W,↑H,.slice A n c] rfl).quiet Y6;obtain⟨pc,pf⟩:=(HS.ZX 0 rfl).both;clear Y6;go_wp2_with fail;refine YH (Oq _ _ 2 ⟨Z8,Z8⟩ ⟨Z8,Z8⟩) ?_;go_wp2_with fail;refine YH (Oq _ _ 2 ⟨Z8,Z8⟩ ⟨Z8,Z8⟩) ?_;go_wp2_with fail;refine(ajm _ W H A n c ZJ HI.out.1 HI.out.2.2 (HI.out.2.1.quiet HS.mod) _ _ ⟨Z8,Z8⟩).mono ?_;rintro e w2 ⟨rfl,Y3⟩;go_wp2_with fail;go_ret;exact⟨by rw [HR.out];rfl,HS.mod.trans Y3⟩
  ·have d1:(x.tmod 2 == 0)=false:=Ag hcx;have HR:=Z7 (HR.out.trans (if_neg hcx));clear hcx;go_enter func311,ntmps311;go_wp2_with fail;refine YX (Ur _ W H A n c HI.out.1 HI.out.2.2) fun w1 Y6=>?_;have HS:=(h0.alloc 56 #[↑W,↑H,.slice A n c] rfl).quiet Y6;obtain⟨pc,pf⟩:=(HS.ZX 0 rfl).both;clear Y6;go_wp2_with fail;refine YH (Oq _ _ 2 ⟨Z8,Z8⟩ ⟨Z8,Z8⟩) ?_;go_wp2_with fail;refine YH (Oq _ _ 2 ⟨Z8,Z8⟩ ⟨Z8,Z8⟩) ?_;go_wp2_with fail;have XZ:=HS.drew;have y0:IntKind.i64.wrap (y/2+1)=y/2+1:=Z4 _ ⟨Z8,Z8⟩;have l1:=LX W H ZJ (x/2) (y/2);have l2:=LX W H ZJ (x/2) (y/2+1);clear pc;go_region_held3 (fun w'=>w'.cell? ↑w.heap.size=some ↑W/\w'.cell? ⟨w.heap.size,1,none⟩=some ↑H/\w'.cell? ⟨w.heap.size,2,none⟩=some (.slice A n c)) (first|exact P5 (XZ.ZX 0 rfl)|exact P5 (HS.ZX 0 rfl)) (first|(go_at_call 371;refine YX (rP _ W H A n c ZJ HI.out.1 HI.out.2.2 (HI.out.2.1.quiet XZ.mod) _ _ ⟨Z8,Z8⟩) fun w2 Y3=>?_;have XZ:=XZ.quiet Y3;clear Y3))
   have hM:=XZ.mod;clear y0;go_wp2_with fail;go_ret;refine⟨congrArg (fun z=>Zq (.int .u8 z)) ?_,hM⟩;rw [HR.out];generalize F3 W H ZJ (x/2) (y/2)=a at *;generalize F3 W H ZJ (x/2) (y/2+1)=b at *;rw [Z4 ((a:Int)+(b:Int)) ⟨Z8,Z8⟩,Z4 ((a:Int)+(b:Int)+1) ⟨Z8,Z8⟩];rw [Int.tdiv_eq_ediv_of_nonneg Z8,Z4 _ ⟨Z8,Z8⟩,IntWalk.u8_in _ ⟨Z8,Z8⟩];omega
theorem KD(w:World)(v:Int)(hv:-1048576<=v/\v<=1048576):Calls prog 310 #[↑v] w fun e w'=>e=.returned (.bool true)/\w=w':=by
 have d1:decide (-1048576<=v)=true:=decide_eq_true hv.1;have d2:decide (v<=1048576)=true:=decide_eq_true hv.2;go_enter func310,ntmps310;go_wp2_with fail;go_ret;exact⟨rfl,rfl⟩
def R7(w wr:World)(L:List Nf)(v:Value)(l:List UInt8):Prop:=Bytes wr w.heap.size v l/\Sat ↑ZW w wr L []
theorem R7.quiet{w wr w':World}{L:List Nf}{v:Value}{l:List UInt8}(h:R7 w wr L v l)(hm:Mod ↑ZW wr w'):R7 w w' L v l:=⟨h.1.quiet hm,h.2.quiet hm⟩
theorem R7.app{w wr w':World}{L:List Nf}{v v':Value}{l l':List UInt8}(h:R7 w wr L v l)(hL:∀e∈L,e.t≠5)(ho:Bytes w' w.heap.size v' l')(hm:Mod (fun j=>v.ownBlock=some j) wr w'):R7 w w' L v' l':=
 ⟨ho,Sat.beside hm h.2 (fun j e=>.inr (World.ownsRow.lt h.1 j e).1) (fun e he hb=>h.1.apart (h.2.blk e he) (hL e (by simpa using he)) hb)⟩
def FB1(w:World)(L:List Nf)(f:Nat->UInt8)(v13 v14:Value)(wr:World):Prop:=∃j:Nat,j<=8/\v14=↑j/\R7 w wr L v13 (VZ f (j*8))
def FB2(w:World)(L:List Nf)(f:Nat->UInt8)(j:Nat)(v13 v15:Value)(wr:World):Prop:=∃i:Nat,i<=8/\v15=↑i/\R7 w wr L v13 (VZ f (j*8+i))
theorem adC(w:World)(W H:Nat)(A:Option Addr)(n c:Nat)(ZJ:List UInt8)(h:Yx W H=true)(hn:n=W*H)(YZ:BytesIn w A n c ZJ)(x y:Nat)(vx vy:Int)(hx:x<=4096)(hy:y<=4096)(Im:-128<=vx/\vx<=128)(xH:-128<=vy/\vy<=128):
  Calls prog 232 #[.agg #[↑W,↑H,.slice A n c],↑x,↑y,.int .i64 8,.agg #[↑vx,↑vy]] w
   fun e w'=>∃v,e=.returned v/\Bytes w' w.heap.size v (xP W H ZJ x y 8 vx vy)/\Mod ↑ZW w w':=by
 have HI:=Z5 h (Z9 hn YZ);clear h YZ hn;obtain⟨aT,aU⟩:=Im;obtain⟨aV,aW⟩:=xH;have h0:=((YT ↑ZW w).alloc 56 #[↑W,↑H,.slice A n c] rfl).alloc (g:=w.heap.size+1) 273 #[↑vx,↑vy] Ze;have H0:=Z7 h0;clear h0;go_enter func232,ntmps232;go_wp2_with fail;refine YX (Ur _ W H A n c HI.out.1 HI.out.2.1) fun w1 Y6=>?_;have HS:=H0.out.quiet Y6;obtain⟨pc,pf⟩:=(HS.ZX 1 rfl).both;obtain⟨vc,vf⟩:=(HS.ZX 0 rfl).both;have qV:Hid (R7 w w1 _ ↑Zd (VZ (zX W H ZJ x y 8 vx vy) (0*8))):=⟨Yl _ _ _ _,HS⟩
 clear Y6 HS H0;go_wp2_with fail;refine YH (KD _ _ ⟨Z8,Z8⟩) ?_;go_wp2_with fail;refine YH (KD _ _ ⟨Z8,Z8⟩) ?_;go_wp2_with fail;refine YH (KD _ _ ⟨Z8,Z8⟩) ?_;go_wp2_with fail;refine YH (KD _ _ ⟨Z8,Z8⟩) ?_;go_wp2_with fail;go_loopw [14,15] (FB1 w _ (zX W H ZJ x y 8 vx vy)) (fun _ s _=>8-(intOf s).toNat)
 case atStart=>exact⟨0,Z8,rfl,qV.out⟩
 case round=>
  clear qV pc pf vc vf;obtain⟨j,hj,rfl,hG⟩:=hrel;have HG:=Z7 hG;clear hG;by_cases hlt:j<8
  ·have d1:=Zb ((j:Int)<8);go_wp2_with fail;go_loopw [14,16] (FB2 w _ (zX W H ZJ x y 8 vx vy) j) (fun _ s _=>8-(intOf s).toNat)
   case atStart=>exact⟨0,Z8,rfl,HG.out⟩
   case round=>
    clear HG;rename World=>w5
    obtain⟨i,hi,rfl,hG⟩:=hrel;by_cases Pq:i<8
    ·have d2:=Zb ((i:Int)<8);obtain⟨pc,pf⟩:=(hG.2.ZX 1 rfl).both;obtain⟨vc,vf⟩:=(hG.2.ZX 0 rfl).both;have Bn:JU W H ZJ (2*((x:Int)+(i:Int))+vx) (2*((y:Int)+(j:Int))+vy)=(zX W H ZJ x y 8 vx vy (j*8+i)).toNat:=(uQ _ _ _ _ _ _ _ _ _ _ Pq).symm;have HK:=Z5 hG Bn;clear hG Bn;go_wp2_with fail;refine YX (AZ _ W H A n c ZJ HI.out.1 HI.out.2.1 (HI.out.2.2.quiet HK.out.1.2.mod) _ _ ⟨Z8,Z8⟩ ⟨Z8,Z8⟩) fun w6 Xt=>?_;rw [HK.out.2];have HA:=Z5 (HK.out.1.quiet Xt) ((HK.out.1.quiet Xt).2.mod.size);clear Xt pc pf vc vf;go_wp2_with (at_builtin;have _t:=HA;refine VR _ rfl (.tmp 61) (.tmp 78) rfl w.heap.size _ (VZ (zX W H ZJ x y 8 vx vy) (j*8+i)) (zX W H ZJ x y 8 vx vy (j*8+i)) rfl rfl HA.out.1.1 HA.out.2 (by rw [RL];omega) ?_;intro v7 w7 NK Bi _ _;have HO:=Z7 (HA.out.1.app (by intro e he;simp at he;rcases he with rfl|rfl<;>(dsimp only;decide)) NK Bi);clear NK Bi)
     go_roundw
     case rel=>exact⟨i+1,Z8,Zr,by rw [<-YJ,P7];exact HO.out⟩
     case measure=>exact YD
    ·obtain rfl:i=8:=Z8;have HK:=Z7 hG;clear hG;go_wp2_with fail;go_roundw
     case rel=>exact⟨j+1,Z8,Zr,by rw [Y5,Ym];exact HK.out⟩
     case measure=>exact YD
  ·obtain rfl:j=8:=Z8;go_wp2_with fail;go_ret;exact⟨_,rfl,HG.out.1,HG.out.2.mod⟩
theorem ae1(w:World)(vx vy:Int)(hx:-1048576<=vx/\vx<=1048576)(hy:-1048576<=vy/\vy<=1048576):Calls prog 231 #[.agg #[↑vx,↑vy]] w fun e w'=>e=.returned (.agg #[.int .i64 (vx/2),.int .i64 (vy/2)])/\Mod ↑ZW w w':=by
 obtain⟨hx1,hx2⟩:=hx;obtain⟨Bt,sM⟩:=hy;have h0:=((YT ↑ZW w).alloc 273 #[↑vx,↑vy] rfl).alloc (g:=w.heap.size+1) 273 #[↑Z0,↑Z0] Ze;have HS:=h0.drew;obtain⟨pc,pf⟩:=(HS.ZX 1 rfl).both;obtain⟨qc,qf⟩:=(HS.ZX 0 rfl).both;have ql:=(HS.ZX 0 rfl).lt;have H0:=Z7 h0;clear h0 HS;go_enter func231,ntmps231;go_upto_region 1 with(fail)
 refine YK [7] [] [0,1,2,3,4,5,6,7] ZR ZR Xc ?_;refine Yd ?_;refine Yd ?_;refine QC rfl rfl (fun K hK=>?_);go_simp;refine⟨_,(Oq _ vx 2 ⟨Z8,Z8⟩ ⟨Z8,Z8⟩).mono (fun _ _ ⟨a,b⟩=>⟨a,b.symm⟩),hK _ ?_⟩;clear hK K;refine Yd ?_;refine Yd ?_;refine QC rfl rfl (fun K hK=>?_);go_simp;refine⟨_,(Oq _ vy 2 ⟨Z8,Z8⟩ ⟨Z8,Z8⟩).mono (fun _ _ ⟨a,b⟩=>⟨a,b.symm⟩),hK _ ?_⟩;clear hK K;refine Yd ?_;refine XJ rfl rfl (fun K hK=>?_);go_simp;refine hK _ _ ?_;clear hK K;refine XD ?_;go_wp2_with fail;refine bodyPost_ret (v:=.agg #[.int .i64 (vx/2),.int .i64 (vy/2)]) (by simp [results,results231,go_sem]) rfl ⟨rfl,?_⟩;exact(((Mod.refl _ _).alloc _).alloc _).drew
theorem aaH{W H:Nat}(ZJ:List UInt8){x y:Nat}(pl:Nat)(hx:x+8<=W)(hy:y+8<=H):QE W H ZJ x y pl 0 0=Pv W ZJ x y 8:=by
 have h0:(if 0<pl then(0:Int)/2 else 0)=0:=by split<;>rfl
 unfold QE;rw [h0];unfold xP Pv;refine List.map_congr_left fun k hk=>?_;have alL:k<64:=by simpa using hk
 have e1:zX W H ZJ (x:Int) (y:Int) 8 0 0 k=TB W H ZJ ((x+k % 8:Nat):Int) ((y+k/8:Nat):Int):=by
  unfold zX JU;rw [VI,VI,show(2*((x:Int)+((k % 8:Nat):Int))+0)/2=((x+k % 8:Nat):Int)by omega,show(2*((y:Int)+((k/8:Nat):Int))+0)/2=((y+k/8:Nat):Int)by omega];exact UInt8.ofNat_toNat
 rw [e1];unfold TB CG;rw [Kb Z8,Kb Z8]
def uX(W H:Nat)(ZJ:List UInt8)(x y:Nat)(b:List UInt8)(vx vy:Int)(f:Found):Found:=
 if TZ W H ZJ x y b vx vy<f.far\/TZ W H ZJ x y b vx vy=f.far/\RX vx vy f.vx f.vy=true then⟨vx,vy,TZ W H ZJ x y b vx vy⟩else f
theorem ahead_zero(vx vy:Int):RX vx vy 0 0=false:=by
 unfold RX;by_cases h:vx=0/\vy=0
 ·obtain⟨rfl,rfl⟩:=h;decide
 ·rw [if_pos (by show ¬_=(0:Int).natAbs+(0:Int).natAbs;omega)];exact decide_eq_false (by show ¬_<(0:Int).natAbs+(0:Int).natAbs;omega)
theorem acO(W H:Nat)(ZJ:List UInt8)(x y:Nat)(b:List UInt8)(k:Nat):(O9 W H ZJ x y b k).far<=TZ W H ZJ x y b 0 0/\((O9 W H ZJ x y b k).far=TZ W H ZJ x y b 0 0->(O9 W H ZJ x y b k).vx=0/\(O9 W H ZJ x y b k).vy=0):=by
 induction k with
 | zero=>exact⟨Nat.le_refl _,fun _=>⟨rfl,rfl⟩⟩
 | succ k ih=>
  unfold O9 Mo;generalize O9 W H ZJ x y b k=f at *;split
  ·exact ih
  ·split
   ·rename_i h;rcases h with h|⟨h1,h2⟩
    ·exact⟨by show TZ W H ZJ x y b _ _<=_;omega,fun e=>by
      have e2:TZ W H ZJ x y b (((k % 9:Nat):Int)-4) (((k/9:Nat):Int)-4)=TZ W H ZJ x y b 0 0:=e;omega⟩
    ·refine⟨by show TZ W H ZJ x y b _ _<=_;omega,fun e=>?_⟩;have e2:TZ W H ZJ x y b (((k % 9:Nat):Int)-4) (((k/9:Nat):Int)-4)=TZ W H ZJ x y b 0 0:=e;obtain⟨q1,q2⟩:=ih.2 Z8;rw [q1,q2,ahead_zero]at h2;cases h2
   ·exact ih
theorem abY(W H:Nat)(ZJ:List UInt8)(x y:Nat)(b:List UInt8)(k:Nat):O9 W H ZJ x y b (k+1)=uX W H ZJ x y b (((k % 9:Nat):Int)-4) (((k/9:Nat):Int)-4) (O9 W H ZJ x y b k):=by
 have hi:=acO W H ZJ x y b k;show Mo W H ZJ x y b _ _ _=_;generalize O9 W H ZJ x y b k=f at *;unfold Mo uX;by_cases h:(((k % 9:Nat):Int)-4)=0/\(((k/9:Nat):Int)-4)=0
 ·rw [if_pos h,h.1,h.2,if_neg];rintro(h1|⟨h1,h2⟩)
  ·omega
  ·obtain⟨q1,q2⟩:=hi.2 h1.symm;rw [q1,q2,ahead_zero]at h2;cases h2
 ·rw [if_neg h]
end Go.Proofs.YthednemlahioeaaGreatDoor
