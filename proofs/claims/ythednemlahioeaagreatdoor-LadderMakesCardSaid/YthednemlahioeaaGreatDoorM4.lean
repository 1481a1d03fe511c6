/-
  intra.look.
-/
import Derived.Test.YthednemlahioeaaGreatDoorM2
import Derived.Test.YthednemlahioeaaGreatDoorM3
import Derived.Deep.DeepCutAuto
namespace Go.Proofs.YthednemlahioeaaGreatDoor
open Go.RowKit
open List renaming range→Zz,getElem?_map→XN,drop_eq_nil_of_le→We,ext_getElem→YU,getElem_map→XA,getElem_range→Xf,replicate→ZM
open Nat renaming mul_le_mul_right→YE,mul_comm→YA,add_mul→Y5,one_mul→Ym
open IntWalk renaming wrap64_in→ZA,i64_in→Z4
open And renaming intro→Z9
open Sat renaming nil→YT,after→Zw
open Lib renaming hid→Z7
open UInt8 renaming ofNat→Zl,toNat_lt→ZN
open BinOp renaming and→UN
open IntKind renaming i64→Wu
open BitVec renaming ofInt→YI
open Instr renaming index→UA
open Go.Proofs.Tryz
set_option maxRecDepth 100000
set_option maxHeartbeats 8000000
def Va(W:Nat)(ZJ:List UInt8)(x y:Nat):List UInt8:=(Zz 8).map fun i=>if 0<y then ZJ.getD (y*W+x-W+i) 0 else 128
def UX(W:Nat)(ZJ:List UInt8)(x y:Nat):List UInt8:=(Zz 8).map fun i=>if 0<x then ZJ.getD (y*W+x+i*W-1) 0 else 128
def O4(W:Nat)(ZJ:List UInt8)(x y:Nat):UInt8:=if 0<x/\0<y then ZJ.getD (y*W+x-W-1) 0 else 128
theorem BytesIn.part{w:World}{b off n c:Nat}{l:List UInt8}(h:BytesIn w (some ⟨b,off,none⟩) n c l){lo m:Nat}(IZ:lo+m<=n):Src w 1 (some ⟨b,off+lo,none⟩) m (Yw ((l.drop lo).take m)):=by
 obtain⟨h1,_,h3,_⟩:=h;refine⟨by rw [YG];simp;omega,(fun h=>by cases h),fun ad e j u hu=>?_⟩;injection e with e;subst e;have hj:j<m:=by
  have:=(List.getElem?_eq_some_iff.1 hu).1;rw [YG]at this;simp at this;omega
 have hu2:(Yw l)[lo+j]?=some u:=by
  unfold Yw at hu ⊢;rw [XN,List.getElem?_take,if_pos hj,List.getElem?_drop]at hu;rw [XN];exact hu
 have:=h3.2.2 _ rfl _ _ hu2;rw [VW]at this ⊢;rw [<-this];congr 2;omega
theorem acC{ab lf l:List UInt8}{co:UInt8}(h1:ab.length=8)(hl:l.length=8):(splice (Fa ab lf co) 1 (Yw l)).toArray=Oj l lf co:=by
 unfold splice Fa Oj Fa;rw [YG,hl];have e:(Yw ab++(Yw lf++[Value.int IntKind.u8 (co.toNat:Int)])).drop 8=Yw lf++[Value.int IntKind.u8 (co.toNat:Int)]:=by
  rw [List.drop_append_of_le_length (by rw [YG];omega),We (by rw [YG];omega)];rfl
 simp [e]
theorem aeJ{W x y lo m0:Nat}{ZJ:List UInt8}(hy:0<y)(QN:m0=y*W)(IZ:lo=m0+x-W)(hl:lo+8<=ZJ.length):(ZJ.drop lo).take 8=Va W ZJ x y:=by
 unfold Va;refine YU (by simp;omega) fun i h1 h2=>?_;simp only [List.getElem_take,List.getElem_drop,XA,Xf,if_pos hy,<-QN,<-IZ];rw [List.getD_eq_getElem?_getD,List.getElem?_eq_getElem (by simp at h1;omega)];rfl
def Ct(W:Nat)(ZJ:List UInt8)(x y k:Nat):List UInt8:=(Zz 8).map fun i=>if i<k then ZJ.getD (y*W+x+i*W-1) 0 else 128
theorem FC(W:Nat)(ZJ:List UInt8)(x y k:Nat):(Ct W ZJ x y k).length=8:=by simp [Ct]
theorem PZ(W:Nat)(ZJ:List UInt8)(x y:Nat):(Va W ZJ x y).length=8:=by simp [Va]
theorem KW(W:Nat)(ZJ:List UInt8)(x y:Nat):(UX W ZJ x y).length=8:=by simp [UX]
theorem acd(W:Nat)(ZJ:List UInt8)(x y:Nat):Ct W ZJ x y 0=ZM 8 128:=by unfold Ct;simp;rfl
theorem adl{W x y:Nat}{ZJ:List UInt8}(hx:0<x):Ct W ZJ x y 8=UX W ZJ x y:=by
 unfold Ct UX;refine List.map_congr_left fun i hi=>?_;rw [if_pos (List.mem_range.1 hi),if_pos hx]
theorem adk(W:Nat)(ZJ:List UInt8)(x y k:Nat):(Ct W ZJ x y k).set k (ZJ.getD (y*W+x+k*W-1) 0)=Ct W ZJ x y (k+1):=by
 unfold Ct;refine YU Ze fun i h1 h2=>?_;simp only [List.getElem_set,XA,Xf];by_cases e:k=i
 ·subst e;simp
 ·rw [if_neg e];by_cases h:i<k
  ·rw [if_pos h,VI]
  ·rw [if_neg h,Xb]
theorem aga{m0 x W n k kW ix:Nat}(h1:m0+8*W<=n)(h2:x+8<=W)(hk:k<8)(hkW:kW=k*W)(hx:0<x)(hn:n<=16777216)(Ic:ix=m0+x+kW-1):
  ix<n/\wrap64 (wrap64 ((m0:Int)+(x:Int)+wrap64 ((k:Int)*(W:Int)))-1)=(ix:Int):=by
 have hkl:kW<=7*W:=by rw [hkW];exact YE W Z8
 refine⟨Z8,?_⟩;rw [show(k:Int)*(W:Int)=(kW:Int)by rw [hkW];simp,ZA (kW:Int) ⟨Z8,Z8⟩,ZA ((m0:Int)+(x:Int)+(kW:Int)) ⟨Z8,Z8⟩,ZA _ ⟨Z8,Z8⟩];omega
theorem agb{m0 x W n:Nat}(h1:m0+8*W<=n)(h2:x+8<=W)(hx:0<x)(hW:W<=m0):m0+x-W-1<n/\(m0:Int)+(x:Int)-(W:Int)-1=((m0+x-W-1:Nat):Int):=Z8
theorem Ms{cur cells:List Value}(h:cells.length=cur.length):splice cur 0 cells=cells:=by
 unfold splice;rw [We Z8];simp
theorem EB(ab lf:List UInt8)(co:UInt8):∀u∈Fa ab lf co,u.oneCell'=true:=fun u hu=>by
 unfold Fa at hu;rcases List.mem_cons.1 hu with rfl|hu
 ·rfl
 ·rcases List.mem_append.1 hu with hu|hu
  ·exact Pg _ u hu
  ·rcases List.mem_append.1 hu with hu|hu
   ·exact Pg _ u hu
   ·rw [List.mem_singleton.1 hu];rfl
def ahk(w:World)(a:Nat)(W:Nat)(ZJ:List UInt8)(x y:Nat)(rest:List Nf)(s54:Value)(wr:World):Prop:=
 ∃k:Nat,k<=8/\s54=↑k/\Sat ↑ZW w wr (⟨a,478,Oj (Va W ZJ x y) (Ct W ZJ x y k) 128⟩ :: rest) []
def ahl(w:World)(pb:Nat)(pv:Array Value)(s16:Value)(wr:World):Prop:=
 ∃k:Nat,k<=8/\s16=↑k/\Sat ↑ZW w wr [⟨pb+1+1,478,Oj (Vq (fun _=>128) 8 k) (Vq (fun _=>128) 8 k) 128⟩,⟨pb+1,478,↑qK⟩,⟨pb,56,pv⟩] []
theorem ah8(w:World)(W H:Nat)(A:Option Addr)(n c:Nat)(ZJ:List UInt8)(h:Yx W H=true)(hn:n=W*H)(YZ:BytesIn w A n c ZJ)(xA:n<=c)(x y:Nat)(hx:x+8<=W)(hy:y+8<=H):
  Calls prog 399 #[.agg #[↑W,↑H,.slice A n c],↑x,↑y,.int .i64 8] w fun e w'=>e=.returned (.agg (Oj (Va W ZJ x y) (UX W ZJ x y) (O4 W ZJ x y)))/\Mod ↑ZW w w':=by
 obtain⟨ha,hW1,hW2,hH1,qi,qA⟩:=YB h;obtain⟨m0,QN⟩:=ZL (y*W);have Y6:m0+8*W<=n:=by
  rw [QN,hn,YA W H,<-Y5];exact YE W hy
 rw [<-hn]at ha qA;have Dw:wrap64 ((y:Int)*(W:Int))=(m0:Int):=by
  rw [show(y:Int)*(W:Int)=(m0:Int)by rw [QN];simp];exact ZA _ ⟨Z8,Z8⟩
 have hyW:0<y->W<=m0:=fun h0=>by rw [QN];exact Nat.le_mul_of_pos_left W h0
 obtain⟨b,off,hA,hb,hcell⟩:=YZ.place Z8;subst hA;have HI:=Z5 YZ (Z9 hcell (Z9 Dw (Z9 QN (Z9 hyW hb))));clear h hn YZ Dw QN hyW hcell hb;have h0:=((((YT ↑ZW w).alloc 56 #[↑W,↑H,.slice (some ⟨b,off,none⟩) n c] rfl).alloc (g:=w.heap.size+1) 478 ↑qK Ze).alloc (g:=w.heap.size+1+1) 478 #[.int .i64 8,.int .u8 0,.int .u8 0,.int .u8 0,.int .u8 0,.int .u8 0,.int .u8 0,.int .u8 0,.int .u8 0,.int .u8 0,.int .u8 0,.int .u8 0,.int .u8 0,.int .u8 0,.int .u8 0,.int .u8 0,.int .u8 0,.int .u8 128] Ze)
 have H0:=Z7 h0;clear h0;go_enter func399,ntmps399;go_wp2_with fail;go_loopw [16] (ahl w w.heap.size #[↑W,↑H,.slice (some ⟨b,off,none⟩) n c]) (fun s _=>8-(intOf s).toNat)
 case atStart=>exact⟨0,Z8,rfl,H0.out⟩
 case round=>
  clear H0;obtain⟨k,hk,rfl,HS⟩:=hrel;have hb0:=HS.ZX 0 rfl;dsimp only at hb0;have af:=hb0.frozen;have al:=hb0.lt;have HK:=Z7 HS;clear HS;by_cases hlt:k<8
  ·have c0:=GY hb0 (TP _ _ _) hlt;have c1:=GZ hb0 (TP _ _ _) (TP _ _ _) hlt;clear hb0;have d1:=Zb ((k:Int)<8);go_wp2_with fail;go_roundw
   case rel=>
    refine⟨k+1,Z8,Zr,(HK.out.put (g:=w.heap.size+1+1) (i:=1+k) (u:=.int .u8 ((128:Nat):Int)) (.here (aaA (TP _ _ _) hlt Z8))).put (g:=w.heap.size+1+1) (i:=9+k) (u:=.int .u8 ((128:Nat):Int)) (.here ?_)⟩;rw [Fb (by rw [List.length_set,TP]) (TP _ _ _) hlt Z8];have e:=Bc (fun _=>128) 8 k;rw [show Zl 128=(fun _:Nat=>(128:UInt8)) k from rfl,e]
   case measure=>exact YD
  ·obtain rfl:k=8:=Z8;clear hb0;obtain⟨pc,pf⟩:=(HK.out.ZX 2 rfl).both;go_upto_if 33 with(fail)
   rw [HI.out.2.2.1,ZA ((m0:Int)+(x:Int)) ⟨Z8,Z8⟩];go_cut [] (fun wx=>Sat ↑ZW w wx [⟨w.heap.size+1+1,478,Oj (Va W ZJ x y) (ZM 8 128) 128⟩,⟨w.heap.size+1,478,↑qK⟩,⟨w.heap.size,56,#[↑W,↑H,.slice (some ⟨b,off,none⟩) n c]⟩] [])
   case first=>
    by_cases fE:0<y
    rotate_left
    ·have d1:=Za (0<(y:Int));go_wp2_with fail;go_meet;have e:Va W ZJ x y=ZM 8 128:=by unfold Va;simp [fE];rfl
     rw [e];exact HK.out
    ·have d1:=Zb (0<(y:Int));have hWm:=HI.out.2.2.2.2.1 fE;obtain⟨lo,IZ⟩:=ZL (m0+x-W);have p0:=pc 0;have p2:=pc 2;have e1:IntKind.i64.wrap ((m0:Int)+(x:Int)-(W:Int))=(lo:Int):=by rw [Z4 _ ⟨Z8,Z8⟩];omega
     have e2:IntKind.i64.wrap ((lo:Int)+8)=(lo:Int)+8:=Z4 _ ⟨Z8,Z8⟩;have q1:(0:Int)<=(lo:Int):=Z8;have q2:(lo:Int)<=(lo:Int)+8:=Z8;have q3:(lo:Int)+8<=(c:Int):=Z8;have q4:¬c=lo:=Z8;have xq:lo+8<=n:=Z8;have HL:=Z5 IZ (Z9 e1 e2);clear IZ pc e1 e2;go_upto_region 9 with(fail)
     have e1:=HL.out.2.1;have e2:=HL.out.2.2;refine YK [16] [] [0,1,2,3,4,5,6,7,8,9,10,11,12,13,14,15,16] ZR ZR Xc ?_;iterate 16 (refine Yd ?_)
     have Ji:=((HI.out.1.quiet HK.out.mod).quiet ((Mod.refl ↑ZW wr).drew)).part xq;have N9:ZI wr.drew (w.heap.size+1+1) 478 (Fa (Vq (fun _=>128) 8 8) (Vq (fun _=>128) 8 8) 128).toArray:=(HK.out.ZX 0 rfl).drew;have hlen:((ZJ.drop lo).take 8).length=8:=by have:=HI.out.1.1;simp;omega
     have HY:=Z5 Ji (Z9 N9 hlen);clear Ji N9 hlen;refine XJ rfl rfl (fun K hK=>?_);refine Wq rfl (.tmp 36) (.tmp 49) _ _ rfl 5 underlying54 ZR (some ⟨w.heap.size+1+1,1,none⟩) 8 8 (some ⟨b,off+lo,none⟩) 8 (c-lo) _ (by simp [Act.eval]) (by simp [Act.eval];omega) HY.out.1 (w.heap.size+1+1) 1 _ 478 HY.out.2.1 8 rfl (fun _=>rfl) (by simp [Fa,Yw,Vq]) (Pg _) ?_;intro w5 Ut UR;have GH:=Z5 Ut UR;clear Ut UR;refine hK _ _ ?_;clear hK K;refine XD ?_;clear e1 e2;go_wp2_with fail;go_meet;have Ut:=GH.out.1;rw [List.take_of_length_le (by rw [YG,HY.out.2.2];exact Nat.le_refl _),acC (TP _ _ _) HY.out.2.2,aeJ fE HI.out.2.2.2.1 HL.out.1 (by have:=HI.out.1.1;omega)]at Ut;exact Sat.turn GH.out.2 HK.out.drew Ut .here
   case rest=>
    clear pc pf HK af al;obtain⟨pc,pf⟩:=(hcut.ZX 2 rfl).both;have HC:=Z7 hcut;clear hcut;go_upto_if 52 with(fail)
    go_cut [] (fun wx=>Sat ↑ZW w wx [⟨w.heap.size+1+1,478,Oj (Va W ZJ x y) (UX W ZJ x y) 128⟩,⟨w.heap.size+1,478,↑qK⟩,⟨w.heap.size,56,#[↑W,↑H,.slice (some ⟨b,off,none⟩) n c]⟩] [])
    case first=>
     by_cases hx0:0<x
     rotate_left
     ·have d1:=Za (0<(x:Int));go_wp2_with fail;go_meet;have e:UX W ZJ x y=ZM 8 128:=by unfold UX;simp [hx0];rfl
      rw [e];exact HC.out
     ·have d1:=Zb (0<(x:Int));go_wp2_with fail;go_loopw [54] (ahk w (w.heap.size+1+1) W ZJ x y [⟨w.heap.size+1,478,↑qK⟩,⟨w.heap.size,56,#[↑W,↑H,.slice (some ⟨b,off,none⟩) n c]⟩]) (fun s _=>8-(intOf s).toNat)
      case atStart=>exact⟨0,Z8,rfl,by rw [acd];exact HC.out⟩
      case round=>
       clear HC pc pf d1;rename World=>w6
       obtain⟨k,hk,rfl,HS⟩:=hrel;by_cases hlt:k<8
       ·have d1:=Zb ((k:Int)<8);obtain⟨pc,pf⟩:=(HS.ZX 2 rfl).both;have hb0:=HS.ZX 0 rfl;dsimp only at hb0;have af:=hb0.frozen;have al:=hb0.lt;have c1:=GZ hb0 (PZ _ _ _ _) (FC _ _ _ _ _) hlt;clear hb0;obtain⟨kW,hkW⟩:=ZL (k*W);obtain⟨ix,Ic⟩:=ZL (m0+x+kW-1);obtain⟨qz,he⟩:=aga Y6 hx hlt hkW hx0 ha Ic;have q1:(0:Int)<=(ix:Int):=Int.natCast_nonneg _;have q2:(ix:Int)<(n:Int):=Int.ofNat_lt.2 qz;have kp:w6.cell? ⟨b,off+ix,none⟩=some (.int .u8 ((ZJ.getD ix 0).toNat:Int)):=(World.cell?_of_block (HS.mod.block b HI.out.2.2.2.2.2 (fun h=>h))).trans (HI.out.2.1 ix qz);have x0:(ZJ.getD ix 0).toNat<256:=ZN _;have zN:=adk W ZJ x y k;rw [<-hkW,<-HI.out.2.2.2.1,<-Ic]at zN;have GN:=Z5 HS (Z9 zN (Z9 Ic hkW));clear HS zN Ic hkW;generalize (ZJ.getD ix 0)=px at *;go_wp2_with fail;go_roundw
        case rel=>
         refine⟨k+1,Z8,Zr,GN.out.1.put (.here ?_)⟩;rw [Fb (PZ _ _ _ _) (FC _ _ _ _ _) hlt x0,UInt8.ofNat_toNat,GN.out.2.1]
        case measure=>exact YD
       ·obtain rfl:k=8:=Z8;go_wp2_with fail;go_meet;rw [<-adl hx0];exact HS
    case rest=>
     clear pc pf HC;have HC:=Z7 hcut;clear hcut;rename World=>w7
     by_cases hxy:0<x/\0<y
     ·have d1:=Zb (0<(x:Int));have d2:=Zb (0<(y:Int));obtain⟨pc,pf⟩:=(HC.out.ZX 2 rfl).both;have hb0:=HC.out.ZX 0 rfl;dsimp only at hb0;have af:=hb0.frozen;have al:=hb0.lt;have c1:=Au hb0 (PZ _ _ _ _) (KW _ _ _ _);clear hb0;obtain⟨qz,he⟩:=agb Y6 hx hxy.1 (HI.out.2.2.2.2.1 hxy.2);obtain⟨ix,Ic⟩:=ZL (m0+x-W-1);rw [<-Ic]at qz he;have kp:w7.cell? ⟨b,off+ix,none⟩=some (.int .u8 ((ZJ.getD ix 0).toNat:Int)):=(World.cell?_of_block (HC.out.mod.block b HI.out.2.2.2.2.2 (fun h=>h))).trans (HI.out.2.1 ix qz);have x0:(ZJ.getD ix 0).toNat<256:=ZN _;have hco:O4 W ZJ x y=ZJ.getD ix 0:=by unfold O4;rw [if_pos hxy,<-HI.out.2.2.2.1,<-Ic]
      have q1:(0:Int)<=(ix:Int):=Int.natCast_nonneg _;have q2:(ix:Int)<(n:Int):=Int.ofNat_lt.2 qz;have HO:=Z7 hco;obtain⟨hx1,Bt⟩:=hxy;clear hco Ic;generalize (ZJ.getD ix 0)=px at *;go_upto_region 18 with(fail)
      have HT:=HC.out.put (g:=w.heap.size+1+1) (i:=17) (u:=.int .u8 (px.toNat:Int)) (.here (aan (PZ _ _ _ _) (KW _ _ _ _) x0));rw [UInt8.ofNat_toNat]at HT;rw [<-HO.out]at HT ⊢;have HT:=Z7 HT;clear c1 kp q1 q2 he af al pc pf;go_wp2_with (first|(refine wpList_load_row rfl 478 (.tmp 9) rfl (w.heap.size+1+1) rfl 478 (Oj (Va W ZJ x y) (UX W ZJ x y) (O4 W ZJ x y)) (0,0) _ (HT.out.ZX 0 rfl) underlying478 rfl ZR ?_)|(refine WR rfl 478 (.tmp 8) (.tmp 88) rfl (w.heap.size+1) 0 (Fa (Va W ZJ x y) (UX W ZJ x y) (O4 W ZJ x y)) rfl rfl 478 _ (HT.out.ZX 1 rfl) ZR (by simp [Fa,Yw,Va,UX]) (EB _ _ _) ?_;intro w9 JO VK;have bY:=Z5 JO VK;clear JO VK));have JO:=bY.out.1;rw [Ms (by simp [Fa,Yw,Va,UX])]at JO;exact bodyPost_ret (v:=.agg (Oj (Va W ZJ x y) (UX W ZJ x y) (O4 W ZJ x y))) (results_cell_row rfl _ _ (w.heap.size+1) 478 _ (0,0) _ rfl JO underlying478 rfl ZR) rfl ⟨rfl,HT.out.mod.into bY.out.2 (fun i e=>.inr Z8)⟩
     ·have e:O4 W ZJ x y=128:=by unfold O4;rw [if_neg hxy]
      by_cases hx0:0<x
      ·have d1:=Zb (0<(x:Int));have d2:=Za (0<(y:Int));go_upto_region 18 with(fail)
       have HT:=HC.out;rw [<-e]at HT;have HT:=Z7 HT;go_wp2_with (first|(refine wpList_load_row rfl 478 (.tmp 9) rfl (w.heap.size+1+1) rfl 478 (Oj (Va W ZJ x y) (UX W ZJ x y) (O4 W ZJ x y)) (0,0) _ (HT.out.ZX 0 rfl) underlying478 rfl ZR ?_)|(refine WR rfl 478 (.tmp 8) (.tmp 88) rfl (w.heap.size+1) 0 (Fa (Va W ZJ x y) (UX W ZJ x y) (O4 W ZJ x y)) rfl rfl 478 _ (HT.out.ZX 1 rfl) ZR (by simp [Fa,Yw,Va,UX]) (EB _ _ _) ?_;intro w9 JO VK;have bY:=Z5 JO VK;clear JO VK));have JO:=bY.out.1;rw [Ms (by simp [Fa,Yw,Va,UX])]at JO;exact bodyPost_ret (v:=.agg (Oj (Va W ZJ x y) (UX W ZJ x y) (O4 W ZJ x y))) (results_cell_row rfl _ _ (w.heap.size+1) 478 _ (0,0) _ rfl JO underlying478 rfl ZR) rfl ⟨rfl,HT.out.mod.into bY.out.2 (fun i e=>.inr Z8)⟩
      ·have d1:=Za (0<(x:Int));go_upto_region 18 with(fail)
       have HT:=HC.out;rw [<-e]at HT;have HT:=Z7 HT;go_wp2_with (first|(refine wpList_load_row rfl 478 (.tmp 9) rfl (w.heap.size+1+1) rfl 478 (Oj (Va W ZJ x y) (UX W ZJ x y) (O4 W ZJ x y)) (0,0) _ (HT.out.ZX 0 rfl) underlying478 rfl ZR ?_)|(refine WR rfl 478 (.tmp 8) (.tmp 88) rfl (w.heap.size+1) 0 (Fa (Va W ZJ x y) (UX W ZJ x y) (O4 W ZJ x y)) rfl rfl 478 _ (HT.out.ZX 1 rfl) ZR (by simp [Fa,Yw,Va,UX]) (EB _ _ _) ?_;intro w9 JO VK;have bY:=Z5 JO VK;clear JO VK));have JO:=bY.out.1;rw [Ms (by simp [Fa,Yw,Va,UX])]at JO;exact bodyPost_ret (v:=.agg (Oj (Va W ZJ x y) (UX W ZJ x y) (O4 W ZJ x y))) (results_cell_row rfl _ _ (w.heap.size+1) 478 _ (0,0) _ rfl JO underlying478 rfl ZR) rfl ⟨rfl,HT.out.mod.into bY.out.2 (fun i e=>.inr Z8)⟩
def JU(W H:Nat)(ZJ:List UInt8)(X Y:Int):Nat:=
 if Y % 2=0 then(if X % 2=0 then(TB W H ZJ (X/2) (Y/2)).toNat else F3 W H ZJ (X/2) (Y/2))
 else if X % 2=0 then wJ W H ZJ (X/2) (Y/2)else(F3 W H ZJ (X/2) (Y/2)+F3 W H ZJ (X/2) (Y/2+1)+1)/2
theorem Ru(w:World)(W H:Nat)(A:Option Addr)(n c:Nat)(h:Yx W H=true)(hn:n=W*H):Calls prog 109 #[.agg #[↑W,↑H,.slice A n c]] w fun e w'=>e=.returned (.bool true)/\Mod ↑ZW w w':=by
 subst hn;exact oC w W H A c h
theorem and1(x:Int):bits UN Wu x 1=x % 2:=by
 have e1:(YI 64 x).toNat=(x % 18446744073709551616).toNat:=by rw [BitVec.toNat_ofInt];rfl
 have e2:(YI 64 1).toNat=1:=ZU;show IntKind.i64.wrap ((YI 64 x &&& YI 64 1).toNat:Nat)=_;rw [BitVec.toNat_and,e1,e2,Nat.and_one_is_mod,Z4 _ ⟨Z8,Z8⟩];omega
theorem P5{w:World}{p:Nat}{W H:Int}{v:Value}(h:ZI w p 56 #[↑W,↑H,v]):w.cell? ↑p=some ↑W/\w.cell? ⟨p,1,none⟩=some ↑H/\w.cell? ⟨p,2,none⟩=some v:=⟨h.cell 0,h.cell 1,h.cell 2⟩
theorem xM(w:World)(W H:Nat)(A:Option Addr)(n c:Nat)(ZJ:List UInt8)(h:Yx W H=true)(hn:n=W*H)(YZ:BytesIn w A (W*H) c ZJ)(x y:Int)(hx:-1073741824<=x/\x<=1073741824):
  Calls prog 393 #[.agg #[↑W,↑H,.slice A n c],↑x,↑y] w fun e w'=>e=.returned (.int .u8 ((F3 W H ZJ x y:Nat):Int))/\Mod ↑ZW w w':=by
 subst hn;exact aeI w W H A c ZJ h YZ x y hx
theorem af8(w:World)(W H:Nat)(A:Option Addr)(n c:Nat)(ZJ:List UInt8)(h:Yx W H=true)(hn:n=W*H)(YZ:BytesIn w A (W*H) c ZJ)(x y:Int)(hy:-1073741824<=y/\y<=1073741824):
  Calls prog 394 #[.agg #[↑W,↑H,.slice A n c],↑x,↑y] w fun e w'=>e=.returned (.int .u8 ((wJ W H ZJ x y:Nat):Int))/\Mod ↑ZW w w':=by
 subst hn;exact ah4 w W H A c ZJ h YZ x y hy
theorem LX(W H:Nat)(ZJ:List UInt8)(x y:Int):F3 W H ZJ x y<256:=Dl _ _ _ _ _ _
theorem aeG(w:World)(W H:Nat)(A:Option Addr)(n c:Nat)(ZJ:List UInt8)(h:Yx W H=true)(hn:n=W*H)(YZ:BytesIn w A (W*H) c ZJ)(x y:Int)(hx:-1073741824<=x/\x<=1073741824)(hy:-1073741824<=y/\y<=1073741824):
  Calls prog 349 #[.agg #[↑W,↑H,.slice A n c],↑x,↑y] w fun e w'=>e=.returned (.int .u8 ((JU W H ZJ x y:Nat):Int))/\Mod ↑ZW w w':=by
 have HI:=Z5 h (Z9 YZ hn);clear h YZ hn;have h0:=(YT ↑ZW w)
 obtain⟨hx1,hx2⟩:=hx;obtain⟨Bt,sM⟩:=hy;have ax:=and1 x;have ay:=and1 y;have d1:(bits UN Wu x 1 == 0)=decide (x % 2=0):=by rw [ax];rfl
 have d2:(bits UN Wu y 1 == 0)=decide (y % 2=0):=by rw [ay];rfl
 have iY:JU W H ZJ x y=JU W H ZJ x y:=rfl
 conv at iY=>rhs;unfold JU
 have HD:=Z5 d1 (Z9 d2 iY);clear ax ay d1 d2 iY;by_cases hcy:y % 2=0
 ·have d2:(bits UN Wu y 1 == 0)=true:=HD.out.2.1.trans (decide_eq_true hcy);have HR:=Z7 (HD.out.2.2.trans (if_pos hcy));clear hcy;by_cases hcx:x % 2=0
  ·have d1:(bits UN Wu x 1 == 0)=true:=HD.out.1.trans (decide_eq_true hcx);have HR:=Z7 (HR.out.trans (if_pos hcx));clear hcx;go_enter func349,ntmps349;go_wp2_with fail;refine YX (Ru _ W H A n c HI.out.1 HI.out.2.2) fun w1 Y6=>?_;have HS:=Zw Y6 (h0.alloc _ _ rfl);obtain⟨pc,pf⟩:=(HS.ZX 0 rfl).both;clear Y6;go_wp2_with fail;refine(bQ _ W H A n c ZJ HI.out.1 HI.out.2.2 (HI.out.2.1.quiet HS.mod) _ _).mono ?_;rintro e w2 ⟨rfl,Y3⟩;go_wp2_with fail;go_ret;exact⟨by rw [HR.out];rfl,HS.mod.trans Y3⟩
  ·have d1:(bits UN Wu x 1 == 0)=false:=HD.out.1.trans (decide_eq_false hcx);have HR:=Z7 (HR.out.trans (if_neg hcx));clear hcx;go_enter func349,ntmps349;go_wp2_with fail;refine YX (Ru _ W H A n c HI.out.1 HI.out.2.2) fun w1 Y6=>?_;have HS:=Zw Y6 (h0.alloc _ _ rfl);obtain⟨pc,pf⟩:=(HS.ZX 0 rfl).both;clear Y6;go_wp2_with fail;refine(xM _ W H A n c ZJ HI.out.1 HI.out.2.2 (HI.out.2.1.quiet HS.mod) _ _ ⟨Z8,Z8⟩).mono ?_;rintro e w2 ⟨rfl,Y3⟩;go_wp2_with fail;go_ret;exact⟨by rw [HR.out];rfl,HS.mod.trans Y3⟩
 ·have d2:(bits UN Wu y 1 == 0)=false:=HD.out.2.1.trans (decide_eq_false hcy);have HR:=Z7 (HD.out.2.2.trans (if_neg hcy));clear hcy;by_cases hcx:x % 2=0
  ·have d1:(bits UN Wu x 1 == 0)=true:=HD.out.1.trans (decide_eq_true hcx);have HR:=Z7 (HR.out.trans (if_pos hcx));clear hcx;go_enter func349,ntmps349;go_wp2_with fail;refine YX (Ru _ W H A n c HI.out.1 HI.out.2.2) fun w1 Y6=>?_;have HS:=Zw Y6 (h0.alloc _ _ rfl);obtain⟨pc,pf⟩:=(HS.ZX 0 rfl).both;clear Y6;go_wp2_with fail;refine(af8 _ W H A n c ZJ HI.out.1 HI.out.2.2 (HI.out.2.1.quiet HS.mod) _ _ ⟨Z8,Z8⟩).mono ?_;rintro e w2 ⟨rfl,Y3⟩;go_wp2_with fail;go_ret;exact⟨by rw [HR.out];rfl,HS.mod.trans Y3⟩
  ·have d1:(bits UN Wu x 1 == 0)=false:=HD.out.1.trans (decide_eq_false hcx);have HR:=Z7 (HR.out.trans (if_neg hcx));clear hcx;go_enter func349,ntmps349;go_wp2_with fail;refine YX (Ru _ W H A n c HI.out.1 HI.out.2.2) fun w1 Y6=>?_;have HS:=Zw Y6 (h0.alloc _ _ rfl);obtain⟨pc,pf⟩:=(HS.ZX 0 rfl).both;clear Y6;go_wp2_with fail;have x0:=(HS.ZX 0 rfl).drew;have hM:=HS.mod.drew;have y0:IntKind.i64.wrap (y/2+1)=y/2+1:=Z4 _ ⟨Z8,Z8⟩;have l1:=LX W H ZJ (x/2) (y/2);have l2:=LX W H ZJ (x/2) (y/2+1);clear pc;go_region_held3 (fun w'=>w'.cell? ↑w.heap.size=some ↑W/\w'.cell? ⟨w.heap.size,1,none⟩=some ↑H/\w'.cell? ⟨w.heap.size,2,none⟩=some (.slice A n c)) (first|exact P5 x0|exact P5 (HS.ZX 0 rfl)) (first|(go_at_call 393;refine YX (xM _ W H A n c ZJ HI.out.1 HI.out.2.2 (HI.out.2.1.quiet hM) _ _ ⟨Z8,Z8⟩) fun w2 Y3=>?_;have x0:=x0.keep Y3 (fun h=>h);have hM:=hM.trans Y3;clear Y3))
   clear y0;go_wp2_with fail;go_ret;refine⟨congrArg (fun z=>Ending.returned (.int .u8 z)) ?_,hM⟩;rw [HR.out];generalize F3 W H ZJ (x/2) (y/2)=a at *;generalize F3 W H ZJ (x/2) (y/2+1)=b at *;rw [Z4 (a:Int) ⟨Z8,Z8⟩,Z4 (b:Int) ⟨Z8,Z8⟩,Z4 ((a:Int)+(b:Int)) ⟨Z8,Z8⟩,Z4 ((a:Int)+(b:Int)+1) ⟨Z8,Z8⟩,IntWalk.u8_in _ ⟨Z8,Z8⟩];omega
theorem ad9(W H:Nat)(ZJ:List UInt8)(X Y:Int):JU W H ZJ X Y<256:=by
 unfold JU wJ;have h1:=LX W H ZJ (X/2) (Y/2);have h2:=LX W H ZJ (X/2) (Y/2+1);split
 ·split
  ·exact ZN _
  ·exact h1
 ·split
  ·exact Dl _ _ _ _ _ _
  ·omega
def zX(W H:Nat)(ZJ:List UInt8)(x y:Int)(n:Nat)(vx vy:Int)(k:Nat):UInt8:=Zl (JU W H ZJ (2*(x+((k % n:Nat):Int))+vx) (2*(y+((k/n:Nat):Int))+vy))
def xP(W H:Nat)(ZJ:List UInt8)(x y:Int)(n:Nat)(vx vy:Int):List UInt8:=(Zz (n*n)).map (zX W H ZJ x y n vx vy)
theorem uQ(W H:Nat)(ZJ:List UInt8)(x y:Int)(n:Nat)(vx vy:Int)(j i:Nat)(hi:i<n):(zX W H ZJ x y n vx vy (j*n+i)).toNat=JU W H ZJ (2*(x+(i:Int))+vx) (2*(y+(j:Int))+vy):=by
 unfold zX;have h1:(j*n+i) % n=i:=by rw [YA,Nat.mul_add_mod,Nat.mod_eq_of_lt hi]
 have h2:(j*n+i)/n=j:=by rw [YA,Nat.mul_add_div Z8,Nat.div_eq_of_lt hi,Nat.add_zero]
 rw [h1,h2];have:=ad9 W H ZJ (2*(x+(i:Int))+vx) (2*(y+(j:Int))+vy);rw [UInt8.toNat_ofNat'];omega
theorem KX(f:Nat->UInt8)(n:Nat):(Yw (ZM n 0)).toArray=(Yw (Vq f n 0)).toArray:=by rw [abJ]
def ajL(w:World)(q p v N n:Nat)(pv vv:Array Value)(f:Nat->UInt8)(s49:Value)(wr:World):Prop:=
 ∃j:Nat,j<=n/\s49=↑j/\Sat ↑ZW w wr [⟨q,5,(Yw (Vq f N (j*n))).toArray⟩,⟨v,273,vv⟩,⟨p,56,pv⟩] []
def ahj(w:World)(q p v N n j:Nat)(pv vv:Array Value)(f:Nat->UInt8)(s53:Value)(wr:World):Prop:=
 ∃i:Nat,i<=n/\s53=↑i/\Sat ↑ZW w wr [⟨q,5,(Yw (Vq f N (j*n+i))).toArray⟩,⟨v,273,vv⟩,⟨p,56,pv⟩] []
theorem zW(w:World)(W H:Nat)(A:Option Addr)(m c:Nat)(ZJ:List UInt8)(h:Yx W H=true)(hm:m=W*H)(YZ:BytesIn w A (W*H) c ZJ)(x y vx vy:Int)(n:Nat)(hx:-1048576<=x/\x<=1048576)(hy:-1048576<=y/\y<=1048576)(Im:-1048576<=vx/\vx<=1048576)(xH:-1048576<=vy/\vy<=1048576)(hn:1<=n/\n<=64):
  Calls prog 296 #[.agg #[↑W,↑H,.slice A m c],↑x,↑y,↑n,.agg #[↑vx,↑vy]] w
   fun e w'=>∃g N,N=n*n/\e=.returned ↑(ZZ g N N)/\ZI w' g 5 (Yw (xP W H ZJ x y n vx vy)).toArray/\w.heap.size<=g/\Mod ↑ZW w w':=by
 have HI:=Z5 h (Z9 YZ hm);clear h YZ hm;have h0:=(YT ↑ZW w)
 obtain⟨hx1,hx2⟩:=hx;obtain⟨Bt,sM⟩:=hy;obtain⟨aT,aU⟩:=Im;obtain⟨aV,aW⟩:=xH;obtain⟨qA,yC⟩:=hn;obtain⟨N,hN⟩:=ZL (n*n);have hNb:N<=4096:=by rw [hN];exact Nat.le_trans (Nat.mul_le_mul yC yC) Z8
 have dV:wrap64 ((n:Int)*(n:Int))=(N:Int):=by
  rw [show(n:Int)*(n:Int)=(N:Int)by rw [hN];simp];exact ZA _ ⟨Z8,Z8⟩
 have HN:=Z5 hN dV;clear hN dV;have t1:=Za ((n:Int)<1);have t2:=Za (64<(n:Int));go_enter func296,ntmps296;go_wp2_with fail;refine YX (Ru _ W H A m c HI.out.1 HI.out.2.2) fun w1 Y6=>?_;have HS:=Zw Y6 ((h0.alloc _ _ rfl).alloc (g:=w.heap.size+1) _ _ Ze);clear Y6 h0;obtain⟨vc,vf⟩:=(HS.ZX 0 rfl).both;have HH:=Z7 HS;clear HS;go_wp2_with fail;clear vc vf;go_loop [34] (fun i=>∃k:Nat,k<=4/\i=↑k) (fun i=>4-(intOf i).toNat)
 case atStart=>exact⟨0,Z8,rfl⟩
 case round=>
  obtain⟨k,hk,rfl⟩:=hrel;have a1:=Za (x < -1048576);have a2:=Za (1048576<x);have b1:=Za (y < -1048576);have b2:=Za (1048576<y);have c1:=Za (vx < -1048576);have c2:=Za (1048576<vx);have d1:=Za (vy < -1048576);have d2:=Za (1048576<vy);have i0:∀w,(UA 446 (.agg #[↑x,↑y,↑vx,↑vy]) ↑Z0).run prog w=.ok ↑x w:=fun _=>by kernel_rfl
  have i1:∀w,(UA 446 (.agg #[↑x,↑y,↑vx,↑vy]) (.int .i64 1)).run prog w=.ok ↑y w:=fun _=>by kernel_rfl
  have i2:∀w,(UA 446 (.agg #[↑x,↑y,↑vx,↑vy]) (.int .i64 2)).run prog w=.ok ↑vx w:=fun _=>by kernel_rfl
  have i3:∀w,(UA 446 (.agg #[↑x,↑y,↑vx,↑vy]) (.int .i64 3)).run prog w=.ok ↑vy w:=fun _=>by kernel_rfl
  have hcs:k=0\/k=1\/k=2\/k=3\/k=4:=Z8;clear hk;rcases hcs with rfl|rfl|rfl|rfl|rfl
  ·go_wp2_with fail;go_round
   case rel=>exact⟨1,Z8,Zr⟩
   case measure=>simp [intOf]
  ·go_wp2_with fail;go_round
   case rel=>exact⟨2,Z8,Zr⟩
   case measure=>simp [intOf]
  ·go_wp2_with fail;go_round
   case rel=>exact⟨3,Z8,Zr⟩
   case measure=>simp [intOf]
  ·go_wp2_with fail;go_round
   case rel=>exact⟨4,Z8,Zr⟩
   case measure=>simp [intOf]
  ·clear i0 i1 i2 i3 a1 a2 b1 b2 c1 c2 d1 d2;go_wp2_with (refine TV _ rfl (.tmp 46) (.tmp 46) rfl N (congrArg (Value.int .i64) HN.out.2) (congrArg (Value.int .i64) HN.out.2) Z8 ?_;intro w3 hb3 X7;have HO:=Z5 hb3 X7;clear hb3 X7)
   have DC:=HO.out.1;rw [KX (zX W H ZJ x y n vx vy)]at DC;have hqs:w.heap.size+2<=w1.heap.size:=by
    have h1:=(HH.out.ZX 0 rfl).lt;exact h1
   have Td:=(HH.out.quiet HO.out.2).NA (g:=w1.heap.size) DC (.inr Z8) (by
    intro e he;have:=(HH.out.blk e he).lt;omega)
   obtain⟨q,hq⟩:=ZL (w1.heap.size);have hqw:w.heap.size<=q:=Z8;rw [<-hq]at Td ⊢;obtain⟨f,hf⟩:=ZL (zX W H ZJ x y n vx vy);rw [<-hf]at Td;have HF:=Z7 hf;clear hf hq DC hqs HO HH;go_wp2_with fail;go_loopw [49] (ajL w q w.heap.size (w.heap.size+1) N n #[↑W,↑H,.slice A m c] #[↑vx,↑vy] f) (fun s _=>n-(intOf s).toNat)
   case atStart=>exact⟨0,Z8,rfl,by rw [Nat.zero_mul];exact Td⟩
   case round=>
    clear Td;obtain⟨j,hj,rfl,HSj⟩:=hrel;have HJ:=Z7 HSj;clear HSj;by_cases hlt:j<n
    ·have d1:=Zb ((j:Int)<(n:Int));obtain⟨m0,QN⟩:=ZL (j*n);have iO:m0+n<=N:=by
      rw [QN,HN.out.1];have:=YE n (show j+1<=n by omega);rw [Y5,Ym]at this;exact this
     have Dw:wrap64 ((j:Int)*(n:Int))=(m0:Int):=by
      rw [show(j:Int)*(n:Int)=(m0:Int)by rw [QN];simp];exact ZA _ ⟨Z8,Z8⟩
     have HM:=Z5 QN Dw;clear QN Dw;go_wp2_with fail;go_loopw [53] (ahj w q w.heap.size (w.heap.size+1) N n j #[↑W,↑H,.slice A m c] #[↑vx,↑vy] f) (fun s _=>n-(intOf s).toNat)
     case atStart=>exact⟨0,Z8,rfl,HJ.out⟩
     case round=>
      clear HJ;rename World=>w5
      obtain⟨i,hi,rfl,vC⟩:=hrel;by_cases Pq:i<n
      ·have d2:=Zb ((i:Int)<(n:Int));obtain⟨vc,vf⟩:=(vC.ZX 1 rfl).both;obtain⟨pc,pf⟩:=(vC.ZX 2 rfl).both;have Bn:JU W H ZJ (2*(x+(i:Int))+vx) (2*(y+(j:Int))+vy)=(f (j*n+i)).toNat:=by rw [HF.out,uQ _ _ _ _ _ _ _ _ _ _ Pq]
       have HG:=Z5 vC Bn;clear vC Bn;go_wp2_with fail;refine YX (aeG _ W H A m c ZJ HI.out.1 HI.out.2.2 (HI.out.2.1.quiet HG.out.1.mod) _ _ ⟨Z8,Z8⟩ ⟨Z8,Z8⟩) fun w4 Xl=>?_;have IW:=Zw Xl HG.out.1;clear Xl pc pf vc vf;have qf:=(IW.ZX 0 rfl).frozen;have ql:=(IW.ZX 0 rfl).lt;rw [HG.out.2];rw [<-HM.out.1]at IW ⊢;have q0:=Ra (IW.ZX 0 rfl) (show m0+i<N by omega);rw [HM.out.2,ZA ((m0:Int)+(i:Int)) ⟨Z8,Z8⟩];have HG4:=Z7 IW;clear IW;go_wp2_with fail;go_roundw
       case rel=>exact⟨i+1,Z8,Zr,by rw [<-HM.out.1];exact HG4.out.put (Tg.here (Ou f N (m0+i)))⟩
       case measure=>exact YD
      ·obtain rfl:i=n:=Z8;have HG:=Z7 vC;clear vC;go_wp2_with fail;go_roundw
       case rel=>exact⟨j+1,Z8,Zr,by rw [Y5,Ym];exact HG.out⟩
       case measure=>exact YD
    ·obtain rfl:j=n:=Z8;go_wp2_with fail;go_ret;have hb:=HJ.out.ZX 0 rfl;rw [show(j*j)=N from HN.out.1.symm,J4,HF.out]at hb;refine⟨q,N,HN.out.1,rfl,?_,hqw,HJ.out.mod⟩;unfold xP;rw [<-HN.out.1];exact hb
end Go.Proofs.YthednemlahioeaaGreatDoor
