/-
  The reference's search of a vector, of 16 times 16.
-/
import Derived.Test.YthednemlahioeaaGreatDoorM24
namespace Go.Proofs.YthednemlahioeaaGreatDoor
open Go.RowKit
open And renaming intro→Z9
open Sat renaming nil→YT,after→Zw,beside→Oi
open Lib renaming hid→Z7
open Ending renaming returned→Zq
open IntWalk renaming i64_in→Z4
open List renaming getD_eq_getElem?_getD→Z6,getElem?_append_left→Zv,length_take→YN,getElem?_take→Wy,getElem?_append_right→ZF,getElem?_drop→U8,getElem?_eq_none→Zi
open Go.Proofs.Tryz
set_option maxRecDepth 100000
set_option maxHeartbeats 8000000
def ahr(p r bb:Nat)(pv:Array Value)(f:Found):List Nf:=
 [⟨bb,273,#[↑f.vx,↑f.vy]⟩,⟨r,273,#[↑Z0,↑Z0]⟩,⟨p,56,pv⟩]
def ahq(w:World)(p r bb:Nat)(pv:Array Value)(F:Nat->Found)(v17 v18:Value)(wr:World):Prop:=
 ∃(j:Nat) (e:Int),j<=9/\e=(j:Int)-4/\v18=↑e/\v17=↑((F (9*j)).far)/\Sat ↑ZW w wr (ahr p r bb pv (F (9*j))) []
def afx(w:World)(p r bb j:Nat)(pv:Array Value)(F:Nat->Found)(v17 v19:Value)(wr:World):Prop:=
 ∃(i:Nat) (a:Int),i<=9/\a=(i:Int)-4/\v19=↑a/\v17=↑((F (9*j+i)).far)/\Sat ↑ZW w wr (ahr p r bb pv (F (9*j+i))) []
def nQ:Value->Nat
 | .int _ n=>(5-n).toNat
 | _=>0
theorem acX(w:World)(W H:Nat)(A:Option Addr)(n c:Nat)(ZJ:List UInt8)(h:Yx W H=true)(hn:n=W*H)(YZ:BytesIn w A n c ZJ)(x y:Nat)(hx:x+16<=W)(hy:y+16<=H)
  (A2:Option Addr)(c2:Nat)(b:List UInt8)(hb:BytesIn w A2 256 c2 b):
  Calls prog 224 #[.agg #[↑W,↑H,.slice A n c],↑x,↑y,.int .i64 16,.slice A2 256 c2,.int .i64 4] w
   fun e w'=>∃v,e=.returned (.tuple #[.agg #[.int .i64 (TU W H ZJ x y b).vx,.int .i64 (TU W H ZJ x y b).vy],v,↑((TU W H ZJ x y b).far)])/\Mod ↑ZW w w':=by
 obtain⟨_,_,hW,_,hH,_⟩:=YB h;have HI:=Z5 h (Z9 hn (Z9 YZ hb));have h0:=((YT ↑ZW w).alloc 56 #[↑W,↑H,.slice A n c] rfl).alloc (g:=w.heap.size+1) 273 #[↑Z0,↑Z0] Ze;have HS:=Z7 h0;clear h hn YZ hb h0;go_enter func224,ntmps224;go_upto_region 1 with(fail)
 generalize (w.alloc (.cells #[↑W,↑H,.slice A n c] 56)).alloc (.cells #[↑Z0,↑Z0] 273)=w1 at *;obtain⟨pc,pf⟩:=(HS.out.ZX 1 rfl).both;dsimp only at pc;have B0:=Z7 (Gx w1 W H A n c ZJ HI.out.1 HI.out.2.1 (HI.out.2.2.1.quiet HS.out.mod) x y 0 0 Z8 Z8 ⟨Z8,Z8⟩ ⟨Z8,Z8⟩);go_wp2_with fail;refine B0.out.mono ?_;rintro e w2 ⟨v2,rfl,hbg,Y3⟩;obtain⟨A5,c5,hv5⟩:=ZG hbg;subst hv5;have hl2:(xP W H ZJ (x:Int) (y:Int) 16 0 0).length=256:=SG _ _ _ _ _ _ _ _;rw [hl2]at hbg ⊢;have V4:=Z7 ((Zw Y3 HS.out).alloc 273 #[↑Z0,↑Z0] rfl);have GM:=Z5 hbg.RU Y3;clear Y3 hbg HS pc pf B0 hl2;go_upto_region 5 with(fail)
 obtain⟨bb,N8⟩:=ZL (w2.heap.size);have HMa:=Z7 ((Mod.refl ↑ZW w2).alloc (.cells #[↑Z0,↑Z0] 273));rw [<-N8]at V4 ⊢;clear N8;generalize w2.alloc (.cells #[↑Z0,↑Z0] 273)=w3 at *;have F0:=Z7 (yf w3 A5 256 c5 _ A2 c2 b (GM.out.1.quiet HMa.out) (HI.out.2.2.2.quiet V4.out.mod) Z8 Z8);go_wp2_with fail;refine F0.out.mono ?_;rintro e w4 ⟨rfl,m4,rfl⟩;obtain⟨F,hF⟩:=ZL (O9 W H ZJ x y b);have Bq:Sat ↑ZW w (w3.drewN m4) (ahr w.heap.size (w.heap.size+1) bb #[↑W,↑H,.slice A n c] (F 0)) []:=by rw [hF];exact V4.out.drewN m4
 have e4:UZ (xP W H ZJ (x:Int) (y:Int) 16 0 0) b 256=(F 0).far:=by rw [hF];rfl
 rw [e4];have HF:Hid (F=O9 W H ZJ x y b/\TU W H ZJ x y b=F 81/\(∀k,k<=81->(-4<=(F k).vx/\(F k).vx<=4)/\(-4<=(F k).vy/\(F k).vy<=4)/\(F k).far<=65280)):=by rw [hF];exact⟨rfl,rfl,IE W H ZJ x y b⟩
 have Td:=Z7 Bq;clear hF Bq e4 V4 GM HMa F0;go_wp2_with fail;go_loopw [17,18] (ahq w w.heap.size (w.heap.size+1) bb #[↑W,↑H,.slice A n c] F) (fun _ s _=>nQ s)
 case atStart=>exact⟨0,-4,Z8,Z8,rfl,rfl,Td.out⟩
 case round=>
  clear Td;obtain⟨j,e,hj,hje,rfl,rfl,hs⟩:=hrel;rename World=>w4
  by_cases hlt:j<9
  ·have d1:=Zb (e<=4);have he1:-4<=e:=Z8;have he2:e<=4:=Z8;have HJ:=Z7 hs;have HJE:=Z7 hje;clear hs hje;go_wp2_with fail;go_loopw [17,19] (afx w w.heap.size (w.heap.size+1) bb j #[↑W,↑H,.slice A n c] F) (fun _ s _=>nQ s)
   case atStart=>exact⟨0,-4,Z8,Z8,rfl,rfl,HJ.out⟩
   case round=>
    clear HJ;obtain⟨i,a,hi,hia,rfl,rfl,hs⟩:=hrel;rename World=>w5
    by_cases Pq:i<9
    ·have d2:=Zb (a<=4);have ha1:-4<=a:=Z8;have ha2:a<=4:=Z8;obtain⟨fb,Px⟩:=ZL (F (9*j+i));rw [<-Px]at hs ⊢;have LG:=HF.out.2.2 (9*j+i) Z8;rw [<-Px]at LG;obtain⟨⟨bd1,bd2⟩,⟨bd3,bd4⟩,bd5⟩:=LG;have HZ:Hid (F (9*j+(i+1))=uX W H ZJ x y b a e fb):=by
      show _=_;have e1:(((9*j+i) % 9:Nat):Int)-4=a:=Z8;have e2:(((9*j+i)/9:Nat):Int)-4=e:=by have:=HJE.out;omega
      rw [show 9*j+(i+1)=9*j+i+1 by omega,HF.out.1,abY,<-HF.out.1,<-Px,e1,e2]
     have tX:=Z5 Px hia;clear Px hia;have h5:=hs.alloc (g:=w5.heap.size) 273 #[↑a,.int .i64 e] rfl;have HK:=Z7 h5;clear h5 hs;go_upto_region 13 with(fail)
     generalize w5.alloc (.cells #[↑a,.int .i64 e] 273)=w6 at *;obtain⟨vb,xG⟩:=ZL (w5.heap.size);rw [<-xG]at HK ⊢;clear xG;obtain⟨vc,vf⟩:=(HK.out.ZX 0 rfl).both;obtain⟨pc,pf⟩:=(HK.out.ZX 3 rfl).both;dsimp only at vc pc;have B1:=Z7 (Gx w6 W H A n c ZJ HI.out.1 HI.out.2.1 (HI.out.2.2.1.quiet HK.out.mod) x y a e Z8 Z8 ⟨Z8,Z8⟩ ⟨Z8,Z8⟩);go_wp2_with fail;refine B1.out.mono ?_;rintro e7 w7 ⟨v7,rfl,hbg,Sn⟩;obtain⟨A7,c7,vS⟩:=ZG hbg;subst vS;have jK:(xP W H ZJ (x:Int) (y:Int) 16 a e).length=256:=SG _ _ _ _ _ _ _ _;rw [jK]at hbg ⊢;have GJ:=Z7 (Zw Sn HK.out);have F1:=yf w7 A7 256 c7 _ A2 c2 b hbg.RU (HI.out.2.2.2.quiet GJ.out.mod) Z8 Z8;have HD:UZ (xP W H ZJ (x:Int) (y:Int) 16 a e) b 256=TZ W H ZJ x y b a e:=rfl;rw [HD]at F1;have HF1:=Z7 F1;clear Sn hbg HK pc pf vc vf B1 jK F1 HD;go_wp2_with fail;refine HF1.out.mono ?_;rintro e8 w8 ⟨rfl,m8,rfl⟩;have IX:=Z7 (GJ.out.drewN m8);clear GJ HF1;have hdl:=Io W H ZJ x y b a e;have EN:Hid (F (9*j+(i+1))=if TZ W H ZJ x y b a e<fb.far\/TZ W H ZJ x y b a e=fb.far/\RX a e fb.vx fb.vy=true then⟨a,e,TZ W H ZJ x y b a e⟩else fb):=HZ.out;clear HZ;generalize TZ W H ZJ x y b a e=D at *;generalize w7.drewN m8=w8 at *;have hst:D<fb.far\/fb.far<D\/D=fb.far:=Z8;rcases hst with uE|uE|heq
     ·have Km:=Z7 (EN.out.trans (if_pos (.inl uE)));have d3:=Zb ((D:Int)<(fb.far:Int));clear EN;go_upto_region 14 with(fail)
      go_quiet (fail)
      have CP:=Z7 (IX.out.drewN nq);clear IX;generalize w8.drewN nq=w9 at *;obtain⟨vc,vf⟩:=(CP.out.ZX 0 rfl).both;obtain⟨bc,bf⟩:=(CP.out.ZX 1 rfl).both;have bl:=(CP.out.ZX 1 rfl).lt;dsimp only at vc bc bf bl;go_wp2_with fail;go_roundw
      case rel=>exact⟨i+1,a+1,Z8,by have:=tX.out.2;omega,Zr,by rw [Km.out],by rw [Km.out];exact((CP.out.put (.there (.here rfl))).put (.there (.here rfl))).Vp⟩
      case measure=>simp [nQ];omega
     ·have Km:=Z7 (EN.out.trans Xb);have d3:=Za ((D:Int)<(fb.far:Int));have d4:((D:Int) == (fb.far:Int))=false:=by simp;omega
      have d5:¬D<fb.far:=Z8;have d6:¬D=fb.far:=Z8;clear EN;go_upto_region 14 with(fail)
      go_quiet (fail)
      have CP:=Z7 (IX.out.drewN nq);clear IX;generalize w8.drewN nq=w9 at *;go_wp2_with fail;go_roundw
      case rel=>
       exact⟨i+1,a+1,Z8,by have:=tX.out.2;omega,Zr,by rw [Km.out],by rw [Km.out];exact CP.out.Vp⟩
      case measure=>simp [nQ];omega
     ·subst heq;have d5:¬fb.far<fb.far:=Z8;have d3:=Za ((fb.far:Int)<(fb.far:Int));have d4:((fb.far:Int) == (fb.far:Int))=true:=Ze;obtain⟨sa,hsa⟩:=ZL (a.natAbs+e.natAbs);obtain⟨sf,iZ⟩:=ZL (fb.vx.natAbs+fb.vy.natAbs);have S1:∀w,Calls prog 306 #[.agg #[↑a,.int .i64 e]] w fun e w'=>e=.returned ↑sa/\Mod ↑ZW w w':=fun w=>by rw [hsa];exact oJ w a e ⟨Z8,Z8⟩ ⟨Z8,Z8⟩
      have S2:∀w,Calls prog 306 #[.agg #[.int .i64 fb.vx,.int .i64 fb.vy]] w fun e w'=>e=.returned ↑sf/\Mod ↑ZW w w':=fun w=>by rw [iZ];exact oJ w fb.vx fb.vy ⟨Z8,Z8⟩ ⟨Z8,Z8⟩
      have Cm:RX a e fb.vx fb.vy=if sa≠sf then decide (sa<sf)else if e≠fb.vy then decide (e<fb.vy)else decide (a<fb.vx):=by rw [hsa,iZ];rfl
      have Cy:=Z5 S1 S2;have HAH:=Z7 Cm;have sa8:sa<=8:=Z8;have sf8:sf<=8:=Z8;clear hsa iZ S1 S2 Cm;have h3:sa<sf\/sf<sa\/sa=sf:=Z8;rcases h3 with h3|h3|h3
      ·have Km:=Z7 (EN.out.trans (if_pos (.inr ⟨rfl,HAH.out.trans ((VI).trans (decide_eq_true h3))⟩)));have g1:=Zb ((sa:Int)<(sf:Int));clear EN;go_upto_region 14 with(fail)
       refine YY [9,11,15,17] [10,16] (0 :: 1 :: 2 :: 3 :: 4 :: 5 :: 6 :: 7 :: 8 :: 10 :: 9 :: 11 :: 12 :: 13 :: 14 :: 16 :: 15 :: 17 :: 18 :: 19 :: 20 :: 21 :: 22 :: 23 :: 24 :: 25 :: 26 :: 27 :: 28 :: 29 :: 30 :: 31 :: 32 :: 33 :: 34 :: 35 :: 36 :: 37 :: 38 :: 39 :: 40 :: 41 :: 42 :: []) (fun w'=>ZI w' vb 273 #[↑a,.int .i64 e]/\ZI w' bb 273 #[.int .i64 fb.vx,.int .i64 fb.vy]) ZR ZR Xc ⟨IX.out.drew.ZX 0 rfl,IX.out.drew.ZX 1 rfl⟩ ?_;have JW:=Z7 IX.out.drew;clear IX;obtain⟨vc,vf⟩:=(JW.out.ZX 0 rfl).both;obtain⟨bc,bf⟩:=(JW.out.ZX 1 rfl).both;dsimp only at vc bc;iterate 9 (refine Zc ?_)
       refine Yc (v:=.agg #[.int .i64 fb.vx,.int .i64 fb.vy]) rfl rfl rfl (fun w' hS=>?_) ?_
       ·have cS:=hS.2.cell;go_simp
       refine Zf rfl rfl (fun K hK=>?_);go_simp;refine(Cy.out.1 _).mono ?_;rintro e9 w9 ⟨rfl,VK⟩;dsimp only [];have MF:=Z7 (Zw VK JW.out);refine hK _ _ ⟨MF.out.ZX 0 rfl,MF.out.ZX 1 rfl⟩ ?_;clear hK K VK vc bc;obtain⟨vc,vf⟩:=(MF.out.ZX 0 rfl).both;obtain⟨bc,bf⟩:=(MF.out.ZX 1 rfl).both;dsimp only at vc bc;clear JW vf bf;refine Zf rfl rfl (fun K hK=>?_);go_simp;refine(Cy.out.2 _).mono ?_;rintro e10 Le ⟨rfl,TR⟩;dsimp only [];have Nw:=Z7 (Zw TR MF.out);refine hK _ _ ⟨Nw.out.ZX 0 rfl,Nw.out.ZX 1 rfl⟩ ?_;clear hK K TR vc bc;obtain⟨vc,vf⟩:=(Nw.out.ZX 0 rfl).both;obtain⟨bc,bf⟩:=(Nw.out.ZX 1 rfl).both;dsimp only at vc bc;clear MF;iterate 2 (refine Zc ?_)
       refine Zc ?_;refine ab8 rfl rfl rfl ?_;refine Zf rfl rfl (fun K hK=>?_);go_simp;refine hK _ _ ⟨Nw.out.ZX 0 rfl,Nw.out.ZX 1 rfl⟩ ?_;clear hK K;refine Zf rfl rfl (fun K hK=>?_);go_simp;refine hK _ _ ⟨Nw.out.ZX 0 rfl,Nw.out.ZX 1 rfl⟩ ?_;clear hK K;have JX:=Z7 Nw.out;iterate 25 (refine Zc ?_)
       refine Yg ?_;have bl:=(JX.out.ZX 1 rfl).lt;dsimp only at bl;go_wp2_with fail;go_roundw
       case rel=>exact⟨i+1,a+1,Z8,by have:=tX.out.2;omega,Zr,by rw [Km.out],by rw [Km.out];exact((JX.out.put (.there (.here rfl))).put (.there (.here rfl))).Vp⟩
       case measure=>simp [nQ];omega
      ·have hq:RX a e fb.vx fb.vy=false:=HAH.out.trans ((VI).trans Cv);have Km:=Z7 (EN.out.trans (if_neg (by rw [hq];rintro(h|⟨_,h⟩);exact absurd h d5;cases h)));have g1:=Za ((sa:Int)<(sf:Int));have g2:((sa:Int) == (sf:Int))=false:=by simp;omega
       have g3:¬sa<sf:=Z8;have g4:¬sa=sf:=Z8;clear EN h3 hq;go_upto_region 14 with(fail)
       refine YY [9,11,15,17] [10,16] (0 :: 1 :: 2 :: 3 :: 4 :: 5 :: 6 :: 7 :: 8 :: 10 :: 9 :: 11 :: 12 :: 13 :: 14 :: 16 :: 15 :: 17 :: 18 :: 19 :: 20 :: 21 :: 22 :: 23 :: 24 :: 25 :: 26 :: 27 :: 28 :: 29 :: 30 :: 31 :: 32 :: 33 :: 34 :: 35 :: 36 :: 37 :: 38 :: 39 :: 40 :: 41 :: 42 :: []) (fun w'=>ZI w' vb 273 #[↑a,.int .i64 e]/\ZI w' bb 273 #[.int .i64 fb.vx,.int .i64 fb.vy]) ZR ZR Xc ⟨IX.out.drew.ZX 0 rfl,IX.out.drew.ZX 1 rfl⟩ ?_;have JW:=Z7 IX.out.drew;clear IX;obtain⟨vc,vf⟩:=(JW.out.ZX 0 rfl).both;obtain⟨bc,bf⟩:=(JW.out.ZX 1 rfl).both;dsimp only at vc bc;iterate 9 (refine Zc ?_)
       refine Yc (v:=.agg #[.int .i64 fb.vx,.int .i64 fb.vy]) rfl rfl rfl (fun w' hS=>?_) ?_
       ·have cS:=hS.2.cell;go_simp
       refine Zf rfl rfl (fun K hK=>?_);go_simp;refine(Cy.out.1 _).mono ?_;rintro e9 w9 ⟨rfl,VK⟩;dsimp only [];have MF:=Z7 (Zw VK JW.out);refine hK _ _ ⟨MF.out.ZX 0 rfl,MF.out.ZX 1 rfl⟩ ?_;clear hK K VK vc bc;obtain⟨vc,vf⟩:=(MF.out.ZX 0 rfl).both;obtain⟨bc,bf⟩:=(MF.out.ZX 1 rfl).both;dsimp only at vc bc;clear JW vf bf;refine Zf rfl rfl (fun K hK=>?_);go_simp;refine(Cy.out.2 _).mono ?_;rintro e10 Le ⟨rfl,TR⟩;dsimp only [];have Nw:=Z7 (Zw TR MF.out);refine hK _ _ ⟨Nw.out.ZX 0 rfl,Nw.out.ZX 1 rfl⟩ ?_;clear hK K TR vc bc;obtain⟨vc,vf⟩:=(Nw.out.ZX 0 rfl).both;obtain⟨bc,bf⟩:=(Nw.out.ZX 1 rfl).both;dsimp only at vc bc;clear MF;iterate 2 (refine Zc ?_)
       refine Zc ?_;refine Yc (v:=.agg #[.int .i64 fb.vx,.int .i64 fb.vy]) rfl rfl rfl (fun w' hS=>?_) ?_
       ·have cS:=hS.2.cell;go_simp
       refine Zf rfl rfl (fun K hK=>?_);go_simp;refine(Cy.out.1 _).mono ?_;rintro e11 LM ⟨rfl,Xk⟩;dsimp only [];have JV:=Z7 (Zw Xk Nw.out);refine hK _ _ ⟨JV.out.ZX 0 rfl,JV.out.ZX 1 rfl⟩ ?_;clear hK K Xk vc bc;obtain⟨vc,vf⟩:=(JV.out.ZX 0 rfl).both;obtain⟨bc,bf⟩:=(JV.out.ZX 1 rfl).both;dsimp only at vc bc;clear Nw;refine Zf rfl rfl (fun K hK=>?_);go_simp;refine(Cy.out.2 _).mono ?_;rintro e12 Ew ⟨rfl,Tx⟩;dsimp only [];have JX:=Z7 (Zw Tx JV.out);refine hK _ _ ⟨JX.out.ZX 0 rfl,JX.out.ZX 1 rfl⟩ ?_;clear hK K Tx vc bc;obtain⟨vc,vf⟩:=(JX.out.ZX 0 rfl).both;obtain⟨bc,bf⟩:=(JX.out.ZX 1 rfl).both;dsimp only at vc bc;clear JV;iterate 25 (refine Zc ?_)
       refine Yg ?_;go_wp2_with fail;go_roundw
       case rel=>exact⟨i+1,a+1,Z8,by have:=tX.out.2;omega,Zr,by rw [Km.out],by rw [Km.out];exact JX.out.Vp⟩
       case measure=>simp [nQ];omega
      ·subst h3;have g1:=Za ((sa:Int)<(sa:Int));have g2:((sa:Int) == (sa:Int))=true:=Ze;have DC:RX a e fb.vx fb.vy=if e≠fb.vy then decide (e<fb.vy)else decide (a<fb.vx):=HAH.out.trans Xb
       have HQ0:=Z7 DC;clear DC HAH;have h3:e<fb.vy\/fb.vy<e\/e=fb.vy:=Z8;rcases h3 with h3|h3|h3
       ·have Km:=Z7 (EN.out.trans (if_pos (.inr ⟨rfl,HQ0.out.trans ((VI).trans (decide_eq_true h3))⟩)));have g3:decide (e<fb.vy)=true:=decide_eq_true h3;clear EN HQ0;go_upto_region 14 with(fail)
        refine YY [9,11,15,17] [10,16] (0 :: 1 :: 2 :: 3 :: 4 :: 5 :: 6 :: 7 :: 8 :: 10 :: 9 :: 11 :: 12 :: 13 :: 14 :: 16 :: 15 :: 17 :: 18 :: 19 :: 20 :: 21 :: 22 :: 23 :: 24 :: 25 :: 26 :: 27 :: 28 :: 29 :: 30 :: 31 :: 32 :: 33 :: 34 :: 35 :: 36 :: 37 :: 38 :: 39 :: 40 :: 41 :: 42 :: []) (fun w'=>ZI w' vb 273 #[↑a,.int .i64 e]/\ZI w' bb 273 #[.int .i64 fb.vx,.int .i64 fb.vy]) ZR ZR Xc ⟨IX.out.drew.ZX 0 rfl,IX.out.drew.ZX 1 rfl⟩ ?_;have JW:=Z7 IX.out.drew;clear IX;obtain⟨vc,vf⟩:=(JW.out.ZX 0 rfl).both;obtain⟨bc,bf⟩:=(JW.out.ZX 1 rfl).both;dsimp only at vc bc;iterate 9 (refine Zc ?_)
        refine Yc (v:=.agg #[.int .i64 fb.vx,.int .i64 fb.vy]) rfl rfl rfl (fun w' hS=>?_) ?_
        ·have cS:=hS.2.cell;go_simp
        refine Zf rfl rfl (fun K hK=>?_);go_simp;refine(Cy.out.1 _).mono ?_;rintro e9 w9 ⟨rfl,VK⟩;dsimp only [];have MF:=Z7 (Zw VK JW.out);refine hK _ _ ⟨MF.out.ZX 0 rfl,MF.out.ZX 1 rfl⟩ ?_;clear hK K VK vc bc;obtain⟨vc,vf⟩:=(MF.out.ZX 0 rfl).both;obtain⟨bc,bf⟩:=(MF.out.ZX 1 rfl).both;dsimp only at vc bc;clear JW vf bf;refine Zf rfl rfl (fun K hK=>?_);go_simp;refine(Cy.out.2 _).mono ?_;rintro e10 Le ⟨rfl,TR⟩;dsimp only [];have Nw:=Z7 (Zw TR MF.out);refine hK _ _ ⟨Nw.out.ZX 0 rfl,Nw.out.ZX 1 rfl⟩ ?_;clear hK K TR vc bc;obtain⟨vc,vf⟩:=(Nw.out.ZX 0 rfl).both;obtain⟨bc,bf⟩:=(Nw.out.ZX 1 rfl).both;dsimp only at vc bc;clear MF;iterate 2 (refine Zc ?_)
        refine Zc ?_;refine Yc (v:=.agg #[.int .i64 fb.vx,.int .i64 fb.vy]) rfl rfl rfl (fun w' hS=>?_) ?_
        ·have cS:=hS.2.cell;go_simp
        refine Zf rfl rfl (fun K hK=>?_);go_simp;refine(Cy.out.1 _).mono ?_;rintro e11 LM ⟨rfl,Xk⟩;dsimp only [];have JV:=Z7 (Zw Xk Nw.out);refine hK _ _ ⟨JV.out.ZX 0 rfl,JV.out.ZX 1 rfl⟩ ?_;clear hK K Xk vc bc;obtain⟨vc,vf⟩:=(JV.out.ZX 0 rfl).both;obtain⟨bc,bf⟩:=(JV.out.ZX 1 rfl).both;dsimp only at vc bc;clear Nw;refine Zf rfl rfl (fun K hK=>?_);go_simp;refine(Cy.out.2 _).mono ?_;rintro e12 Ew ⟨rfl,Tx⟩;dsimp only [];have JX:=Z7 (Zw Tx JV.out);refine hK _ _ ⟨JX.out.ZX 0 rfl,JX.out.ZX 1 rfl⟩ ?_;clear hK K Tx vc bc;obtain⟨vc,vf⟩:=(JX.out.ZX 0 rfl).both;obtain⟨bc,bf⟩:=(JX.out.ZX 1 rfl).both;dsimp only at vc bc;clear JV;iterate 25 (refine Zc ?_)
        refine Yg ?_;have bl:=(JX.out.ZX 1 rfl).lt;dsimp only at bl;go_wp2_with fail;go_roundw
        case rel=>exact⟨i+1,a+1,Z8,by have:=tX.out.2;omega,Zr,by rw [Km.out],by rw [Km.out];exact((JX.out.put (.there (.here rfl))).put (.there (.here rfl))).Vp⟩
        case measure=>simp [nQ];omega
       ·have hq:RX a e fb.vx fb.vy=false:=HQ0.out.trans ((VI).trans Cv);have Km:=Z7 (EN.out.trans (if_neg (by rw [hq];rintro(h|⟨_,h⟩);exact absurd h d5;cases h)));have g3:=Za (e<fb.vy);have g4:(e == fb.vy)=false:=by simp;omega
        have g5:¬e<fb.vy:=Z8;have g6:¬e=fb.vy:=Z8;clear EN h3 hq HQ0;go_upto_region 14 with(fail)
        refine YY [9,11,15,17] [10,16] (0 :: 1 :: 2 :: 3 :: 4 :: 5 :: 6 :: 7 :: 8 :: 10 :: 9 :: 11 :: 12 :: 13 :: 14 :: 16 :: 15 :: 17 :: 18 :: 19 :: 20 :: 21 :: 22 :: 23 :: 24 :: 25 :: 26 :: 27 :: 28 :: 29 :: 30 :: 31 :: 32 :: 33 :: 34 :: 35 :: 36 :: 37 :: 38 :: 39 :: 40 :: 41 :: 42 :: []) (fun w'=>ZI w' vb 273 #[↑a,.int .i64 e]/\ZI w' bb 273 #[.int .i64 fb.vx,.int .i64 fb.vy]) ZR ZR Xc ⟨IX.out.drew.ZX 0 rfl,IX.out.drew.ZX 1 rfl⟩ ?_;have JW:=Z7 IX.out.drew;clear IX;obtain⟨vc,vf⟩:=(JW.out.ZX 0 rfl).both;obtain⟨bc,bf⟩:=(JW.out.ZX 1 rfl).both;dsimp only at vc bc;iterate 9 (refine Zc ?_)
        refine Yc (v:=.agg #[.int .i64 fb.vx,.int .i64 fb.vy]) rfl rfl rfl (fun w' hS=>?_) ?_
        ·have cS:=hS.2.cell;go_simp
        refine Zf rfl rfl (fun K hK=>?_);go_simp;refine(Cy.out.1 _).mono ?_;rintro e9 w9 ⟨rfl,VK⟩;dsimp only [];have MF:=Z7 (Zw VK JW.out);refine hK _ _ ⟨MF.out.ZX 0 rfl,MF.out.ZX 1 rfl⟩ ?_;clear hK K VK vc bc;obtain⟨vc,vf⟩:=(MF.out.ZX 0 rfl).both;obtain⟨bc,bf⟩:=(MF.out.ZX 1 rfl).both;dsimp only at vc bc;clear JW vf bf;refine Zf rfl rfl (fun K hK=>?_);go_simp;refine(Cy.out.2 _).mono ?_;rintro e10 Le ⟨rfl,TR⟩;dsimp only [];have Nw:=Z7 (Zw TR MF.out);refine hK _ _ ⟨Nw.out.ZX 0 rfl,Nw.out.ZX 1 rfl⟩ ?_;clear hK K TR vc bc;obtain⟨vc,vf⟩:=(Nw.out.ZX 0 rfl).both;obtain⟨bc,bf⟩:=(Nw.out.ZX 1 rfl).both;dsimp only at vc bc;clear MF;iterate 2 (refine Zc ?_)
        refine Zc ?_;refine Yc (v:=.agg #[.int .i64 fb.vx,.int .i64 fb.vy]) rfl rfl rfl (fun w' hS=>?_) ?_
        ·have cS:=hS.2.cell;go_simp
        refine Zf rfl rfl (fun K hK=>?_);go_simp;refine(Cy.out.1 _).mono ?_;rintro e11 LM ⟨rfl,Xk⟩;dsimp only [];have JV:=Z7 (Zw Xk Nw.out);refine hK _ _ ⟨JV.out.ZX 0 rfl,JV.out.ZX 1 rfl⟩ ?_;clear hK K Xk vc bc;obtain⟨vc,vf⟩:=(JV.out.ZX 0 rfl).both;obtain⟨bc,bf⟩:=(JV.out.ZX 1 rfl).both;dsimp only at vc bc;clear Nw;refine Zf rfl rfl (fun K hK=>?_);go_simp;refine(Cy.out.2 _).mono ?_;rintro e12 Ew ⟨rfl,Tx⟩;dsimp only [];have JX:=Z7 (Zw Tx JV.out);refine hK _ _ ⟨JX.out.ZX 0 rfl,JX.out.ZX 1 rfl⟩ ?_;clear hK K Tx vc bc;obtain⟨vc,vf⟩:=(JX.out.ZX 0 rfl).both;obtain⟨bc,bf⟩:=(JX.out.ZX 1 rfl).both;dsimp only at vc bc;clear JV;iterate 25 (refine Zc ?_)
        refine Yg ?_;go_wp2_with fail;go_roundw
        case rel=>exact⟨i+1,a+1,Z8,by have:=tX.out.2;omega,Zr,by rw [Km.out],by rw [Km.out];exact JX.out.Vp⟩
        case measure=>simp [nQ];omega
       ·have EX:RX a e fb.vx fb.vy=decide (a<fb.vx):=HQ0.out.trans Xb;have qW:=Z7 EX;have g3:=Za (e<fb.vy);have g4:(e == fb.vy)=true:=by simp;omega
        have H3:=Z7 h3;have g5:¬e<fb.vy:=Z8;clear EX HQ0 h3;by_cases h7:a<fb.vx
        ·have Km:=Z7 (EN.out.trans (if_pos (.inr ⟨rfl,qW.out.trans (decide_eq_true h7)⟩)));have g7:decide (a<fb.vx)=true:=decide_eq_true h7;clear EN qW;go_upto_region 14 with(fail)
         refine YY [9,11,15,17] [10,16] (0 :: 1 :: 2 :: 3 :: 4 :: 5 :: 6 :: 7 :: 8 :: 10 :: 9 :: 11 :: 12 :: 13 :: 14 :: 16 :: 15 :: 17 :: 18 :: 19 :: 20 :: 21 :: 22 :: 23 :: 24 :: 25 :: 26 :: 27 :: 28 :: 29 :: 30 :: 31 :: 32 :: 33 :: 34 :: 35 :: 36 :: 37 :: 38 :: 39 :: 40 :: 41 :: 42 :: []) (fun w'=>ZI w' vb 273 #[↑a,.int .i64 e]/\ZI w' bb 273 #[.int .i64 fb.vx,.int .i64 fb.vy]) ZR ZR Xc ⟨IX.out.drew.ZX 0 rfl,IX.out.drew.ZX 1 rfl⟩ ?_;have JW:=Z7 IX.out.drew;clear IX;obtain⟨vc,vf⟩:=(JW.out.ZX 0 rfl).both;obtain⟨bc,bf⟩:=(JW.out.ZX 1 rfl).both;dsimp only at vc bc;iterate 9 (refine Zc ?_)
         refine Yc (v:=.agg #[.int .i64 fb.vx,.int .i64 fb.vy]) rfl rfl rfl (fun w' hS=>?_) ?_
         ·have cS:=hS.2.cell;go_simp
         refine Zf rfl rfl (fun K hK=>?_);go_simp;refine(Cy.out.1 _).mono ?_;rintro e9 w9 ⟨rfl,VK⟩;dsimp only [];have MF:=Z7 (Zw VK JW.out);refine hK _ _ ⟨MF.out.ZX 0 rfl,MF.out.ZX 1 rfl⟩ ?_;clear hK K VK vc bc;obtain⟨vc,vf⟩:=(MF.out.ZX 0 rfl).both;obtain⟨bc,bf⟩:=(MF.out.ZX 1 rfl).both;dsimp only at vc bc;clear JW vf bf;refine Zf rfl rfl (fun K hK=>?_);go_simp;refine(Cy.out.2 _).mono ?_;rintro e10 Le ⟨rfl,TR⟩;dsimp only [];have Nw:=Z7 (Zw TR MF.out);refine hK _ _ ⟨Nw.out.ZX 0 rfl,Nw.out.ZX 1 rfl⟩ ?_;clear hK K TR vc bc;obtain⟨vc,vf⟩:=(Nw.out.ZX 0 rfl).both;obtain⟨bc,bf⟩:=(Nw.out.ZX 1 rfl).both;dsimp only at vc bc;clear MF;iterate 2 (refine Zc ?_)
         refine Zc ?_;refine Yc (v:=.agg #[.int .i64 fb.vx,.int .i64 fb.vy]) rfl rfl rfl (fun w' hS=>?_) ?_
         ·have cS:=hS.2.cell;go_simp
         refine Zf rfl rfl (fun K hK=>?_);go_simp;refine(Cy.out.1 _).mono ?_;rintro e11 LM ⟨rfl,Xk⟩;dsimp only [];have JV:=Z7 (Zw Xk Nw.out);refine hK _ _ ⟨JV.out.ZX 0 rfl,JV.out.ZX 1 rfl⟩ ?_;clear hK K Xk vc bc;obtain⟨vc,vf⟩:=(JV.out.ZX 0 rfl).both;obtain⟨bc,bf⟩:=(JV.out.ZX 1 rfl).both;dsimp only at vc bc;clear Nw;refine Zf rfl rfl (fun K hK=>?_);go_simp;refine(Cy.out.2 _).mono ?_;rintro e12 Ew ⟨rfl,Tx⟩;dsimp only [];have JX:=Z7 (Zw Tx JV.out);refine hK _ _ ⟨JX.out.ZX 0 rfl,JX.out.ZX 1 rfl⟩ ?_;clear hK K Tx vc bc;obtain⟨vc,vf⟩:=(JX.out.ZX 0 rfl).both;obtain⟨bc,bf⟩:=(JX.out.ZX 1 rfl).both;dsimp only at vc bc;clear JV;iterate 25 (refine Zc ?_)
         refine Yg ?_;have bl:=(JX.out.ZX 1 rfl).lt;dsimp only at bl;go_wp2_with fail;go_roundw
         case rel=>exact⟨i+1,a+1,Z8,by have:=tX.out.2;omega,Zr,by rw [Km.out],by rw [Km.out];exact((JX.out.put (.there (.here rfl))).put (.there (.here rfl))).Vp⟩
         case measure=>simp [nQ];omega
        ·have hq:RX a e fb.vx fb.vy=false:=qW.out.trans (decide_eq_false h7);have Km:=Z7 (EN.out.trans (if_neg (by rw [hq];rintro(h|⟨_,h⟩);exact absurd h d5;cases h)));have g7:decide (a<fb.vx)=false:=decide_eq_false h7;clear EN hq qW;go_upto_region 14 with(fail)
         refine YY [9,11,15,17] [10,16] (0 :: 1 :: 2 :: 3 :: 4 :: 5 :: 6 :: 7 :: 8 :: 10 :: 9 :: 11 :: 12 :: 13 :: 14 :: 16 :: 15 :: 17 :: 18 :: 19 :: 20 :: 21 :: 22 :: 23 :: 24 :: 25 :: 26 :: 27 :: 28 :: 29 :: 30 :: 31 :: 32 :: 33 :: 34 :: 35 :: 36 :: 37 :: 38 :: 39 :: 40 :: 41 :: 42 :: []) (fun w'=>ZI w' vb 273 #[↑a,.int .i64 e]/\ZI w' bb 273 #[.int .i64 fb.vx,.int .i64 fb.vy]) ZR ZR Xc ⟨IX.out.drew.ZX 0 rfl,IX.out.drew.ZX 1 rfl⟩ ?_;have JW:=Z7 IX.out.drew;clear IX;obtain⟨vc,vf⟩:=(JW.out.ZX 0 rfl).both;obtain⟨bc,bf⟩:=(JW.out.ZX 1 rfl).both;dsimp only at vc bc;iterate 9 (refine Zc ?_)
         refine Yc (v:=.agg #[.int .i64 fb.vx,.int .i64 fb.vy]) rfl rfl rfl (fun w' hS=>?_) ?_
         ·have cS:=hS.2.cell;go_simp
         refine Zf rfl rfl (fun K hK=>?_);go_simp;refine(Cy.out.1 _).mono ?_;rintro e9 w9 ⟨rfl,VK⟩;dsimp only [];have MF:=Z7 (Zw VK JW.out);refine hK _ _ ⟨MF.out.ZX 0 rfl,MF.out.ZX 1 rfl⟩ ?_;clear hK K VK vc bc;obtain⟨vc,vf⟩:=(MF.out.ZX 0 rfl).both;obtain⟨bc,bf⟩:=(MF.out.ZX 1 rfl).both;dsimp only at vc bc;clear JW vf bf;refine Zf rfl rfl (fun K hK=>?_);go_simp;refine(Cy.out.2 _).mono ?_;rintro e10 Le ⟨rfl,TR⟩;dsimp only [];have Nw:=Z7 (Zw TR MF.out);refine hK _ _ ⟨Nw.out.ZX 0 rfl,Nw.out.ZX 1 rfl⟩ ?_;clear hK K TR vc bc;obtain⟨vc,vf⟩:=(Nw.out.ZX 0 rfl).both;obtain⟨bc,bf⟩:=(Nw.out.ZX 1 rfl).both;dsimp only at vc bc;clear MF;iterate 2 (refine Zc ?_)
         refine Zc ?_;refine Yc (v:=.agg #[.int .i64 fb.vx,.int .i64 fb.vy]) rfl rfl rfl (fun w' hS=>?_) ?_
         ·have cS:=hS.2.cell;go_simp
         refine Zf rfl rfl (fun K hK=>?_);go_simp;refine(Cy.out.1 _).mono ?_;rintro e11 LM ⟨rfl,Xk⟩;dsimp only [];have JV:=Z7 (Zw Xk Nw.out);refine hK _ _ ⟨JV.out.ZX 0 rfl,JV.out.ZX 1 rfl⟩ ?_;clear hK K Xk vc bc;obtain⟨vc,vf⟩:=(JV.out.ZX 0 rfl).both;obtain⟨bc,bf⟩:=(JV.out.ZX 1 rfl).both;dsimp only at vc bc;clear Nw;refine Zf rfl rfl (fun K hK=>?_);go_simp;refine(Cy.out.2 _).mono ?_;rintro e12 Ew ⟨rfl,Tx⟩;dsimp only [];have JX:=Z7 (Zw Tx JV.out);refine hK _ _ ⟨JX.out.ZX 0 rfl,JX.out.ZX 1 rfl⟩ ?_;clear hK K Tx vc bc;obtain⟨vc,vf⟩:=(JX.out.ZX 0 rfl).both;obtain⟨bc,bf⟩:=(JX.out.ZX 1 rfl).both;dsimp only at vc bc;clear JV;iterate 25 (refine Zc ?_)
         refine Yg ?_;go_wp2_with fail;go_roundw
         case rel=>exact⟨i+1,a+1,Z8,by have:=tX.out.2;omega,Zr,by rw [Km.out],by rw [Km.out];exact JX.out.Vp⟩
         case measure=>simp [nQ];omega
    ·obtain rfl:i=9:=Z8;have d2:=Za (a<=4);have HI9:=Z5 hs (Z9 HJE.out hia);clear hs hia;go_wp2_with fail;go_roundw
     case rel=>exact⟨j+1,e+1,Z8,by have:=HI9.out.2.1;omega,Zr,by rw [show 9*(j+1)=9*j+9 by omega],by rw [show 9*(j+1)=9*j+9 by omega];exact HI9.out.1⟩
     case measure=>simp [nQ];omega
  ·obtain rfl:j=9:=Z8;have d1:=Za (e<=4);have HR:=HF.out.2.1;have LG:=HF.out.2.2 81 Z8;rw [show(81:Nat)=9*9 by omega]at HR LG;generalize F (9*9)=fz at *;have CP:=Z5 hs HR;clear hs HR;obtain⟨⟨bd1,bd2⟩,⟨bd3,bd4⟩,bd5⟩:=LG;go_upto_region 17 with(fail)
   refine YY [6,8] [0,7] (1 :: 2 :: 3 :: 4 :: 5 :: 0 :: 7 :: 6 :: 8 :: 9 :: 10 :: []) (fun w'=>ZI w' bb 273 #[↑fz.vx,↑fz.vy]) ZR ZR Xc (CP.out.1.drew.ZX 0 rfl) ?_;obtain⟨pc,pf⟩:=(CP.out.1.drew.ZX 2 rfl).both;obtain⟨bc,bf⟩:=(CP.out.1.drew.ZX 0 rfl).both;dsimp only at pc bc;iterate 5 (refine Zc ?_)
   refine Yc (v:=.agg #[↑fz.vx,↑fz.vy]) rfl rfl rfl (fun w' hS=>?_) ?_
   ·have cS:=hS.cell;go_simp
   refine Yc rfl rfl rfl (fun _ _=>rfl) ?_;have B9:=Z7 (Gx w4.drew W H A n c ZJ HI.out.1 HI.out.2.1 (HI.out.2.2.1.quiet CP.out.1.drew.mod) x y fz.vx fz.vy Z8 Z8 ⟨Z8,Z8⟩ ⟨Z8,Z8⟩);refine Zf rfl rfl (fun K hK=>?_);go_simp;refine B9.out.mono ?_;rintro e5 w5 ⟨v5,rfl,Ut,UR⟩;dsimp only [];have GN:=Z7 (Zw UR CP.out.1.drew);refine hK _ _ (GN.out.ZX 0 rfl) ?_;clear hK K UR Ut pc pf bc bf;obtain⟨rc,rf⟩:=(GN.out.ZX 1 rfl).both;have rl:=(GN.out.ZX 1 rfl).lt;dsimp only at rc rf rl;refine Zf rfl rfl (fun K hK=>?_);go_simp;have J7:=(GN.out.put (i:=0) (u:=↑fz.vx) (.there (.here rfl))).put (i:=1) (u:=↑fz.vy) (.there (.here rfl));generalize (w5.setCell ↑(w.heap.size+1) ↑fz.vx).setCell ⟨w.heap.size+1,1,none⟩ ↑fz.vy=w6 at *;refine hK _ _ (J7.ZX 0 rfl) ?_;clear hK K rc rf rl;iterate 2 (refine Zc ?_)
   refine Yg ?_;obtain⟨BQ,rf2⟩:=(J7.ZX 1 rfl).both;dsimp only at BQ;have HS6:=Z7 J7.mod;clear J7;go_wp2_with fail;exact bodyPost_ret (v:=.tuple #[.agg #[↑fz.vx,↑fz.vy],v5,↑fz.far]) (by simp [results,results224,go_sem,BQ]) rfl ⟨⟨v5,by rw [CP.out.2]⟩,HS6.out⟩
theorem Mc(w:World)(a b:Nat)(ha:a<256)(hb:b<256):Calls prog 375 #[↑a,↑b] w fun e w'=>e=.returned ↑(Vw a b:Nat)/\w=w':=by
 unfold Vw;by_cases h:a<=b
 ·go_enter func375,ntmps375;go_wp2_with fail
  all_goals(try go_ret)
  all_goals first|exact⟨congrArg (fun z=>Zq (.int .i64 z)) Z8,rfl⟩|omega
 ·go_enter func375,ntmps375;go_wp2_with fail
  all_goals(try go_ret)
  all_goals first|exact⟨congrArg (fun z=>Zq (.int .i64 z)) Z8,rfl⟩|omega
theorem ae0(w:World)(v:Int)(hv:-1048576<=v/\v<=1048576):Calls prog 376 #[↑v] w fun e w'=>e=.returned (.int .i64 (v/8))/\w=w':=by
 obtain⟨Gr,hv2⟩:=hv;by_cases h:0<=v
 ·have d1:decide (0<=v)=true:=decide_eq_true h;go_enter func376,ntmps376;go_wp2_with fail;go_ret;exact⟨congrArg (fun z=>Zq (.int .i64 z)) Z8,rfl⟩
 ·have d1:decide (0<=v)=false:=decide_eq_false h;go_enter func376,ntmps376;go_wp2_with fail;go_ret;exact⟨congrArg (fun z=>Zq (.int .i64 z)) Z8,rfl⟩
theorem afT{a b a' b':Int}(h:a=a')(k:b=b'):Zq (.tuple #[.int .u8 a,.int .u8 b])=.returned (.tuple #[.int .u8 a',.int .u8 b']):=by rw [h,k]
theorem ajl(w:World)(a b c d q:Nat)(ha:a<256)(hb:b<256)(hc:c<256)(hd:d<256)(hq:q<=31):
  Calls prog 317 #[.int .u8 (a:Int),.int .u8 (b:Int),.int .u8 (c:Int),.int .u8 (d:Int),↑q] w
   fun e w'=>e=.returned (.tuple #[.int .u8 (((Ty a b c d q).1:Nat):Int),.int .u8 (((Ty a b c d q).2:Nat):Int)])/\w=w':=by
 have q1:=Za ((q:Int)<0);have q2:=Za (31<(q:Int));by_cases h0:q/2=0
 ·have HR:=Z7 (show Ty a b c d q=(b,c)from if_pos (.inl Z8));have d0:((q:Int)/2 == 0)=true:=by rw [beq_iff_eq];omega
  clear h0;go_enter func317,ntmps317;go_wp2_with fail;go_ret2;exact⟨by rw [HR.out];rfl,rfl⟩
 have d0:((q:Int)/2 == 0)=false:=by rw [beq_eq_false_iff_ne];omega
 by_cases h1:4*(q/2)<=Vw b c
 ·have HR:=Z7 (show Ty a b c d q=(b,c)from if_pos (.inl h1));have d1:=Zb (4*((q:Int)/2)<=(Vw b c:Int));clear h1 h0;go_enter func317,ntmps317;go_wp2_with fail;refine YH (Mc _ b c hb hc) ?_;go_wp2_with fail;go_ret2;exact⟨by rw [HR.out];rfl,rfl⟩
 ·have d1:=Za (4*((q:Int)/2)<=(Vw b c:Int));by_cases h2:2*(q/2)<=Vw a b
  ·have HR:=Z7 (show Ty a b c d q=(b,c)from if_pos (.inr (.inl h2)));have d2:=Zb (2*((q:Int)/2)<=(Vw a b:Int));clear h1 h2 h0;go_enter func317,ntmps317;go_wp2_with fail;refine YH (Mc _ b c hb hc) ?_;go_wp2_with fail;refine YH (Mc _ a b ha hb) ?_;go_wp2_with fail;go_ret2;exact⟨by rw [HR.out];rfl,rfl⟩
  ·have d2:=Za (2*((q:Int)/2)<=(Vw a b:Int));by_cases h3:2*(q/2)<=Vw c d
   ·have HR:=Z7 (show Ty a b c d q=(b,c)from if_pos (.inr (.inr h3)));have d3:=Zb (2*((q:Int)/2)<=(Vw c d:Int));clear h1 h2 h3 h0;go_enter func317,ntmps317;go_wp2_with fail;refine YH (Mc _ b c hb hc) ?_;go_wp2_with fail;refine YH (Mc _ a b ha hb) ?_;go_wp2_with fail;refine YH (Mc _ c d hc hd) ?_;go_wp2_with fail;go_ret2;exact⟨by rw [HR.out];rfl,rfl⟩
   ·have HR:=Z7 (show Ty a b c d q=_ from Xb);have d3:=Za (2*((q:Int)/2)<=(Vw c d:Int));clear h1 h2 h3 h0;go_enter func317,ntmps317;go_wp2_with fail;refine YH (Mc _ b c hb hc) ?_;go_wp2_with fail;refine YH (Mc _ a b ha hb) ?_;go_wp2_with fail;refine YH (Mc _ c d hc hd) ?_;go_wp2_with fail;refine YH (ae0 _ _ ⟨Z8,Z8⟩) ?_;clear d1 d2 d3 q1 q2 d0;go_wp2_with fail
    all_goals
     go_ret2;refine⟨afT ?_ ?_,rfl⟩
     ·rw [HR.out];show _=((XM _:Nat):Int)
      unfold BA XM
      (repeat' split)<;>omega
     ·rw [HR.out];show _=((XM _:Nat):Int)
      unfold BA XM
      (repeat' split)<;>omega
theorem aji(w:World)(W H:Nat)(v:UInt8)(h:Yx W H=true):Calls prog 159 #[↑W,↑H,.int .u8 (v.toNat:Int)] w (GV w W H v):=by
 obtain⟨ha,h1,h2,h3,h4,h5⟩:=YB h;obtain⟨n,hn⟩:=ZL (W*H);unfold GV FY;rw [<-hn]at ha h5 ⊢;have e1:wrap64 ((W:Int)*(H:Int))=(n:Int):=by
  rw [show(W:Int)*(H:Int)=(n:Int)by rw [hn];simp];exact IntWalk.wrap64_in _ ⟨Z8,Z8⟩
 have HE:=Z7 e1;clear hn e1;go_enter func159,ntmps159;go_wp2_with fail;refine YH (zu _ W h1 h2) ?_;go_wp2_with fail;refine YH (zu _ H h3 h4) ?_;have vP:ZI (w.alloc (.cells #[↑Z0,↑Z0,↑Zd] 56)) w.heap.size 56 #[↑Z0,↑Z0,↑Zd]:=ZI.new _ _ _;have m0:Mod ↑ZW w (w.alloc (.cells #[↑Z0,↑Z0,↑Zd] 56)):=(Mod.refl _ _).alloc _;have HR:=Z5 vP m0;clear vP m0;go_upto_region 6 with(refine TV _ rfl (.tmp 27) (.tmp 27) rfl n (congrArg (Value.int .i64) HE.out) (congrArg (Value.int .i64) HE.out) Z8 ?_;intro w3 hb3 X7;have HO:=Z5 hb3 X7;clear hb3 X7)
 have hg3:ZI w3 (w.heap.size+1) 5 (Yw (Q9 n v 0)).toArray:=by
  have h:=HO.out.1;rw [<-Dh n v]at h;simpa using h
 have hr3:=HR.out.1.keep HO.out.2 (fun h=>h);have M3:=HR.out.2.trans HO.out.2;have KO:=hg3.lt;have Lr:=hr3.lt;have hs3:=M3.size;obtain⟨pc,Gq⟩:∃pc:Array Value,pc=#[↑W,↑H,↑(ZZ (w.heap.size+1) n n)]:=⟨_,rfl⟩
 have iT:ZI (w3.alloc (.cells pc 56)) w3.heap.size 56 pc:=ZI.new _ _ _;have hg4:=hg3.alloc (.cells pc 56);have hr4:=hr3.alloc (.cells pc 56);have M4:=M3.alloc (.cells pc 56);have c0:(w3.alloc (.cells pc 56)).cell? ⟨w3.heap.size,2,none⟩=some ↑(ZZ (w.heap.size+1) n n):=by rw [iT.cell,Gq];rfl
 have HP:=Z7 Gq;rw [<-Gq];obtain⟨res,hres⟩:=ZL (w.heap.size);obtain⟨g,Dt⟩:=ZL (w.heap.size+1);obtain⟨pb,J6⟩:=ZL (w3.heap.size);rw [<-Dt]at KO hg4 HP c0 ⊢;rw [<-J6]at iT c0 ⊢;rw [<-hres]at Lr hr4 ⊢;have n1:res≠g:=Z8;have n2:res≠pb:=Z8;have n3:g≠pb:=Z8;have n4:w.heap.size<=res:=Z8;have n5:w.heap.size<=g:=Z8;have HB:=Z5 hr4 (Z9 iT (Z9 hg4 M4));clear hr4 iT hg4 M4 hg3 hr3 M3 HO HR Gq hres Dt J6;generalize w3.alloc (.cells pc 56)=w4 at *;go_wp2_with fail;clear c0;go_loopw [11] (kF w res pb g pc n v) (fun i _=>n-(intOf i).toNat)
 case atStart=>exact⟨0,Z8,rfl,HB.out.1,HB.out.2.1,HB.out.2.2.1,HB.out.2.2.2⟩
 case round=>
  clear HB;obtain⟨k,hk,rfl,hr,hp,hg,hM⟩:=hrel;by_cases hlt:k<n
  ·have c2:wr.cell? ⟨pb,2,none⟩=some ↑(ZZ g n n):=by rw [hp.cell,HP.out];rfl
   have p1:(0:Int)<=(k:Int):=Z8;have p2:(k:Int)<(n:Int):=Z8;have k3:wr.cell? ⟨g,k,none⟩=some (.int .u8 ((Q9 n v k).getD k 0).toNat):=by rw [hg.cell];simp [Yw,Z6,Hu n v k hk,hlt]
   have f3:=hg.frozen k;have hl:=hg.lt;generalize ((Q9 n v k).getD k 0).toNat=old at *;have HB:=Z5 hr (Z9 hp (Z9 hg hM));clear hr hp hg hM;go_wp2_with fail;go_roundw
   case rel=>exact⟨k+1,Z8,Zr,HB.out.1.far n1 _,HB.out.2.1.far (fun h=>n3 h.symm) _,HB.out.2.2.1.put (by simpa using Bd n v k hlt),HB.out.2.2.2.setCell (.inr n5) _⟩
   case measure=>exact YD
  ·obtain rfl:k=n:=Z8;obtain⟨az,aks⟩:=hp.both;rw [HP.out]at az;obtain⟨aG,akr⟩:=hr.both;have akq:=hr.lt;have mR:=hp.lt;have HB:=Z5 hr (Z9 hg hM);clear hr hp hg hM;go_wp2_with fail;obtain⟨hr,hg,hM⟩:=HB.out;rw [Dg]at hg;refine bodyPost_ret (v:=.tuple #[.agg #[↑W,↑H,↑(ZZ g k k)],↑Z0]) (by simp [results,results159,go_sem,aG]) rfl ⟨_,rfl,⟨g,rfl,?_,Ze,n5⟩,?_⟩
   ·exact(by repeat' (first|with_reducible exact hg|with_reducible refine ZI.far ?_ n1.symm _))
   ·exact(by repeat' (first|with_reducible exact hM|with_reducible refine Mod.setCell ?_ (.inr n4) _))
theorem zq(w:World)(W H n:Nat)(v:UInt8)(h:Yx W H=true)(hn:n=W*H):Calls prog 159 #[↑W,↑H,.int .u8 (v.toNat:Int)] w (Ap w W H n v):=by
 refine(aji w W H v h).mono ?_;rintro e w' ⟨p,rfl,⟨g,rfl,hb,_,hg⟩,hm⟩;rw [<-hn]at hb ⊢;exact⟨g,rfl,hb,hg,hm⟩
theorem lD(w:World)(W H:Int)(A:Option Addr)(n c:Nat)(ZJ:List UInt8)(h0:0<n)(hn:n<=1048576)(YZ:BytesIn w A n c ZJ):
  Calls prog 247 #[.agg #[↑W,↑H,.slice A n c]] w fun e w'=>∃b k,e=.returned (.agg #[↑W,↑H,↑(ZZ b n k)])/\Bytes w' w.heap.size ↑(ZZ b n k) ZJ/\Mod ↑ZW w w':=by
 have HS:=((YT ↑ZW w).alloc 56 #[↑W,↑H,.slice A n c] rfl).alloc (g:=w.heap.size+1) 56 #[↑Z0,↑Z0,↑Zd] Ze;have Td:=HS.alloc (g:=w.heap.size+1+1) 5 #[] Ze;have Gp:Bytes (((w.alloc (.cells #[↑W,↑H,.slice A n c] 56)).alloc (.cells #[↑Z0,↑Z0,↑Zd] 56)).alloc (.cells #[] 5)) w.heap.size ↑(ZZ (w.heap.size+1+1) 0 0) []:=by
  have h:=World.ownsRow_made (base:=w.heap.size) (e:=5) (size:=1) ((w.alloc (.cells #[↑W,↑H,.slice A n c] 56)).alloc (.cells #[↑Z0,↑Z0,↑Zd] 56)) #[] 0 (by simp;omega) ZU rfl;have e:((w.alloc (.cells #[↑W,↑H,.slice A n c] 56)).alloc (.cells #[↑Z0,↑Z0,↑Zd] 56)).heap.size=w.heap.size+1+1:=Ze;rw [e]at h;exact h
 have Nq:=YZ.quiet Td.mod;have hl:=YZ.1;have hsz:w.heap.size<=(((w.alloc (.cells #[↑W,↑H,.slice A n c] 56)).alloc (.cells #[↑Z0,↑Z0,↑Zd] 56)).alloc (.cells #[] 5)).heap.size:=Td.mod.size;have H0:=Z5 Td (Z9 Gp (Z9 Nq (Z9 hl hsz)));clear HS Td YZ Gp Nq hl hsz;go_enter func247,ntmps247;go_wp2_with (at_builtin;have _t:=H0;refine VJ _ rfl (.tmp 3) (.tmp 5) rfl w.heap.size ↑(ZZ (w.heap.size+1+1) 0 0) [] A n c ZJ rfl rfl H0.out.2.1 H0.out.2.2.1 H0.out.2.2.2.2 (by simp;omega) ?_;intro v1 w1 hown1 NI Pp hF;have XZ:=Oi NI H0.out.1.Vp (fun j hj=>by simp [Value.ownBlock]at hj;omega) (fun e he hj=>by simp [Value.ownBlock]at hj;simp at he;rcases he with rfl|rfl<;>simp at hj<;>omega);rw [List.nil_append]at hown1;obtain⟨A1,c1,Gr⟩:=ZG hown1;rw [H0.out.2.2.2.1]at Gr;subst Gr;obtain⟨b1,hb1,_⟩:=hown1.some_ (by rw [H0.out.2.2.2.1];exact h0);subst hb1;have HO:=Z5 hown1 XZ;clear hown1 NI Pp hF XZ;obtain⟨pc,pf⟩:=(HO.out.2.ZX 1 rfl).both;obtain⟨rc,rf⟩:=(HO.out.2.ZX 0 rfl).both;have rl:=(HO.out.2.ZX 0 rfl).lt;have pl:=(HO.out.2.ZX 1 rfl).lt)
 have n1:=HO.out.1.SL (HO.out.2.ZX 0 rfl) (show 56≠5 by decide);have n2:=HO.out.1.SL (HO.out.2.ZX 1 rfl) (show 56≠5 by decide);dsimp only at n1 n2;have HE:=(((HO.out.2.put (g:=w.heap.size) (i:=2) (u:=↑(ZZ b1 n c1)) (.there (.here rfl))).put (g:=w.heap.size+1) (i:=0) (u:=↑W) (.here rfl)).put (g:=w.heap.size+1) (i:=1) (u:=↑H) (.here rfl)).put (g:=w.heap.size+1) (i:=2) (u:=↑(ZZ b1 n c1)) (.here rfl);have hB:=(((HO.out.1.far (p:=⟨w.heap.size,2,none⟩) n2 ↑(ZZ b1 n c1)).far (p:=↑(w.heap.size+1)) n1 ↑W).far (p:=⟨w.heap.size+1,1,none⟩) n1 ↑H).far (p:=⟨w.heap.size+1,2,none⟩) n1 ↑(ZZ b1 n c1);exact bodyPost_ret (v:=.agg #[↑W,↑H,↑(ZZ b1 n c1)]) (by simp [results,results247,go_sem,rc]) rfl ⟨b1,c1,rfl,hB,HE.mod⟩
def LK(L:List UInt8)(p:Nat)(r:List UInt8):Nat->List UInt8
 | 0=>L
 | i+1=>(LK L p r i).set (p+i) (r.getD i 0)
theorem O7(L:List UInt8)(p:Nat)(r:List UInt8):∀i,(LK L p r i).length=L.length
 | 0=>rfl
 | i+1=>by unfold LK;rw [List.length_set,O7 L p r i]
theorem BZ(L:List UInt8)(p:Nat)(r:List UInt8)(h:p+r.length<=L.length):∀i,i<=r.length->∀k,k<L.length->(LK L p r i)[k]?=if p<=k/\k<p+i then r[k-p]? else L[k]?
 | 0,_,k,hk=>by rw [Xb];rfl
 | i+1,hi,k,hk=>by
  unfold LK;rw [List.getElem?_set,BZ L p r h i Z8 k hk];by_cases e:p+i=k
  ·subst e;rw [if_pos rfl,if_pos (by rw [O7];exact hk),VI,Z6,show p+i-p=i by omega,List.getElem?_eq_getElem Z8];rfl
  ·rw [if_neg e];by_cases h2:p<=k/\k<p+i
   ·rw [if_pos h2,VI]
   ·rw [if_neg h2,Xb]
theorem ab1(L:List UInt8)(p:Nat)(r:List UInt8)(h:p+r.length<=L.length):LK L p r r.length=splice L p r:=by
 apply List.ext_getElem?;intro k;by_cases hk:k<L.length
 ·rw [BZ L p r h _ (Nat.le_refl _) k hk];unfold splice;by_cases h1:k<p
  ·rw [Xb,Zv (by rw [YN];omega),Wy,if_pos h1]
  ·by_cases h2:k<p+r.length
   ·rw [VI,ZF (by rw [YN];omega),Zv (by rw [YN];omega),YN,Nat.min_eq_left Z8]
   ·rw [Xb,ZF (by rw [YN];omega),ZF (by rw [YN];omega),U8,YN,Nat.min_eq_left Z8];congr 1;omega
 ·rw [Zi (by rw [O7];omega),Zi (by unfold splice;simp;omega)]
structure Ci(w wr:World)(q r p b n k:Nat)(W H:Int)(A:Option Addr)(c:Nat)(cur:List UInt8):Prop where
 sat:Sat ↑ZW w wr [⟨q,56,#[↑W,↑H,↑(ZZ b n k)]⟩,⟨r,56,#[↑Z0,↑Z0,↑Zd]⟩,⟨p,56,#[↑W,↑H,.slice A n c]⟩] []
 own:Bytes wr w.heap.size ↑(ZZ b n k) cur
theorem Ci.drew{w wr:World}{q r p b n k:Nat}{W H:Int}{A:Option Addr}{c:Nat}{cur:List UInt8}(h:Ci w wr q r p b n k W H A c cur):Ci w wr.drew q r p b n k W H A c cur:=⟨h.sat.drew,h.own.quiet (Mod.refl _ _).drew⟩
theorem Ci.put{w wr:World}{q r p b n k:Nat}{W H:Int}{A:Option Addr}{c:Nat}{cur:List UInt8}(h:Ci w wr q r p b n k W H A c cur)(i:Nat)(x:UInt8):Ci w (wr.setCell ⟨b,i,none⟩ (.int .u8 (x.toNat:Int))) q r p b n k W H A c (cur.set i x):=by
 have hm:Mod (·=b) wr (wr.setCell ⟨b,i,none⟩ (.int .u8 (x.toNat:Int))):=(Mod.refl (·=b) wr).setCell (.inl rfl) _;refine⟨Oi hm h.sat (fun j e=>.inr (e▸h.own.low.1)) (fun e he hb=>?_),h.own.put i x⟩;have hb':e.g=b:=hb;have ht:e.t≠5:=by
  simp at he;rcases he with rfl|rfl|rfl<;>(dsimp only;decide)
 exact h.own.SL (h.sat.blk e (by simpa using he)) ht hb'.symm
def ajZ(w:World)(q r p b n k:Nat)(W H:Nat)(A:Option Addr)(c x y:Nat)(l ZJ:List UInt8)(v:Value)(wr:World):Prop:=
 ∃j:Nat,j<=8/\v=↑j/\Ci w wr q r p b n k (W:Int) (H:Int) A c (Uw W x y l ZJ j)
def ajY(w:World)(q r p b n k:Nat)(W H:Nat)(A:Option Addr)(c:Nat)(L row:List UInt8)(at_:Nat)(v:Value)(wr:World):Prop:=
 ∃i:Nat,i<=8/\v=↑i/\Ci w wr q r p b n k (W:Int) (H:Int) A c (LK L at_ row i)
theorem dI(w:World)(W H:Nat)(A:Option Addr)(n c:Nat)(ZJ:List UInt8)(h:Yx W H=true)(hn:n=W*H)(hs:n<=1048576)(YZ:BytesIn w A n c ZJ)(B:Option Addr)(bc:Nat)(l:List UInt8)(agt:BytesIn w B 64 bc l)(x y:Nat)(hx:x+8<=W)(hy:y+8<=H):
  Calls prog 233 #[.agg #[↑W,↑H,.slice A n c],↑x,↑y,.int .i64 8,.slice B 64 bc] w fun e w'=>∃b k,e=.returned (.tuple #[.agg #[↑W,↑H,↑(ZZ b n k)],↑Z0])/\Bytes w' w.heap.size ↑(ZZ b n k) (Uw W x y l ZJ 8)/\Mod ↑ZW w w':=by
 obtain⟨ha,hW1,hW2,hH1,qi,qA⟩:=YB h;rw [<-hn]at qA ha;obtain⟨lb,lo,hlB,Fw,hlc⟩:=agt.place Z8;subst hlB;have jL:=agt.1;have hpl:=YZ.1;have HS:=((YT ↑ZW w).alloc 56 #[↑W,↑H,.slice A n c] rfl).alloc (g:=w.heap.size+1) 56 #[↑Z0,↑Z0,↑Zd] Ze;have H0:=Z5 HS (Z9 h (Z9 hn (Z9 YZ (Z9 hlc Fw))));have HL:=Z5 jL hpl;clear HS h hn YZ hlc Fw agt jL hpl;go_enter func233,ntmps233;go_wp2_with fail;refine YX (Ur _ W H A n c H0.out.2.1 H0.out.2.2.1) fun w1 Y6=>?_;have hS1:=Zw Y6 H0.out.1;obtain⟨pc,pf⟩:=(hS1.ZX 1 rfl).both;have H1:=Z7 hS1;clear Y6 hS1;go_wp2_with fail;refine(lD _ (W:Int) (H:Int) A n c ZJ Z8 hs (H0.out.2.2.2.1.quiet H1.out.mod)).mono ?_;rintro e w2 ⟨b,k,rfl,hb2,Y3⟩;have JN:=(H1.out.quiet Y3).alloc 56 #[↑W,↑H,↑(ZZ b n k)] rfl;have hb3:Bytes (w2.alloc (.cells #[↑W,↑H,↑(ZZ b n k)] 56)) w.heap.size ↑(ZZ b n k) ZJ:=by
  have hq:=hb2.quiet ((Mod.refl ↑ZW w2).alloc (.cells #[↑W,↑H,↑(ZZ b n k)] 56));obtain⟨e1,e2⟩:=hq;refine⟨e1,e2.imp id ?_⟩;rintro⟨g,cap,cur,a1,a2,a3⟩;exact⟨g,cap,cur,a1,Nat.le_trans H1.out.mod.size a2,a3⟩
 obtain⟨q,hq⟩:=ZL (w2.heap.size);rw [<-hq]at JN;have H2:=Z7 (Ci.mk JN hb3);clear hb2 hb3 Y3 JN pc pf H1;go_wp2_with fail;rw [<-hq];generalize w2.alloc (.cells #[↑W,↑H,↑(ZZ b n k)] 56)=w3 at *;clear hq;go_loopw [14] (ajZ w q (w.heap.size+1) w.heap.size b n k W H A c x y l ZJ) (fun i _=>8-(intOf i).toNat)
 case atStart=>exact⟨0,Z8,rfl,H2.out⟩
 case round=>
  clear H2;rename World=>wr
  obtain⟨j,hj,rfl,hT⟩:=hrel;by_cases hlt:j<8
  ·have d1:=Zb ((j:Int)<8);have hlen:(Uw W x y l ZJ j).length=n:=by rw [H0.out.2.2.1];exact QU hx hy (HL.out.2.trans H0.out.2.2.1) HL.out.1 j hj
   have Lr:=zU HL.out.1 hlt;have Pq:=uP hx hy hlt;rw [<-H0.out.2.2.1]at Pq;obtain⟨mW,hmW⟩:=ZL ((y+j)*W);obtain⟨L,hL⟩:=ZL (Uw W x y l ZJ j);obtain⟨row,hrow⟩:=ZL ((l.drop (j*8)).take 8);rw [<-hL]at hlen hT;rw [<-hrow]at Lr;rw [<-hmW]at Pq;have hst:Uw W x y l ZJ (j+1)=LK L (mW+x) row 8:=by
    rw [<-Lr,ab1 L (mW+x) row Z8,hL,hrow,hmW];rfl
   have HT:=Z7 hT;have HK:=Z5 hst (Z9 hmW (Z9 hrow (Z9 Lr hlen)));clear hst hmW hrow Lr hlen hT hL;go_wp2_with fail;go_loopw [15] (ajY w q (w.heap.size+1) w.heap.size b n k W H A c L row (mW+x)) (fun i _=>8-(intOf i).toNat)
   case atStart=>exact⟨0,Z8,rfl,HT.out⟩
   case round=>
    clear HT;rename World=>w6
    obtain⟨i,hi,rfl,hT⟩:=hrel;have HT:=Z7 hT;clear hT;by_cases akz:i<8
    ·have d2:=Zb ((i:Int)<8);go_wp2_with fail;refine YH (ML _ (x:Int) (i:Int) Z8 Z8) ?_;go_wp2_with fail;refine YH (ML _ (y:Int) (j:Int) Z8 Z8) ?_;obtain⟨pc,pf⟩:=(HT.out.sat.ZX 2 rfl).both;have t1:=Zb (0<=(x:Int)+(i:Int));have t2:=Zb ((x:Int)+(i:Int)<(W:Int));have t3:=Zb (0<=(y:Int)+(j:Int));have t4:=Zb ((y:Int)+(j:Int)<(H:Int));clear pf;go_upto_region 16 with(fail)
     clear pc t1 t2 t3 t4;have hD:=HT.out.drew;obtain⟨pc,pf⟩:=(hD.sat.ZX 2 rfl).both;obtain⟨qc,qf⟩:=(hD.sat.ZX 0 rfl).both;obtain⟨m8,KS⟩:=ZL (j*8);obtain⟨m,hm⟩:=ZL (m8+i);obtain⟨v,hv⟩:∃v:UInt8,v=l.getD (j*8+i) 0:=⟨_,rfl⟩
     rw [<-KS,<-hm]at hv;have lc:w6.drew.cell? ⟨lb,lo+m,none⟩=some (.int .u8 (v.toNat:Int)):=by
      rw [hv];exact(World.cell?_of_block (hD.sat.mod.block lb H0.out.2.2.2.2.2 (fun h=>h))).trans (H0.out.2.2.2.2.1 m Z8)
     have hrv:row.getD i 0=v:=by
      rw [HK.out.2.2.1,hv,hm,KS,Z6,Z6,Wy,if_pos akz,U8]
     have Ic:mW+x+i<n:=Z8;obtain⟨ix,agh⟩:=ZL (mW+x+i);rw [<-agh]at Ic;have Fx:(LK L (mW+x) row i).length=n:=(O7 _ _ _ _).trans HK.out.2.2.2.2;have bc_:w6.drew.cell? ⟨b,ix,none⟩=some (.int .u8 (((LK L (mW+x) row i).getD ix 0).toNat:Int)):=hD.own.cell ix (by rw [Fx];exact Ic);have bf:=hD.own.frozen ix;have bl:=hD.own.low.2;generalize ((LK L (mW+x) row i).getD ix 0).toNat=old at *;have e1:IntKind.i64.wrap (((y:Int)+(j:Int))*(W:Int))=(mW:Int):=by
      rw [show((y:Int)+(j:Int))*(W:Int)=(mW:Int)by rw [HK.out.2.1];simp];exact Z4 _ ⟨Z8,Z8⟩
     have e2:IntKind.i64.wrap ((mW:Int)+((x:Int)+(i:Int)))=(ix:Int):=by
      rw [Z4 _ ⟨Z8,Z8⟩];omega
     have q1:(0:Int)<=(ix:Int):=Z8;have q2:(ix:Int)<(n:Int):=Z8;have e3:IntKind.i64.wrap ((j:Int)*8)=(m8:Int):=by rw [Z4 _ ⟨Z8,Z8⟩];omega
     have e4:IntKind.i64.wrap ((m8:Int)+(i:Int))=(m:Int):=by rw [Z4 _ ⟨Z8,Z8⟩];omega
     have q3:(0:Int)<=(m:Int):=Z8;have q4:(m:Int)<64:=Z8;clear hm KS;have HB:=Z5 hD (Z9 hrv agh);clear hD hrv agh Fx hv;refine YY [17] [] (0 :: 1 :: 2 :: 3 :: 4 :: 5 :: 6 :: 7 :: 8 :: 9 :: 10 :: 11 :: 12 :: 13 :: 14 :: 15 :: 16 :: 17 :: []) (fun _=>True) ZR ZR Xc trivial ?_;iterate 17 (refine Zc ?_)
     refine Zf rfl rfl (fun K hK=>?_);go_simp;refine hK _ _ trivial ?_;clear hK K e1 e2 e3 e4;refine Yg ?_;go_wp2_with fail;go_roundw
     case rel=>
      refine⟨i+1,Z8,Zr,?_⟩;have h:=HB.out.1.put ix v;rw [HB.out.2.2]at h;show Ci _ _ _ _ _ _ _ _ _ _ _ _ ((LK L (mW+x) row i).set (mW+x+i) (row.getD i 0));rw [HB.out.2.1,HB.out.2.2];exact h
     case measure=>exact YD
    ·obtain rfl:i=8:=Z8;go_wp2_with fail;go_roundw
     case rel=>exact⟨j+1,Z8,Zr,by rw [HK.out.1];exact HT.out⟩
     case measure=>exact YD
  ·obtain rfl:j=8:=Z8;obtain⟨qc,qf⟩:=(hT.sat.ZX 0 rfl).both;obtain⟨rc,rf⟩:=(hT.sat.ZX 1 rfl).both;have rl:=(hT.sat.ZX 1 rfl).lt;have HT:=Z7 hT;clear hT;go_wp2_with fail;have hr:=HT.out.own.SL (HT.out.sat.ZX 1 rfl) (show 56≠5 by decide);dsimp only at hr;have HE:=((HT.out.sat.put (g:=w.heap.size+1) (i:=0) (u:=↑W) (.there (.here rfl))).put (g:=w.heap.size+1) (i:=1) (u:=↑H) (.there (.here rfl))).put (g:=w.heap.size+1) (i:=2) (u:=↑(ZZ b n k)) (.there (.here rfl));have hB:=((HT.out.own.far (p:=↑(w.heap.size+1)) hr ↑W).far (p:=⟨w.heap.size+1,1,none⟩) hr ↑H).far (p:=⟨w.heap.size+1,2,none⟩) hr ↑(ZZ b n k);exact bodyPost_ret (v:=.tuple #[.agg #[↑W,↑H,↑(ZZ b n k)],↑Z0]) (by simp [results,results233,go_sem,rc]) rfl ⟨b,k,rfl,hB,HE.mod⟩
end Go.Proofs.YthednemlahioeaaGreatDoor
