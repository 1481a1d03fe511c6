/-
  motion.Search of sixteen times sixteen, within four.
-/
import Derived.Test.YthednemlahioeaaGreatDoorM9
namespace Go.Proofs.YthednemlahioeaaGreatDoor
open Go.RowKit
open And renaming intro→Z9
open Sat renaming after→Zw,turn→PN
open Lib renaming hid→Z7
open List renaming range→Zz,replicate→ZM,ext_getElem→YU,getElem_set→WT,getElem_map→XA,getElem_range→Xf,getD_eq_getElem?_getD→Z6,getElem?_toArray→Zo,length_take→YN,drop_zero→Uc
open World renaming cell?_of_block→ZV
open UInt8 renaming toNat_lt→ZN
open Nat renaming le_refl→ZY,mul_one→XX,min_self→TN
open Int renaming tdiv_eq_ediv_of_nonneg→ZK,ediv_nonneg→Vs,ediv_le_self→Ua,natCast_emod→VT,natCast_ediv→Xz
open IntWalk renaming i64_in→Z4
open Go.Proofs.Tryz
set_option maxRecDepth 100000
set_option maxHeartbeats 8000000
structure Found where
 vx:Int
 vy:Int
 far:Nat
def TZ(W H:Nat)(ZJ:List UInt8)(x y:Nat)(b:List UInt8)(vx vy:Int):Nat:=UZ (xP W H ZJ x y 16 vx vy) b 256
def Mo(W H:Nat)(ZJ:List UInt8)(x y:Nat)(b:List UInt8)(vx vy:Int)(f:Found):Found:=
 if vx=0/\vy=0 then f else if TZ W H ZJ x y b vx vy<f.far\/TZ W H ZJ x y b vx vy=f.far/\RX vx vy f.vx f.vy=true then⟨vx,vy,TZ W H ZJ x y b vx vy⟩else f
def O9(W H:Nat)(ZJ:List UInt8)(x y:Nat)(b:List UInt8):Nat->Found
 | 0=>⟨0,0,TZ W H ZJ x y b 0 0⟩
 | k+1=>Mo W H ZJ x y b (((k % 9:Nat):Int)-4) (((k/9:Nat):Int)-4) (O9 W H ZJ x y b k)
def TU(W H:Nat)(ZJ:List UInt8)(x y:Nat)(b:List UInt8):Found:=O9 W H ZJ x y b 81
theorem Io(W H:Nat)(ZJ:List UInt8)(x y:Nat)(b:List UInt8)(vx vy:Int):TZ W H ZJ x y b vx vy<=65280:=Ot _ _ _
theorem IE(W H:Nat)(ZJ:List UInt8)(x y:Nat)(b:List UInt8)(k:Nat)(hk:k<=81):(-4<=(O9 W H ZJ x y b k).vx/\(O9 W H ZJ x y b k).vx<=4)/\(-4<=(O9 W H ZJ x y b k).vy/\(O9 W H ZJ x y b k).vy<=4)/\(O9 W H ZJ x y b k).far<=65280:=by
 induction k with
 | zero=>exact⟨⟨show(-4:Int)<=0 by decide,show(0:Int)<=4 by decide⟩,⟨show(-4:Int)<=0 by decide,show(0:Int)<=4 by decide⟩,Io _ _ _ _ _ _ _ _⟩
 | succ k ih=>
  have h:=ih Z8;unfold O9 Mo;split
  ·exact h
  ·split
   ·refine⟨⟨?_,?_⟩,⟨?_,?_⟩,Io _ _ _ _ _ _ _ _⟩<;>dsimp only<;>omega
   ·exact h
def SeL(p r z bb:Nat)(pv:Array Value)(f:Found):List Nf:=
 [⟨bb,273,#[↑f.vx,↑f.vy]⟩,⟨z,273,#[↑Z0,↑Z0]⟩,⟨r,273,#[↑Z0,↑Z0]⟩,⟨p,56,pv⟩]
def ajC(w:World)(p r z bb:Nat)(pv:Array Value)(F:Nat->Found)(v16 v18 v58:Value)(wr:World):Prop:=
 ∃j g:Nat,j<=9/\v58=↑j/\v16=↑(ZZ g 256 256)/\v18=↑((F (9*j)).far)/\Sat ↑ZW w wr (SeL p r z bb pv (F (9*j))) []
def ag9(w:World)(p r z bb j:Nat)(pv:Array Value)(F:Nat->Found)(v16 v18 v64:Value)(wr:World):Prop:=
 ∃i g:Nat,i<=9/\v64=↑i/\v16=↑(ZZ g 256 256)/\v18=↑((F (9*j+i)).far)/\Sat ↑ZW w wr (SeL p r z bb pv (F (9*j+i))) []
theorem MW{w:World}{g:Nat}{a b:Int}(h:ZI w g 273 #[↑a,↑b]):w.cell? ↑g=some ↑a/\w.cell? ⟨g,1,none⟩=some ↑b:=⟨h.cell 0,h.cell 1⟩
def ajD(w:World)(p r z bb:Nat)(pv:Array Value)(f:Found)(v17 v18:Value)(wx:World):Prop:=
 v17=↑(ZC bb 0)/\v18=↑f.far/\Sat ↑ZW w wx (SeL p r z bb pv f) []
def aha(w:World)(f:Found)(e:Ending)(w':World):Prop:=
 ∃A:Option Addr,e=.returned (.tuple #[.agg #[↑f.vx,↑f.vy],.slice A 256 256,↑f.far])/\Mod ↑ZW w w'
theorem aeF(w:World)(W H:Nat)(A:Option Addr)(n c:Nat)(ZJ:List UInt8)(h:Yx W H=true)(hn:n=W*H)(YZ:BytesIn w A (W*H) c ZJ)(x y:Nat)(hx:x+16<=W)(hy:y+16<=H)
  (A2:Option Addr)(c2:Nat)(b:List UInt8)(hb:BytesIn w A2 256 c2 b):
  Calls prog 288 #[.agg #[↑W,↑H,.slice A n c],↑x,↑y,.int .i64 16,.slice A2 256 c2,.int .i64 4] w (aha w (TU W H ZJ x y b)):=by
 obtain⟨_,_,hW,_,hH,_⟩:=YB h;have HI:=Z5 h (Z9 hn (Z9 YZ hb));have h0:=(((Sat.nil ↑ZW w).alloc 56 #[↑W,↑H,.slice A n c] rfl).alloc (g:=w.heap.size+1) 273 #[↑Z0,↑Z0] Ze).alloc (g:=w.heap.size+2) 273 #[↑Z0,↑Z0] Ze;have HS:=Z7 h0;clear h hn YZ hb h0;go_enter func288,ntmps288;go_upto_region 2 with(fail)
 generalize ((w.alloc _).alloc _).alloc _=w1 at *;obtain⟨pc,pf⟩:=(HS.out.ZX 2 rfl).both;obtain⟨zc,zf⟩:=(HS.out.ZX 0 rfl).both;go_wp2_with fail;refine(zW _ W H A n c ZJ HI.out.1 HI.out.2.1 (HI.out.2.2.1.quiet HS.out.mod) x y 0 0 16 ⟨Z8,Z8⟩ ⟨Z8,Z8⟩ ⟨Z8,Z8⟩ ⟨Z8,Z8⟩ ⟨Z8,Z8⟩).mono ?_;rintro e w2 ⟨g,N,hN,rfl,hbg,uD,Y3⟩;obtain rfl:N=256:=hN;have V4:=Z7 (Zw Y3 HS.out);have GM:=Z5 (UF hbg (SG _ _ _ _ _ _ _ _) Z8) uD;clear Y3 hbg uD HS pc pf zc zf;go_upto_region 5 with(fail)
 go_cut [17,18] (fun v17 v18 wx=>ajD w w.heap.size (w.heap.size+1) (w.heap.size+2) w2.heap.size #[↑W,↑H,.slice A n c] (O9 W H ZJ x y b 0) v17 v18 wx)
 case first=>
  have hz:=V4.out.ZX 0 rfl;dsimp only at hz;have hh:=HI.out.2.2.2.quiet V4.out.mod;have hh2:=GM.out.1;have hne:w.heap.size+2≠w2.heap.size:=by have:=hz.lt;omega
  go_region_held3 (fun w'=>w'.cell? ↑(w.heap.size+2)=some ↑Z0/\w'.cell? ⟨w.heap.size+2,1,none⟩=some ↑Z0) (first|with_reducible exact MW hz|with_reducible exact MW hz.drew|with_reducible exact MW (hz.alloc _)|with_reducible exact MW (hz.alloc _).drew|with_reducible exact MW (hz.drew.alloc _)|exact MW (by repeat' (first|with_reducible exact hz|with_reducible refine ZI.far ?_ hne _|with_reducible refine ZI.drew ?_|with_reducible refine ZI.alloc ?_ _))) (first|(go_at_call 344;refine(nU _ (some ↑g) 256 256 _ A2 c2 b (hh2.quiet (by repeat' (first|with_reducible exact Mod.refl _ _|with_reducible refine Mod.drew ?_|with_reducible refine Mod.alloc ?_ _|with_reducible refine Mod.setCell ?_ ?_ _))) (hh.quiet (by repeat' (first|with_reducible exact Mod.refl _ _|with_reducible refine Mod.drew ?_|with_reducible refine Mod.alloc ?_ _|with_reducible refine Mod.setCell ?_ ?_ _))) Z8 Z8).mono ?_;rintro e w3 ⟨rfl,rfl⟩))
  all_goals(go_wp2_with fail;go_meet)
  all_goals(first|exact⟨rfl,rfl,(V4.out.alloc 273 #[↑Z0,↑Z0] rfl).drew⟩|exact⟨rfl,rfl,V4.out.drew.alloc 273 #[↑Z0,↑Z0] rfl⟩)
 case rest=>
  obtain⟨rfl,rfl,hs⟩:=hcut;rename World=>w3
  have hzl:=(V4.out.ZX 0 rfl).lt;dsimp only at hzl;obtain⟨bb,N8⟩:=ZL (w2.heap.size);rw [<-N8]at hs hzl ⊢;obtain⟨F,hF⟩:=ZL (O9 W H ZJ x y b);have HF:Hid (F=O9 W H ZJ x y b/\TU W H ZJ x y b=F 81/\(∀k,k<=81->(-4<=(F k).vx/\(F k).vx<=4)/\(-4<=(F k).vy/\(F k).vy<=4)/\(F k).far<=65280)):=by rw [hF];exact⟨rfl,rfl,IE W H ZJ x y b⟩
  rw [<-hF]at hs ⊢;have Td:=Z7 hs;clear N8 hF hs V4 GM;go_wp2_with fail;go_loopw [16,18,58] (ajC w w.heap.size (w.heap.size+1) (w.heap.size+2) bb #[↑W,↑H,.slice A n c] F) (fun _ _ s _=>9-(intOf s).toNat)
  case atStart=>exact⟨0,g,Z8,rfl,rfl,rfl,Td.out⟩
  case round=>
   clear Td;obtain⟨j,g1,hj,rfl,rfl,rfl,hs⟩:=hrel;rename World=>w4
   by_cases hlt:j<9
   ·have d1:=Zb ((j:Int)<9);have HJ:=Z7 hs;clear hs;go_wp2_with fail;go_loopw [16,18,64] (ag9 w w.heap.size (w.heap.size+1) (w.heap.size+2) bb j #[↑W,↑H,.slice A n c] F) (fun _ _ s _=>9-(intOf s).toNat)
    case atStart=>exact⟨0,g1,Z8,rfl,rfl,rfl,HJ.out⟩
    case round=>
     clear HJ;obtain⟨i,g2,hi,rfl,rfl,rfl,hs⟩:=hrel;rename World=>w5
     by_cases Pq:i<9
     ·have d2:=Zb ((i:Int)<9);obtain⟨fb,Px⟩:=ZL (F (9*j+i));rw [<-Px]at hs ⊢;have LG:=HF.out.2.2 (9*j+i) Z8;rw [<-Px]at LG;have tX:=Z7 Px;clear Px;obtain⟨a,ha⟩:∃a:Int,a=(i:Int)-4:=⟨_,rfl⟩
      obtain⟨e,he⟩:∃e:Int,e=(j:Int)-4:=⟨_,rfl⟩
      have h5:=(hs.alloc (g:=w5.heap.size) 273 #[↑a,↑e] rfl)
      have HK:=Z5 h5 (Z9 hs (Z9 ha he));clear h5 hs;have ha2:(i:Int)-4=a:=ha.symm;have he2:(j:Int)-4=e:=he.symm;clear ha he;go_upto_region 13 with(fail)
      generalize w5.alloc (.cells #[↑a,↑e] 273)=w6 at *;obtain⟨vc,vf⟩:=(HK.out.1.ZX 0 rfl).both;obtain⟨zc,zf⟩:=(HK.out.1.ZX 2 rfl).both;obtain⟨pc,pf⟩:=(HK.out.1.ZX 4 rfl).both;dsimp only at vc zc pc;have hst:(a=0/\e=0)\/(¬a=0\/(a=0/\¬e=0)):=Z8;rcases hst with⟨ha0,he0⟩|hst
      ·have HZ:Hid (F (9*j+(i+1))=fb):=by
        show _=_;rw [show 9*j+(i+1)=9*j+i+1 by omega,HF.out.1];show Mo W H ZJ x y b _ _ _=_;unfold Mo;rw [if_pos (by have:=HK.out.2.2.1;have:=HK.out.2.2.2;omega),<-HF.out.1,<-tX.out]
       have GJ:=Z7 HK.out.1.Vp;clear HK ha2 he2;go_wp2_with fail;go_roundw
       case rel=>exact⟨i+1,g2,Z8,Zr,rfl,by rw [HZ.out],by rw [HZ.out];exact GJ.out⟩
       case measure=>exact YD
      ·have HZ:Hid (¬(a=0/\e=0)):=by show ¬_;omega
       rcases hst with ha0|⟨ha0,he0⟩
       all_goals
        go_upto_region 14 with(fail)
        have HA0:=Z7 ha0;clear ha0
        try clear he0
        have hab:(-4<=a/\a<=4)/\(-4<=e/\e<=4):=Z8;clear ha2 he2 zc zf;go_wp2_with fail;refine(zW _ W H A n c ZJ HI.out.1 HI.out.2.1 (HI.out.2.2.1.quiet HK.out.1.mod) x y a e 16 ⟨Z8,Z8⟩ ⟨Z8,Z8⟩ ⟨Z8,Z8⟩ ⟨Z8,Z8⟩ ⟨Z8,Z8⟩).mono ?_;rintro e7 w7 ⟨g3,N,hN,rfl,hbg,uD,Sn⟩;obtain rfl:N=256:=hN;have GJ:=Z7 (Zw Sn HK.out.1);have HB7:=Z7 (UF hbg (SG _ _ _ _ _ _ _ _) Z8);clear Sn hbg uD vc vf pc pf;go_wp2_with fail;refine(nU _ (some ↑g3) 256 256 _ A2 c2 b HB7.out (HI.out.2.2.2.quiet GJ.out.mod) Z8 Z8).mono ?_;rintro e8 w8 ⟨rfl,rfl⟩;have HD:Hid (UZ (xP W H ZJ (x:Int) (y:Int) 16 a e) b 256=TZ W H ZJ x y b a e):=rfl;rw [HD.out];have hdl:=Io W H ZJ x y b a e;have EN:Hid (F (9*j+(i+1))=if TZ W H ZJ x y b a e<fb.far\/TZ W H ZJ x y b a e=fb.far/\RX a e fb.vx fb.vy=true then⟨a,e,TZ W H ZJ x y b a e⟩else fb):=by
         show _=_;have e1:(((9*j+i) % 9:Nat):Int)-4=a:=by have:=HK.out.2.2.1;omega
         have e2:(((9*j+i)/9:Nat):Int)-4=e:=by have:=HK.out.2.2.2;omega
         rw [show 9*j+(i+1)=9*j+i+1 by omega,HF.out.1];show Mo W H ZJ x y b _ _ _=_;rw [e1,e2];unfold Mo;rw [if_neg HZ.out,<-HF.out.1,<-tX.out]
        generalize TZ W H ZJ x y b a e=D at *;clear HD;obtain⟨vc,vf⟩:=(GJ.out.ZX 0 rfl).both;obtain⟨bc,bf⟩:=(GJ.out.ZX 1 rfl).both;have bl:=(GJ.out.ZX 1 rfl).lt;dsimp only at vc bc bf bl;have hst:D<fb.far\/fb.far<D\/D=fb.far:=Z8;rcases hst with uE|uE|heq
        ·have Km:=Z7 (EN.out.trans (if_pos (.inl uE)));have d3:=Zb ((D:Int)<(fb.far:Int));clear EN;go_wp2_with fail;go_roundw
         case rel=>exact⟨i+1,g3,Z8,Zr,rfl,by rw [Km.out],by rw [Km.out];exact((GJ.out.put (.there (.here rfl))).put (.there (.here rfl))).Vp⟩
         case measure=>exact YD
        ·have Km:=Z7 (EN.out.trans Xb);have d3:=Za ((D:Int)<(fb.far:Int));have d4:((D:Int) == (fb.far:Int))=false:=by simp;omega
         have d5:¬D<fb.far:=Z8;have d6:¬D=fb.far:=Z8;clear EN;go_wp2_with fail;go_roundw
         case rel=>exact⟨i+1,g2,Z8,Zr,rfl,by rw [Km.out],by rw [Km.out];exact GJ.out.Vp⟩
         case measure=>exact YD
        ·subst heq;have d5:¬fb.far<fb.far:=Z8;have d3:=Za ((fb.far:Int)<(fb.far:Int));obtain⟨hb1,hb2,hb3⟩:=LG;have MA:=af9 w7 a e fb.vx fb.vy ⟨Z8,Z8⟩ ⟨Z8,Z8⟩ ⟨Z8,Z8⟩ ⟨Z8,Z8⟩;cases Cm:RX a e fb.vx fb.vy with
         | true=>
          have Km:=Z7 (EN.out.trans (if_pos (.inr ⟨rfl,Cm⟩)));rw [Cm]at MA;have HMA:=Z7 MA;clear EN MA Cm;go_wp2_with fail;refine HMA.out.mono ?_;rintro e9 w9 ⟨rfl,VK⟩;have CP:=Z7 (Zw VK GJ.out);obtain⟨vc9,vf9⟩:=(CP.out.ZX 0 rfl).both;obtain⟨bc9,bf9⟩:=(CP.out.ZX 1 rfl).both;have bl9:=(CP.out.ZX 1 rfl).lt;dsimp only at vc9 bc9 bf9 bl9;clear VK vc bc bf bl vf GJ;go_wp2_with fail;go_roundw
          case rel=>exact⟨i+1,g3,Z8,Zr,rfl,by rw [Km.out],by rw [Km.out];exact((CP.out.put (.there (.here rfl))).put (.there (.here rfl))).Vp⟩
          case measure=>exact YD
         | false=>
          have Km:=Z7 (EN.out.trans (if_neg (by rw [Cm];rintro(h|⟨_,h⟩);exact absurd h d5;cases h)));rw [Cm]at MA;have HMA:=Z7 MA;clear EN MA Cm;go_wp2_with fail;refine HMA.out.mono ?_;rintro e9 w9 ⟨rfl,VK⟩;have CP:=Z7 (Zw VK GJ.out);clear VK vc bc bf bl vf GJ;go_wp2_with fail;go_roundw
          case rel=>exact⟨i+1,g2,Z8,Zr,rfl,by rw [Km.out],by rw [Km.out];exact CP.out.Vp⟩
          case measure=>exact YD
     ·obtain rfl:i=9:=Z8;have HI9:=Z7 hs;clear hs;go_wp2_with fail;go_roundw
      case rel=>exact⟨j+1,g2,Z8,Zr,rfl,by rw [show 9*(j+1)=9*j+9 by omega],by rw [show 9*(j+1)=9*j+9 by omega];exact HI9.out⟩
      case measure=>exact YD
   ·obtain rfl:j=9:=Z8;have HR:=HF.out.2.1;rw [show(81:Nat)=9*9 by omega]at HR;generalize F (9*9)=fz at *;obtain⟨bc,bf⟩:=(hs.ZX 0 rfl).both;obtain⟨rc,rf⟩:=(hs.ZX 2 rfl).both;have rl:=(hs.ZX 2 rfl).lt;dsimp only at bc rc rf rl;have CP:=Z5 hs HR;clear hs HR;go_wp2_with fail;have hs2:=(CP.out.1.put (i:=0) (u:=↑fz.vx) (.there (.there (.here rfl)))).put (i:=1) (u:=↑fz.vy) (.there (.there (.here rfl)));generalize (w4.setCell ↑(w.heap.size+1) ↑fz.vx).setCell ⟨w.heap.size+1,1,none⟩ ↑fz.vy=w5 at *;obtain⟨BQ,rf2⟩:=(hs2.ZX 2 rfl).both;dsimp only at BQ;exact bodyPost_ret (v:=.tuple #[.agg #[↑fz.vx,↑fz.vy],↑(ZZ g1 256 256),↑fz.far]) (by simp [results,results288,go_sem,BQ]) rfl ⟨some ↑g1,by rw [CP.out.2],hs2.mod⟩
def La(a b:List UInt8)(i:Nat):Int:=((a.getD i 0).toNat:Int)-((b.getD i 0).toNat:Int)
def qI(a b:List UInt8)(k:Nat):List Int:=(Zz a.length).map fun i=>if i<k then La a b i else 0
def Ve(a b:List UInt8):List Int:=qI a b a.length
theorem Eg(a b:List UInt8)(k:Nat):(qI a b k).length=a.length:=by simp [qI]
theorem QW(a b:List UInt8):(Ve a b).length=a.length:=Eg _ _ _
theorem acR(a b:List UInt8):qI a b 0=ZM a.length 0:=by
 unfold qI;apply YU
 ·simp
 ·intro i h1 h2;simp
theorem aei(a b:List UInt8)(k:Nat):(qI a b k).set k (La a b k)=qI a b (k+1):=by
 unfold qI;apply YU
 ·simp
 ·intro i h1 h2;rw [WT];simp only [XA,Xf];by_cases e:k=i
  ·subst e;rw [if_pos rfl,VI]
  ·rw [if_neg e];by_cases e2:i<k
   ·rw [if_pos e2,VI]
   ·rw [if_neg e2,Xb]
def afn(w4:World)(ob:Nat)(a b:List UInt8)(i:Value)(wr:World):Prop:=
 ∃k:Nat,k<=a.length/\i=↑k/\ZI wr ob 3 (Y4 (qI a b k)).toArray/\Mod (·=ob) w4 wr
theorem fF(w:World)(A:Option Addr)(n c:Nat)(a:List UInt8)(A2:Option Addr)(c2:Nat)(b:List UInt8)(YZ:BytesIn w A n c a)(Vr:BytesIn w A2 n c2 b)(JD:0<n)(hn:n<=4096):
  Calls prog 299 #[.slice A n c,.slice A2 n c2] w fun e w'=>∃ob,e=.returned ↑(ZZ ob n n)/\ZI w' ob 3 (Y4 (Ve a b)).toArray/\w.heap.size<=ob/\Mod ↑ZW w w':=by
 obtain rfl:a.length=n:=YZ.1;obtain⟨ba,oa,rfl,oZ,Bl⟩:=YZ.place JD;obtain⟨bb,om,rfl,N8,hcb⟩:=Vr.place JD;have HC:=Z5 Bl hcb;clear Bl hcb YZ Vr;go_enter func299,ntmps299;go_upto_region 4 with(refine JL _ rfl (.tmp 14) (.tmp 14) rfl a.length rfl rfl Z8 ?_;intro w4 TY Xl;have HO:=Z5 TY Xl;clear TY Xl)
 have TY:=HO.out.1;rw [<-acR a b]at TY;obtain⟨ob,Ih⟩:=ZL (w.heap.size);rw [<-Ih]at TY ⊢;have m4:=HO.out.2;have how:w.heap.size<=ob:=Z8;have iC:¬ba=ob:=Z8;have ags:¬bb=ob:=Z8;clear HO Ih;go_wp2_with fail;go_loopw [18] (afn w4 ob a b) (fun i _=>a.length-(intOf i).toNat)
 case atStart=>exact⟨0,Z8,rfl,TY,Mod.refl _ _⟩
 case round=>
  clear TY;obtain⟨k,hk,rfl,TY,hM⟩:=hrel;by_cases hlt:k<a.length
  ·have lM:Mod (·=ob) w wr:=(m4.mono (fun _ h=>h.elim)).trans hM;have M9:wr.cell? ⟨ba,oa+k,none⟩=some (.int .u8 ((a.getD k 0).toNat:Int)):=(ZV (lM.block ba oZ iC)).trans (HC.out.1 k hlt);have Lm:wr.cell? ⟨bb,om+k,none⟩=some (.int .u8 ((b.getD k 0).toNat:Int)):=(ZV (lM.block bb N8 ags)).trans (HC.out.2 k hlt);have hx:(a.getD k 0).toNat<256:=ZN _;have hy:(b.getD k 0).toNat<256:=ZN _;have Og:Hid (La a b k=((a.getD k 0).toNat:Int)-((b.getD k 0).toNat:Int)):=rfl;generalize (a.getD k 0).toNat=x at *;generalize (b.getD k 0).toNat=y at *;have jM:wr.cell? ⟨ob,k,none⟩=some (.int .i64 ((qI a b k).getD k 0)):=by rw [TY.cell k];simp [Y4,Eg,hlt]
   have aj:=TY.frozen k;have i1:(0:Int)<=(k:Int):=Z8;have i2:(k:Int)<(a.length:Int):=Z8;have iQ:=TY.lt;have HB:=Z5 TY hM;clear TY hM lM;generalize (qI a b k).getD k 0=old at *;go_wp2_with fail;go_roundw
   case rel=>
    obtain⟨TY,hM⟩:=HB.out;exact⟨k+1,Z8,Zr,TY.put (by rw [<-aei,Og.out];simp [Y4,List.map_set]),hM.setCell (p:=⟨ob,k,none⟩) (.inl rfl) _⟩
   case measure=>exact YD
  ·obtain rfl:k=a.length:=Z8;have HB:=Z5 TY hM;clear TY hM;go_wp2_with fail;go_ret;exact⟨ob,rfl,HB.out.1,how,m4.into HB.out.2 (fun i e=>.inr Z8)⟩
def LD(l:List Int):Nat->Nat
 | 0=>0
 | k+1=>LD l k+(l.getD k 0).natAbs
theorem wh{M:Nat}{l:List Int}(h:∀i,(l.getD i 0).natAbs<=M)(k:Nat):LD l k<=k*M:=by
 induction k with
 | zero=>simp [LD]
 | succ k ih=>
  have:=h k;rw [LD,Nat.add_mul,Nat.one_mul];omega
def Rs(W:Nat)(ZJ:List UInt8)(x y:Nat)(b:List UInt8)(m:Nat):Nat:=LD (Ve b (TQ W ZJ x y m)) 64
def Qr(W:Nat)(ZJ:List UInt8)(x y:Nat)(b:List UInt8):Nat->Nat × Nat
 | 0=>(0,0)
 | k+1=>if k=0\/Rs W ZJ x y b k<(Qr W ZJ x y b k).2 then(k,Rs W ZJ x y b k)else Qr W ZJ x y b k
def QS(W:Nat)(ZJ:List UInt8)(x y:Nat)(b:List UInt8):Nat:=(Qr W ZJ x y b 4).1
theorem afe(W:Nat)(ZJ:List UInt8)(x y:Nat)(b:List UInt8)(k:Nat):(Qr W ZJ x y b k).1<=k-1:=by
 induction k with
 | zero=>exact ZY _
 | succ k ih=>
  unfold Qr;split
  ·exact ZY _
  ·omega
theorem JY(W:Nat)(ZJ:List UInt8)(x y:Nat)(b:List UInt8):QS W ZJ x y b<4:=by
 have:=afe W ZJ x y b 4;unfold QS;omega
theorem BX(a b:List UInt8)(i:Nat):((Ve a b).getD i 0).natAbs<=255:=by
 unfold Ve qI;rw [Z6,List.getElem?_map];by_cases h:i<a.length
 ·rw [List.getElem?_range h];have h1:=ZN (a.getD i 0);have h2:=ZN (b.getD i 0);show(if i<a.length then La a b i else 0).natAbs<=255;rw [if_pos h];unfold La;omega
 ·rw [List.getElem?_eq_none (by simp;omega)];show(0:Int).natAbs<=255;decide
def qO(w:World)(l:List UInt8)(k:Nat)(v15:Value)(wr:World):Prop:=0<k->∃g,v15=↑(ZZ g 64 64)/\ZI wr g 5 (Yw l).toArray/\w.heap.size<=g
theorem qO.quiet{w wr wr':World}{l:List UInt8}{k:Nat}{v15:Value}(h:qO w l k v15 wr)(hm:Mod ↑ZW wr wr'):qO w l k v15 wr':=fun h0=>by
 obtain⟨g,h1,h2,h3⟩:=h h0;exact⟨g,h1,h2.keep hm (fun h=>h),h3⟩
def aj7(w:World)(pb W:Nat)(pv:Array Value)(ZJ:List UInt8)(x y:Nat)(b:List UInt8)(v13 v14 v15 v24:Value)(wr:World):Prop:=
 ∃k:Nat,k<=4/\v24=↑k/\v13=↑((Qr W ZJ x y b k).1)/\v14=↑((Qr W ZJ x y b k).2)/\Sat ↑ZW w wr [⟨pb,56,pv⟩] [] /\
  qO w (TQ W ZJ x y (Qr W ZJ x y b k).1) k v15 wr
def ahD(wq:World)(l:List Int)(v19 v48:Value)(wr:World):Prop:=∃i:Nat,i<=64/\v48=↑i/\v19=↑(LD l i:Nat)/\wr=wq
def ahE(w:World)(W:Nat)(ZJ:List UInt8)(x y:Nat)(b:List UInt8)(e:Ending)(w':World):Prop:=
 ∃g,e=.returned (.tuple #[↑(QS W ZJ x y b:Nat),↑(ZZ g 64 64),↑Z0])/\ZI w' g 5 (Yw (TQ W ZJ x y (QS W ZJ x y b))).toArray/\w.heap.size<=g/\Mod ↑ZW w w'
theorem aeO(w:World)(W H:Nat)(A:Option Addr)(n c:Nat)(ZJ:List UInt8)(h:Yx W H=true)(hn:n=W*H)(YZ:BytesIn w A n c ZJ)(xA:n<=c)(x y:Nat)(hx:x+8<=W)(hy:y+8<=H)
  (A2:Option Addr)(c2:Nat)(b:List UInt8)(hb:BytesIn w A2 64 c2 b):
  Calls prog 297 #[.agg #[↑W,↑H,.slice A n c],↑x,↑y,.int .i64 8,.slice A2 64 c2] w (ahE w W ZJ x y b):=by
 have HI:=Z5 h (Z9 hn (Z9 YZ (Z9 xA hb)));clear h hn YZ xA hb;have h0:=(Sat.nil ↑ZW w)
 go_enter func297,ntmps297;go_wp2_with fail;refine YX (nO _) fun w1 Y6=>?_;have HS:=Z7 (Zw Y6 (h0.alloc 56 #[↑W,↑H,.slice A n c] rfl));clear Y6 h0;go_wp2_with fail;go_loopw [13,14,15,24] (aj7 w w.heap.size W #[↑W,↑H,.slice A n c] ZJ x y b) (fun _ _ _ k _=>4-(intOf k).toNat)
 case atStart=>exact⟨0,Z8,rfl,rfl,rfl,HS.out,fun h=>absurd h Z8⟩
 case round=>
  clear HS;rename World=>wr
  obtain⟨k,hk,rfl,rfl,rfl,hs,hg⟩:=hrel;by_cases hlt:k<4
  ·have d1:=Zb ((k:Int)<4);obtain⟨pc,pf⟩:=(hs.ZX 0 rfl).both;have HK:=Z5 hs hg;clear hs hg;go_wp2_with fail;refine(agf _ W H A n c ZJ HI.out.1 HI.out.2.1 (HI.out.2.2.1.quiet HK.out.1.mod) HI.out.2.2.2.1 x y k hx hy hlt).mono ?_;rintro e w2 ⟨g2,rfl,hb2,hg2,Y3⟩;have hs2:=Zw Y3 HK.out.1;have Vr:=UF hb2 (Qh W ZJ x y k) Z8;have eH:=HK.out.1.mod.size;have hold:=HK.out.2.quiet Y3;have IV:=Z5 hs2 (Z9 Vr (Z9 hold hb2));clear Y3 hs2 Vr hold hb2 HK pc pf;go_wp2_with fail;refine(fF _ A2 64 c2 b (some ↑g2) 64 (TQ W ZJ x y k) (HI.out.2.2.2.2.quiet IV.out.1.mod) IV.out.2.1 Z8 Z8).mono ?_;rintro e w3 ⟨ob,rfl,hbr,hor,X7⟩;have hs3:=Zw X7 IV.out.1;have hF:Hid (Rs W ZJ x y b k=LD (Ve b (TQ W ZJ x y k)) 64):=rfl;have Lr:(Ve b (TQ W ZJ x y k)).length=64:=by rw [QW];exact HI.out.2.2.2.2.1
   have hab:=BX b (TQ W ZJ x y k);generalize Ve b (TQ W ZJ x y k)=R at *;have Ey:=Z5 hs3 (Z9 (IV.out.2.2.2.keep X7 (fun h=>h)) (Z9 hbr Lr));have hold:=IV.out.2.2.1.quiet X7;have HO:=Z7 hold;clear X7 hs3 hbr hold IV hor;go_wp2_with fail;go_loopw [19,48] (ahD w3 R) (fun _ i _=>64-(intOf i).toNat)
   case atStart=>exact⟨0,Z8,rfl,rfl,rfl⟩
   case round=>
    obtain⟨i,hi,rfl,rfl,rfl⟩:=hrel;by_cases Pq:i<64
    ·have d2:=Zb ((i:Int)<64);have hc:=Ey.out.2.2.1.cell i;rw [Zo,VX _ _ (by have:=Ey.out.2.2.2;omega)]at hc;have ha:=hab i;have hle:=wh hab i;have hst:Hid (LD R (i+1)=LD R i+(R.getD i 0).natAbs):=rfl;generalize R.getD i 0=z at *;generalize LD R i=s0 at *;have i0:(0:Int)<=(i:Int):=Z8;have e1:max z (-z)=((z.natAbs:Nat):Int):=Z8;have hs0:s0<=16320:=Z8;go_wp2_with fail;go_roundw
     case rel=>exact⟨i+1,Z8,Zr,congrArg (Value.int .i64) (by rw [hst.out];split<;>omega),rfl⟩
     case measure=>exact YD
    ·obtain rfl:i=64:=Z8;rw [<-hF.out];have hC:Hid (Qr W ZJ x y b (k+1)=if k=0\/Rs W ZJ x y b k<(Qr W ZJ x y b k).2 then(k,Rs W ZJ x y b k)else Qr W ZJ x y b k):=rfl;have hFb:Rs W ZJ x y b k<=16320:=by rw [hF.out];exact wh hab 64
     clear hF hab;generalize Rs W ZJ x y b k=F at *;generalize hq:(Qr W ZJ x y b k).2=q at *;generalize hp:(Qr W ZJ x y b k).1=p at *;have HQ:=Z5 hq hp;clear hq hp;have hst:(k=0\/(¬k=0/\F<q))\/(¬k=0/\¬F<q):=Z8;rcases hst with hst|⟨KQ,hFq⟩
     ·have vF:=Z7 (hC.out.trans (if_pos (hst.imp id (fun h=>h.2))));rcases hst with KQ|⟨KQ,hFq⟩
      case' inl=>
       have d2:((k:Int) == 0)=true:=by simp;omega
      case' inr=>
       have d2:((k:Int) == 0)=false:=by simp;omega
       have d3:=Zb ((F:Int)<(q:Int))
      all_goals
       have HK0:=Z7 KQ;clear KQ;go_wp2_with fail;go_roundw
       case rel=>
        refine⟨k+1,Z8,Zr,by rw [vF.out],by rw [vF.out],Ey.out.1,fun _=>⟨g2,rfl,?_,Z8⟩⟩;rw [vF.out];exact Ey.out.2.1
       case measure=>exact YD
     ·have vF:=Z7 (hC.out.trans Xb);have d2:((k:Int) == 0)=false:=by simp;omega
      have d3:=Za ((F:Int)<(q:Int));have HK0:=Z5 KQ hFq;clear KQ;go_wp2_with fail;go_roundw
      case rel=>
       refine⟨k+1,Z8,Zr,by rw [vF.out,HQ.out.2],by rw [vF.out,HQ.out.1],Ey.out.1,fun _=>?_⟩;rw [vF.out,HQ.out.2];exact HO.out (by have:=HK0.out.1;omega)
      case measure=>exact YD
  ·obtain rfl:k=4:=Z8;have HM:Hid (QS W ZJ x y b=(Qr W ZJ x y b 4).1):=rfl;obtain⟨g,rfl,hb,eH⟩:=hg Z8;rw [<-HM.out]at hb ⊢;have HB:=Z5 hb hs;clear hb hs hg;generalize (Qr W ZJ x y b 4).2=q at *;have xy:=JY W ZJ x y b;go_wp2_with fail
   go_ret3
   exact⟨g,rfl,HB.out.1,eH,HB.out.2.mod⟩
def Wl(v s:Int):Int:=if v<0 then -((-v+s/3)/s)else(v+s/3)/s
theorem abn(w:World)(v s:Int)(hs:1<=s/\s<=1048576)(hv:-1073741824<=v/\v<=1073741824):Calls prog 359 #[↑v,↑s] w fun e w'=>e=.returned (.int .i64 (Wl v s))/\w=w':=by
 obtain⟨hs1,hs2⟩:=hs;obtain⟨Gr,hv2⟩:=hv;have d0:=Za (s<1);have n0:¬s=0:=Z8;obtain⟨t,ht⟩:=ZL (s/3);have DJ:s.tdiv 3=t:=by rw [ht];exact ZK Z8
 have aQ:0<=t:=Z8;have uL:t<=1048576:=Z8;by_cases h:v<0
 ·have d1:decide (v<0)=true:=decide_eq_true h;obtain⟨q,hq⟩:=ZL ((-v+t)/s);have qC:(-v+t).tdiv s=q:=by rw [hq];exact ZK Z8
  have DC:0<=q:=by rw [hq];exact Vs Z8 Z8
  have EX:q<=2147483648:=by
   rw [hq];exact Int.le_trans (Ua _ Z8) Z8
  have w1:IntKind.i64.wrap (-v) = -v:=Z4 _ ⟨Z8,Z8⟩;have w2:IntKind.i64.wrap (-v+t) = -v+t:=Z4 _ ⟨Z8,Z8⟩;have w3:IntKind.i64.wrap q=q:=Z4 _ ⟨Z8,Z8⟩;have w4:IntKind.i64.wrap (-q) = -q:=Z4 _ ⟨Z8,Z8⟩;have HR:Hid (Wl v s = -q):=by
   show _=_;unfold Wl;rw [if_pos h,<-ht,<-hq]
  clear hq ht h;go_enter func359,ntmps359;go_wp2_with fail;go_ret;exact⟨by rw [HR.out];rfl,rfl⟩
 ·have d1:decide (v<0)=false:=decide_eq_false h;obtain⟨q,hq⟩:=ZL ((v+t)/s);have qC:(v+t).tdiv s=q:=by rw [hq];exact ZK Z8
  have DC:0<=q:=by rw [hq];exact Vs Z8 Z8
  have EX:q<=2147483648:=by
   rw [hq];exact Int.le_trans (Ua _ Z8) Z8
  have w2:IntKind.i64.wrap (v+t)=v+t:=Z4 _ ⟨Z8,Z8⟩;have w3:IntKind.i64.wrap q=q:=Z4 _ ⟨Z8,Z8⟩;have HR:Hid (Wl v s=q):=by
   show _=_;unfold Wl;rw [if_neg h,<-ht,<-hq]
  clear hq ht h;go_enter func359,ntmps359;go_wp2_with fail;go_ret;exact⟨by rw [HR.out];rfl,rfl⟩
theorem xJ(v s:Int)(hs:1<=s/\s<=1008)(M:Int)(hM:0<=M)(hv:-M<=v/\v<=M):-(M+336)<=Wl v s/\Wl v s<=M+336:=by
 obtain⟨h1,h2⟩:=hs;obtain⟨h3,h4⟩:=hv;have t0:0<=s/3/\s/3<=336:=Z8;unfold Wl;generalize s/3=t at *;split
 ·have a:=Ua s (show 0 <= -v+t by omega);have b:0<=(-v+t)/s:=Vs Z8 Z8;omega
 ·have a:=Ua s (show 0<=v+t by omega);have b:0<=(v+t)/s:=Vs Z8 Z8;omega
def Uh(l:List Int)(q:Int)(i:Nat):Int:=Wl (l.getD i 0) (stepOf q ((i % XL l.length:Nat):Int) ((i/XL l.length:Nat):Int))
def V5(l:List Int)(q:Int):List Int:=(Zz l.length).map (Uh l q)
def NQ(l:List Int)(q:Int):Option (List Int):=if UE 67108864 l=true/\(0<=q/\q<=31)/\∀i<l.length,Oa 67108864 (Uh l q i)=true then some (V5 l q)else none
def qG(l:List Int)(q:Int)(k:Nat):List Int:=(Zz l.length).map fun i=>if i<k then Uh l q i else 0
theorem ac8(l:List Int)(q:Int):qG l q 0=ZM l.length 0:=by
 unfold qG;apply YU
 ·simp
 ·intro i h1 h2;simp
theorem aey(l:List Int)(q:Int):qG l q l.length=V5 l q:=by
 unfold qG V5;refine List.map_congr_left fun i hi=>?_;rw [if_pos (List.mem_range.1 hi)]
theorem aex(l:List Int)(q:Int)(k:Nat):(qG l q k).set k (Uh l q k)=qG l q (k+1):=by
 unfold qG;apply YU
 ·simp
 ·intro i h1 h2;rw [WT];simp only [XA,Xf];by_cases e:k=i
  ·subst e;rw [if_pos rfl,VI]
  ·rw [if_neg e];by_cases e2:i<k
   ·rw [if_pos e2,VI]
   ·rw [if_neg e2,Xb]
theorem abu(l:List Int)(q:Int)(k:Nat):(qG l q k).length=l.length:=by simp [qG]
def CK(w:World)(l:List Int)(q:Int)(e:Ending)(w':World):Prop:=
 Mod ↑ZW w w'/\((NQ l q=none/\e=.returned (.tuple #[↑Zd,.int .i64 1]))\/∃v,NQ l q=some (V5 l q)/\e=.returned (.tuple #[v,↑Z0])/\Zx w' w.heap.size v (V5 l q))
def adY(w4:World)(ob:Nat)(l:List Int)(q:Int)(i:Value)(wr:World):Prop:=
 ∃k:Nat,k<=l.length/\i=↑k/\(∀j<k,Oa 67108864 (Uh l q j)=true)/\(0<k->0<=q/\q<=31)/\ZI wr ob 3 (Y4 (qG l q k)).toArray/\Mod (·=ob) w4 wr
theorem abo(w:World)(A:Option Addr)(n c:Nat)(l:List Int)(q:Int)(YZ:IntsIn w A n c l)(hn:n<=1048576):
  Calls prog 358 #[.slice A n c,↑q,.func (.func 359) #[] #[]] w (CK w l q):=by
 obtain⟨i0,hi0,hz0,hz1,hz2⟩:=info_parts PY;obtain rfl:l.length=n:=YZ.1;have OO:=Z7 YZ;clear YZ;go_enter func358,ntmps358;go_wp2_with fail;refine(K6 _ 67108864).mono ?_;rintro e w1 ⟨rfl,hb1,m1⟩;obtain⟨bb,N8⟩:=ZL (w.heap.size);rw [<-N8]at hb1 ⊢;have lW:w.heap.size<=bb:=Z8;clear N8;go_wp2_with fail;refine YH (Eb _ A l.length c bb l 67108864 (OO.out.quiet m1) hn Z8 hb1) ?_;cases hall:UE 67108864 l with
 | false=>
  have HQ:Hid (NQ l q=none):=if_neg (fun h=>by rw [hall]at h;cases h.1);clear hall hb1;go_wp2_with fail;go_ret2;exact⟨m1,.inl ⟨HQ.out,rfl⟩⟩
 | true=>
  obtain⟨nz,hins⟩:=CR hall;have hsc:=Jp nz;have yL:=Z5 hall hins;clear hall hins;go_wp2_with fail;refine YH (Kg _ l.length Z8) ?_;obtain⟨s,hs⟩:=ZL (XL l.length);rw [<-hs]at nz hsc ⊢;have HS:=Z7 hs;clear hs;have hl0:16<=l.length/\l.length<=64:=Z8;have sI:4<=s/\s<=8:=Z8;have iL:l.length<=8*s/\l.length<=s*s:=by rcases hsc with⟨e1,e2⟩|⟨e1,e2⟩<;>rw [e1,e2]<;>decide
  clear hsc nz;have x1:i0.bytes*l.length<=281474976710656:=by rw [hz2];omega
  have x2:l.length<=maxLen:=by unfold maxLen;omega
  have HX:=Z5 x1 x2;clear x1 x2;go_upto_region 6 with(with_reducible refine wpList_make_full _ rfl (.tmp 24) (.tmp 24) _ rfl w1.heap.size 3 i0 ↑Z0 1 underlying63 hi0 hz0 hz1 _ _ _ _ l.length rfl rfl rfl rfl HX.out.1 HX.out.2 (ZY _) ?_;intro w4 Ws hg4;have HO:=Z5 Ws hg4;clear Ws hg4)
  have m4:Mod ↑ZW w1 w4:=(Mod.refl _ _).grown HO.out.2 (fun k hk=>by cases hk);obtain⟨TY,_⟩:=OH HO.out.1;rw [XX,xN,<-ac8 l q]at TY;obtain⟨ob,Ih⟩:=ZL (w1.heap.size);rw [<-Ih]at TY ⊢;have hbl:=hb1.lt;have iC:¬bb=ob:=Z8;have how:w.heap.size<=ob:=by have:=m1.size;omega
  have hb4:=hb1.keep m4 (fun h=>h);have M4:=m1.trans m4;have Py:=OO.out.quiet M4;have hlen:=OO.out.2.2.2 Z8;clear HO m1 m4 hb1 Ih;obtain⟨b,off,hA,_,hc⟩:=Py.place Z8;subst hA;have akG:b<w.heap.size:=hlen _ rfl;have HC:=Z7 hc;clear hc Py hlen;go_wp2_with fail;go_loopw [28] (adY w4 ob l q) (fun i _=>l.length-(intOf i).toNat)
  case atStart=>exact⟨0,Z8,rfl,(fun j hj=>by omega),(fun h=>by omega),TY,Mod.refl _ _⟩
  case round=>
   clear TY;obtain⟨k,hk,rfl,zK,hqk,TY,hM⟩:=hrel;have tY:=Z5 zK hqk;clear zK hqk;by_cases hlt:k<l.length
   ·have M9:wr.cell? ⟨b,off+k,none⟩=some (.int .i64 (l.getD k 0)):=(ZV (hM.block b (World.block_lt_of_cell? _ _ (HC.out k hlt)) Z8)).trans (HC.out k hlt);have Jj:=yL.out.2 k hlt;have Og:Hid (Uh l q k=Wl (l.getD k 0) (stepOf q ((k % s:Nat):Int) ((k/s:Nat):Int))):=by show _=_;unfold Uh;rw [HS.out]
    generalize jb:l.getD k 0=v at *;clear jb;unfold Oa at Jj;simp only [decide_eq_true_eq]at Jj;obtain⟨v1,v2⟩:=Jj;have i1:(0:Int)<=(k:Int):=Z8;have i2:(k:Int)<(l.length:Int):=Z8;obtain⟨kx,MB⟩:=ZL (k % s);obtain⟨ky,MC⟩:=ZL (k/s);have iK:kx<s:=by rw [MB];exact Nat.mod_lt _ Z8
    have yz:ky<s:=by rw [MC];exact Nat.div_lt_of_lt_mul Z8
    have t1:((k:Int).tmod (s:Int))=(kx:Int):=by rw [Int.tmod_eq_emod_of_nonneg Z8,MB];exact(VT k s).symm
    have t2:((k:Int).tdiv (s:Int))=(ky:Int):=by rw [ZK Z8,MC];exact(Xz k s).symm
    have t3:((k:Int) % (s:Int))=(kx:Int):=by rw [MB];exact(VT k s).symm
    have t4:((k:Int)/(s:Int))=(ky:Int):=by rw [MC];exact(Xz k s).symm
    have hs0:((s:Int) == 0)=false:=beq_eq_false_iff_ne.2 Z8;rw [<-MB,<-MC]at Og;have HT:=Z5 t1 (Z9 t2 (Z9 t3 t4));clear MB MC t1 t2 t3 t4;by_cases hq:0<=q/\q<=31
    ·have O1:Wn q (kx:Int) (ky:Int)=true:=by unfold Wn;rw [decide_eq_true_eq];omega
     go_upto_region 9 with(fail)
     obtain⟨t1,t2,t3,t4⟩:=HT.out;go_quiet ((go_at_call 287;exact Calls.quiet_of_same (K7 _ q kx ky O1 _)))
     clear t1 t2 t3 t4;have LG:=Mw q kx ky O1;obtain⟨_,st1,st2,_⟩:=LG;obtain⟨st,hst⟩:=ZL (stepOf q kx ky);rw [<-hst]at st1 st2 Og ⊢;clear hst O1 HT M9;have J6:=xJ v st ⟨st1,st2⟩ 67108864 Z8 ⟨v1,v2⟩;have Dx:=TY.drewN nq;have RZ:=hM.drewN nq;have Ut:=(hb4.keep hM iC).drewN nq;generalize wr.drewN nq=w5 at *;clear TY hM;go_wp2_with fail;refine YH (abn _ v st Z8 Z8) ?_;obtain⟨pr,aD⟩:=ZL (Wl v st);rw [<-aD]at J6 Og ⊢;clear aD;have jM:w5.cell? ⟨ob,k,none⟩=some (.int .i64 ((qG l q k).getD k 0)):=by rw [Dx.cell k];simp [Y4,abu,hlt]
     have aj:=Dx.frozen k;have Dy:ZI (w5.setCell ⟨ob,k,none⟩ (.int .i64 pr)) ob 3 (Y4 (qG l q (k+1))).toArray:=Dx.put (by rw [<-aex,Og.out,xI];simp);have JA:Mod (·=ob) w4 (w5.setCell ⟨ob,k,none⟩ (.int .i64 pr)):=RZ.setCell (p:=⟨ob,k,none⟩) (.inl rfl) _;have ET:ZI (w5.setCell ⟨ob,k,none⟩ (.int .i64 pr)) bb 3 #[.int .i64 67108864]:=Ut.far iC _;have HB:=Z5 Dy (Z9 JA ET);clear Dx RZ Ut Dy JA ET;generalize (qG l q k).getD k 0=old at *;cases hv:Oa 67108864 pr with
     | true=>
      go_wp2_with fail;refine YH (Ke _ bb 67108864 pr Z8 HB.out.2.2) ?_;rw [hv];have HV:=Z7 hv;clear hv jM aj;go_wp2_with fail;go_roundw
      case rel=>
       refine⟨k+1,Z8,Zr,fun j hj=>?_,fun _=>hq,HB.out.1,HB.out.2.1⟩;by_cases e:j=k
       ·subst e;rw [Og.out];exact HV.out
       ·exact tY.out.1 j Z8
      case measure=>exact YD
     | false=>
      have HQ:Hid (NQ l q=none):=if_neg (fun h=>by have:=h.2.2 k hlt;rw [Og.out,hv]at this;cases this);go_wp2_with fail;refine YH (Ke _ bb 67108864 pr Z8 HB.out.2.2) ?_;rw [hv];clear hv jM aj;go_wp2_with fail;go_ret2;exact⟨M4.into HB.out.2.1 (fun i e=>.inr Z8),.inl ⟨HQ.out,rfl⟩⟩
    ·have O1:Wn q (kx:Int) (ky:Int)=false:=by unfold Wn;rw [decide_eq_false_iff_not];omega
     have HQ:Hid (NQ l q=none):=if_neg (fun h=>hq h.2.1);go_upto_region 9 with(fail)
     obtain⟨t1,t2,t3,t4⟩:=HT.out;go_quiet ((go_at_call 287;exact Calls.quiet_of_same (JG _ q kx ky O1 _)))
     clear t1 t2 t3 t4;go_wp2_with fail;go_ret2;exact⟨(M4.into hM (fun i e=>.inr Z8)).drewN _,.inl ⟨HQ.out,rfl⟩⟩
   ·obtain rfl:k=l.length:=Z8;have HQ:Hid (NQ l q=some (V5 l q)):=if_pos ⟨yL.out.1,tY.out.2 Z8,tY.out.1⟩;have HB:=Z5 TY hM;clear TY hM;go_wp2_with fail;go_ret2;refine⟨M4.into HB.out.2 (fun i e=>.inr Z8),.inr ⟨_,HQ.out,rfl,?_⟩⟩;have TY:=HB.out.1;rw [aey]at TY;have Md:(V5 l q).length=l.length:=by simp [V5]
    unfold Zx;rw [Md];exact⟨by rw [XR,Md,XX],.inr ⟨ob,l.length,_,rfl,how,TY,ZY _,HX.out.2,by simp [XR,Md],by rw [XX];exact List.take_of_length_le (by simp [XR,Md])⟩⟩
theorem aaQ(w:World)(A:Option Addr)(n c:Nat)(l:List Int)(q:Int)(YZ:IntsIn w A n c l)(hn:n<=1048576):Calls prog 300 #[.slice A n c,↑q] w (CK w l q):=by
 go_enter func300,ntmps300;go_wp2_with fail;refine(abo _ A n c l q YZ hn).mono ?_;rintro e w1 ⟨hm,⟨h1,rfl⟩|⟨v,h1,rfl,h2⟩⟩
 ·have HQ:=Z7 h1;clear h1;go_wp2_with fail;go_ret2;exact⟨hm,.inl ⟨HQ.out,rfl⟩⟩
 ·have HQ:=Z5 h1 h2;obtain⟨A1,c1,hv⟩:=ZG h2;subst hv;clear h1 h2;go_wp2_with fail;go_ret2;exact⟨hm,.inr ⟨_,HQ.out.1,rfl,HQ.out.2⟩⟩
def DR(l:List Int)(i:Nat):Int:=(l.getD (2*i) 0+l.getD (2*i+1) 0)/2
def Jf(l:List Int)(i:Nat):Int:=l.getD (2*i) 0-l.getD (2*i+1) 0
def L9(l:List Int):Nat->List Int
 | 0=>[0,0,0,0]
 | i+1=>(L9 l i).set i (DR l i)
def I9(l:List Int):Nat->List Int
 | 0=>[0,0,0,0]
 | i+1=>(I9 l i).set i (Jf l i)
def Cj(m:Nat)(l:List Int):List Int:=splice (splice l 0 ((L9 l m).take m)) m ((I9 l m).take m)
def Np(l:List Int):List Int:=Cj 1 (Cj 2 (Cj 4 l))
theorem Q8(l:List Int)(i:Nat):(L9 l i).length=4:=by
 induction i with
 | zero=>rfl
 | succ i ih=>simp [L9,ih]
theorem PS(l:List Int)(i:Nat):(I9 l i).length=4:=by
 induction i with
 | zero=>rfl
 | succ i ih=>simp [I9,ih]
theorem tT(j:Nat):([0,0,0,0]:List Int).getD j 0=0:=by
 match j with
 | 0|1|2|3=>rfl
 | j+4=>rfl
theorem acv(l:List Int)(k j:Nat)(hk:k<=4):(L9 l k).getD j 0=if j<k then DR l j else 0:=by
 induction k with
 | zero=>rw [Xb];exact tT j
 | succ k ih=>
  rw [L9,KI,Q8,ih Z8];by_cases e:k=j
  ·subst e;rw [if_pos ⟨rfl,Z8⟩,VI]
  ·rw [if_neg (fun h=>e h.1)];by_cases e2:j<k
   ·rw [if_pos e2,VI]
   ·rw [if_neg e2,Xb]
theorem acw(l:List Int)(k j:Nat)(hk:k<=4):(I9 l k).getD j 0=if j<k then Jf l j else 0:=by
 induction k with
 | zero=>rw [Xb];exact tT j
 | succ k ih=>
  rw [I9,KI,PS,ih Z8];by_cases e:k=j
  ·subst e;rw [if_pos ⟨rfl,Z8⟩,VI]
  ·rw [if_neg (fun h=>e h.1)];by_cases e2:j<k
   ·rw [if_pos e2,VI]
   ·rw [if_neg e2,Xb]
theorem getD_take(l:List Int)(m j:Nat):(l.take m).getD j 0=if j<m then l.getD j 0 else 0:=by
 simp only [Z6,List.getElem?_take];split<;>rfl
theorem Sw(m:Nat)(l:List Int)(hm:2*m<=l.length)(h4:m<=4):(Cj m l).length=l.length:=by
 have h1:((L9 l m).take m).length=m:=by rw [YN,Q8];omega
 have h2:((I9 l m).take m).length=m:=by rw [YN,PS];omega
 have h3:(splice l 0 ((L9 l m).take m)).length=l.length:=length_splice _ _ _ Z8;unfold Cj;rw [length_splice _ _ _ Z8,h3]
theorem adH(m:Nat)(l:List Int)(hm:2*m<=l.length)(h4:m<=4)(i:Nat):(Cj m l).getD i 0=if i<m then DR l i else if i<2*m then Jf l (i-m)else l.getD i 0:=by
 have h1:((L9 l m).take m).length=m:=by rw [YN,Q8];omega
 have h2:((I9 l m).take m).length=m:=by rw [YN,PS];omega
 have h3:(splice l 0 ((L9 l m).take m)).length=l.length:=length_splice _ _ _ Z8;unfold Cj;rw [NW _ _ _ Z8,NW _ _ _ Z8,h1,h2,getD_take,getD_take,acw _ _ _ h4,acv _ _ _ h4];by_cases e1:i<m
 ·rw [Xb,VI,if_pos e1,Nat.sub_zero,if_pos e1,if_pos e1]
 ·rw [if_neg e1];by_cases e2:i<2*m
  ·rw [VI,VI,VI,if_pos e2]
  ·rw [Xb,Xb,if_neg e2]
theorem Qt{M:Int}{m:Nat}{l:List Int}(hm:2*m<=l.length)(h4:m<=4)(h:Within M l):Within (2*M) (Cj m l):=by
 intro i;rw [adH m l hm h4];split
 ·have h1:=h (2*i);have h2:=h (2*i+1);unfold DR;omega
 ·split
  ·have h1:=h (2*(i-m));have h2:=h (2*(i-m)+1);unfold Jf;omega
  ·have:=h i;omega
theorem NH(l:List Int)(h:l.length=8):(Np l).length=8:=by
 have h1:=Sw 4 l Z8 Z8;have h2:=Sw 2 (Cj 4 l) Z8 Z8;have h3:=Sw 1 (Cj 2 (Cj 4 l)) Z8 Z8;unfold Np;omega
theorem Fu{M:Int}{l:List Int}(hl:l.length=8)(_h0:0<=M)(h:Within M l):Within (8*M) (Np l):=by
 have h1:=Sw 4 l Z8 Z8;have h2:=Sw 2 (Cj 4 l) Z8 Z8;have w1:=Qt (m:=4) Z8 Z8 h;have w2:=Qt (m:=2) Z8 Z8 w1;have w3:=Qt (m:=1) Z8 Z8 w2;intro i;have:=w3 i;unfold Np;omega
def vU(l:List Int)(n:Nat)(l':List Int):Prop:=(n=8/\l'=l)\/(n=4/\l'=Cj 4 l)\/(n=2/\l'=Cj 2 (Cj 4 l))\/(n=1/\l'=Np l)
theorem abG{l l':List Int}{n:Nat}(hl:l.length=8)(hM:Within 1099511627776 l)(h:vU l n l'):l'.length=8/\Within 8796093022208 l':=by
 have h1:=Sw 4 l Z8 Z8;have h2:=Sw 2 (Cj 4 l) Z8 Z8;have h3:=Sw 1 (Cj 2 (Cj 4 l)) Z8 Z8;have w1:=Qt (m:=4) Z8 Z8 hM;have w2:=Qt (m:=2) Z8 Z8 w1;have w3:=Qt (m:=1) Z8 Z8 w2;have mono:∀ {A B:Int} {x:List Int},Within A x->A<=B->Within B x:=fun h hab i=>by have:=h i;omega
 rcases h with⟨_,rfl⟩|⟨_,rfl⟩|⟨_,rfl⟩|⟨_,rfl⟩
 ·exact⟨hl,mono hM Z8⟩
 ·exact⟨Z8,mono w1 Z8⟩
 ·exact⟨Z8,mono w2 Z8⟩
 ·exact⟨by unfold Np;omega,by unfold Np;exact mono w3 Z8⟩
theorem ack{l l':List Int}{m:Nat}(h:vU l (2*m) l'):vU l m (Cj m l'):=by
 rcases h with⟨h,rfl⟩|⟨h,rfl⟩|⟨h,rfl⟩|⟨h,_⟩
 ·obtain rfl:m=4:=Z8;exact .inr (.inl ⟨rfl,rfl⟩)
 ·obtain rfl:m=2:=Z8;exact .inr (.inr (.inl ⟨rfl,rfl⟩))
 ·obtain rfl:m=1:=Z8;exact .inr (.inr (.inr ⟨rfl,rfl⟩))
 ·omega
def ajT(w:World)(g:Nat)(l:List Int)(v1:Value)(wr:World):Prop:=∃n l',vU l n l'/\v1=↑n/\Sat (·=g) w wr [⟨g,482,(Y4 l').toArray⟩] []
def aht(w:World)(g lo hi m:Nat)(l':List Int)(v17:Value)(wr:World):Prop:=∃i:Nat,i<=m/\v17=↑i/\Sat (·=g) w wr [⟨hi,480,(Y4 (I9 l' i)).toArray⟩,⟨lo,480,(Y4 (L9 l' i)).toArray⟩,⟨g,482,(Y4 l').toArray⟩] []
theorem Bu(l:List Int)(m:Nat):(Y4 l).take m=Y4 (l.take m):=by simp [Y4]
theorem Fz(L c:List Int)(a:Nat):splice (Y4 L) a (Y4 c)=Y4 (splice L a c):=by
 simp only [splice,Y4,List.map_append,List.map_take,List.map_drop,List.length_map]
theorem aeL(w:World)(g:Nat)(l:List Int)(hl:l.length=8)(hM:Within 1099511627776 l)(hb:ZI w g 482 (Y4 l).toArray):
  Calls prog 355 #[↑(ZC g 0),.int .i64 8] w fun e w'=>e=.returned (.tuple #[])/\ZI w' g 482 (Y4 (Np l)).toArray/\Mod (·=g) w w':=by
 have HB:=Z7 (Sat.bP hb);clear hb;go_enter func355,ntmps355;go_wp2_with fail;go_loopw [1] (ajT w g l) (fun n _=>(intOf n).toNat)
 case atStart=>exact⟨8,l,.inl ⟨rfl,rfl⟩,rfl,HB.out⟩
 case round=>
  rename World=>wr
  obtain⟨n,l',hat,rfl,hs⟩:=hrel;obtain⟨hl',hw'⟩:=abG hl hM hat
  by_cases h1:1<n
  ·obtain⟨m,rfl⟩:∃m,n=2*m:=by
    unfold vU at hat
    have:n=8\/n=4\/n=2\/n=1:=Z8;exact⟨n/2,Z8⟩
   have Xl:1<=m/\m<=4:=by unfold vU at hat;omega
   obtain⟨n,hn⟩:=ZL (2*m);have HN:=Z7 hn;rw [<-hn]at hat h1 ⊢;have d1:=Zb (1<(n:Int));have q1:(n:Int).tdiv 2=(m:Int):=by rw [ZK Z8];omega
   have HA:=Z5 hat (Z9 hl' hw')
   have KO:=(hs.ZX 0 rfl).lt;dsimp only at KO;have HS:=Z7 ((hs.alloc 480 (Y4 (L9 l' 0)).toArray rfl).alloc (g:=wr.heap.size+1) 480 (Y4 (I9 l' 0)).toArray Ze);clear hat hs hw' hl';go_upto_region 4 with(fail)
   change Hid (Sat (·=g) w ((wr.alloc (.cells #[↑Z0,↑Z0,↑Z0,↑Z0] 480)).alloc (.cells #[↑Z0,↑Z0,↑Z0,↑Z0] 480)) _ _)at HS;generalize (wr.alloc (.cells #[↑Z0,↑Z0,↑Z0,↑Z0] 480)).alloc (.cells #[↑Z0,↑Z0,↑Z0,↑Z0] 480)=w1 at *;have i1:(0:Int)<=(m:Int):=Z8;have i2:(m:Int)<=4:=Z8;have i3:(n:Int)<=8:=Z8;have i4:(m:Int)<=(n:Int):=Z8;have i5:(m:Int)<=8:=Z8;clear hn;go_wp2_with fail;go_loopw [17] (aht w g wr.heap.size (wr.heap.size+1) m l') (fun i _=>m-(intOf i).toNat)
   case atStart=>exact⟨0,Z8,rfl,HS.out⟩
   case round=>
    clear HS;rename World=>w2
    obtain⟨i,hi,rfl,hs⟩:=hrel;by_cases hlt:i<m
    ·have hg:=hs.ZX 2 rfl;have IZ:=hs.ZX 1 rfl;have Fv:=hs.ZX 0 rfl;dsimp only at hg IZ Fv;obtain⟨k,hk⟩:=ZL (2*i);have ek:(2:Int)*(i:Int)=(k:Int):=Z8;have ek2:IntKind.i64.wrap (k:Int)=(k:Int):=Z4 _ ⟨Z8,Z8⟩;have ek3:IntKind.i64.wrap ((k:Int)+1)=(k:Int)+1:=Z4 _ ⟨Z8,Z8⟩;have j0:(0:Int)<=(i:Int):=Z8;have j1:(i:Int)<4:=Z8;have j2:(0:Int)<=(k:Int):=Z8;have j3:(k:Int)+1<8:=Z8;have j4:(k:Int)<8:=Z8;have c0:=hg.cell k;have c1:=hg.cell (k+1);rw [Zo,VX _ _ (by have:=HA.out.2.1;omega)]at c0 c1;have b0:=HA.out.2.2 k;have b1:=HA.out.2.2 (k+1);have HV:Hid (DR l' i=(l'.getD k 0+l'.getD (k+1) 0)/2/\Jf l' i=l'.getD k 0-l'.getD (k+1) 0):=by show _/\_;rw [hk];exact⟨rfl,rfl⟩
     generalize l'.getD k 0=a at *;generalize l'.getD (k+1) 0=b at *;have cl:=IZ.cell i;have ch:=Fv.cell i;rw [Zo,VX _ _ (by rw [Q8];omega)]at cl;rw [Zo,VX _ _ (by rw [PS];omega)]at ch;have fl:=IZ.frozen i;have fh:=Fv.frozen i;generalize (L9 l' i).getD i 0=ol at *;generalize (I9 l' i).getD i 0=oh at *;have l1:=IZ.lt;have l2:=Fv.lt;have HK:=Z7 hs;clear hs hg IZ Fv hk;go_wp2_with fail;go_quiet (fail)
     have HQ:=Z7 (HK.out.drewN nq);have cl':(w2.drewN nq).cell? ⟨wr.heap.size,i,none⟩=some ↑ol:=cl;have ch':(w2.drewN nq).cell? ⟨wr.heap.size+1,i,none⟩=some ↑oh:=ch;have fl':(w2.drewN nq).frozen? ⟨wr.heap.size,i,none⟩=false:=fl;have fh':(w2.drewN nq).frozen? ⟨wr.heap.size+1,i,none⟩=false:=fh;have l1':wr.heap.size<(w2.drewN nq).heap.size:=l1;have l2':wr.heap.size+1<(w2.drewN nq).heap.size:=l2;clear c0 c1 cl ch fl fh HK l1 l2;generalize w2.drewN nq=w3 at *;go_wp2_with fail;go_roundw
     case rel=>exact⟨i+1,Z8,Zr,by
      have:=(HQ.out.put (.there (.here (MS (L9 l' i) i (DR l' i))))).put (.here (MS (I9 l' i) i (Jf l' i)));rw [HV.out.1,HV.out.2]at this;rw [L9,I9,HV.out.1,HV.out.2];exact this⟩
     case measure=>exact YD
    ·obtain rfl:i=m:=Z8;have hg:=hs.ZX 2 rfl;have IZ:=hs.ZX 1 rfl;have Fv:=hs.ZX 0 rfl;dsimp only at hg IZ Fv;have S1:Hid (Src w2.drew 1 (some ↑wr.heap.size) i (Y4 (((L9 l' i).drop 0).take i))):=Mt IZ.drew 0 i (by rw [Q8];omega);have bZ:Hid (i=Nat.min i i/\0+i<=(Y4 l').length):=⟨(TN i).symm,by rw [XR,HA.out.2.1];omega⟩
     have HK:=Z7 hs;have HG:=Z7 hg.drew;clear hs hg IZ Fv;go_upto_region 11 with(fail)
     go_region_law (refine Wq rfl (.tmp 48) (.tmp 50) _ _ rfl 3 underlying63 ZR (some ↑g) i 8 (some ↑wr.heap.size) i 4 _ rfl rfl S1.out g 0 (Y4 l') 482 HG.out i bZ.out.1 (fun _=>rfl) bZ.out.2 (RH _) ?_;intro w3 hb3 X7;have HW3:=Z5 hb3 X7;clear hb3 X7)
     obtain⟨hb3,X7⟩:=HW3.out;have uG:Mod (·=g) w2 w3:=((Mod.refl _ w2).drew).trans X7;have Ey:=Z7 (PN uG HK.out hb3 (.there (.there .here)));clear hb3 X7 uG HK HW3 HG S1;have Fv:=Ey.out.ZX 0 rfl;have hg:=Ey.out.ZX 2 rfl;dsimp only at Fv hg;have S2:Hid (Src w3.drew 1 (some ↑(wr.heap.size+1)) i (Y4 (((I9 l' i).drop 0).take i))):=Mt Fv.drew 0 i (by rw [PS];omega);have hlen:(splice (Y4 l') 0 ((Y4 (((L9 l' i).drop 0).take i)).take i)).length=8:=by
      rw [length_splice _ _ _ (by simp [Y4,Q8,HA.out.2.1];omega),XR,HA.out.2.1]
     have aho:Hid (i=Nat.min i i/\i+i<=(splice (Y4 l') 0 ((Y4 (((L9 l' i).drop 0).take i)).take i)).length):=⟨(TN i).symm,by rw [hlen];omega⟩
     have HG2:=Z7 hg.drew;have e1:n-i=i:=by have:=HN.out;omega
     have e2:¬8=i:=Z8;clear Fv hg hlen;go_upto_region 12 with(fail)
     go_region_law (refine Wq rfl (.tmp 56) (.tmp 58) _ _ rfl 3 underlying63 ZR (some ⟨g,i,none⟩) i (8-i) (some ↑(wr.heap.size+1)) i 4 _ (by simp [Act.eval,Act.put]) (by simp [Act.eval,Act.put]) S2.out g i _ 482 HG2.out i aho.out.1 (fun _=>rfl) aho.out.2 (RH _) ?_;intro w4 hb4 Xl;have gN:=Z5 hb4 Xl;clear hb4 Xl)
     obtain⟨hb4,Xl⟩:=gN.out;have xx:Mod (·=g) w3 w4:=((Mod.refl _ w3).drew).trans Xl;have Ut:ZI w4 g 482 (Y4 (Cj i l')).toArray:=by
      rw [Uc,Uc,Bu,Bu,Fz,Fz,List.take_take,List.take_take,TN]at hb4;exact hb4
     have pV:=Z7 ((PN xx Ey.out Ut (.there (.there .here))).Vp.Vp);have qB:=HA.out.1;rw [HN.out]at qB;have HNX:=Z7 (ack qB);clear hb4 Xl xx Ut Ey gN HG2 S2 aho qB e1 e2;go_wp2_with fail;go_roundw
     case rel=>exact⟨i,_,HNX.out,rfl,pV.out⟩
     case measure=>have yC:=HN.out;simp [intOf];omega
  ·obtain rfl:n=1:=by unfold vU at hat;omega
   obtain rfl:l'=Np l:=by
    unfold vU at hat
    rcases hat with⟨h,_⟩|⟨h,_⟩|⟨h,_⟩|⟨_,h⟩
    ·omega
    ·omega
    ·omega
    ·exact h
   have HF:=Z7 hs;clear hs hat hw' hl';go_wp2_with fail;go_end0
   exact⟨rfl,HF.out.ZX 0 rfl,HF.out.mod⟩
end Go.Proofs.YthednemlahioeaaGreatDoor
