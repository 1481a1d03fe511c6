/-
  plane.Right, plane.Whole of anything.
-/
import Derived.Test.YthednemlahioeaaGreatDoorM17
import Derived.Test.YthednemlahioeaaGreatDoorM16
import Derived.RangeFuncNested
import Derived.RangeFuncBound
import Derived.RangeFuncCalls
import Derived.RangeFuncLeaves
import Derived.Shelf.Abstract
import Derived.OwnWalkIn
import Derived.TacticsInMore
import Derived.LoopNIn
import Derived.LoopIn
namespace Go.Proofs.YthednemlahioeaaGreatDoor
open Go.RowKit Go.Shelf
open Lib renaming hid→Z7
open Bool renaming true_and→YS,and_eq_true→ZT
open Sat renaming nil→YT,after→Zw
open Nat renaming lt_of_lt_of_le→ZB,le_refl→ZY,add_mul→Y5
open And renaming intro→Z9
open Int renaming natCast_mul→Rn
open List renaming range→Zz
open Go.Proofs.Tryz
set_option maxRecDepth 100000
set_option maxHeartbeats 8000000
def Rm(W H:Int):Bool:=decide (1<=W/\W<=4096/\1<=H/\H<=4096)
def X8(W H:Int)(n:Nat):Bool:=Rm W H&&decide ((n:Int)=W*H)
theorem sZ(w:World)(W H:Int):Calls prog 89 #[↑W,↑H] w fun e w'=>e=.returned (.bool (Rm W H))/\w=w':=by
 unfold Rm;by_cases h1:1<=W
 ·have d1:decide (1<=W)=true:=decide_eq_true h1;by_cases h2:W<=4096
  ·have d2:decide (W<=4096)=true:=decide_eq_true h2;by_cases h3:1<=H
   ·have d3:decide (1<=H)=true:=decide_eq_true h3;by_cases h4:H<=4096
    ·have d4:decide (H<=4096)=true:=decide_eq_true h4;rw [decide_eq_true (show 1<=W/\W<=4096/\1<=H/\H<=4096 from⟨h1,h2,h3,h4⟩)];go_enter func89,ntmps89;go_wp2_with fail;go_ret;exact⟨rfl,rfl⟩
    ·have d4:decide (H<=4096)=false:=decide_eq_false h4;rw [decide_eq_false (show ¬(1<=W/\W<=4096/\1<=H/\H<=4096)by omega)];go_enter func89,ntmps89;go_wp2_with fail;go_ret;exact⟨rfl,rfl⟩
   ·have d3:decide (1<=H)=false:=decide_eq_false h3;rw [decide_eq_false (show ¬(1<=W/\W<=4096/\1<=H/\H<=4096)by omega)];go_enter func89,ntmps89;go_wp2_with fail;go_ret;exact⟨rfl,rfl⟩
  ·have d2:decide (W<=4096)=false:=decide_eq_false h2;rw [decide_eq_false (show ¬(1<=W/\W<=4096/\1<=H/\H<=4096)by omega)];go_enter func89,ntmps89;go_wp2_with fail;go_ret;exact⟨rfl,rfl⟩
 ·have d1:decide (1<=W)=false:=decide_eq_false h1;rw [decide_eq_false (show ¬(1<=W/\W<=4096/\1<=H/\H<=4096)by omega)];go_enter func89,ntmps89;go_wp2_with fail;go_ret;exact⟨rfl,rfl⟩
theorem Mq{W H:Int}(h:Rm W H=true):∃a b:Nat,W=(a:Int)/\H=(b:Int)/\Yx a b=true:=by
 have:=of_decide_eq_true h;exact⟨W.toNat,H.toNat,Z8,Z8,oN⟩
theorem O5(w:World)(W H:Int)(A:Option Addr)(n c:Nat):Calls prog 109 #[.agg #[↑W,↑H,.slice A n c]] w fun e w'=>e=.returned (.bool (X8 W H n))/\Mod ↑ZW w w':=by
 by_cases hs:Rm W H=true
 ·obtain⟨a,b,rfl,rfl,hab⟩:=Mq hs;have ha:=YB hab;obtain⟨m,hm⟩:=ZL (a*b);rw [<-hm]at ha;have e1:wrap64 ((a:Int)*(b:Int))=(m:Int):=by
   rw [show(a:Int)*(b:Int)=(m:Int)by rw [hm];simp];exact IntWalk.wrap64_in _ ⟨Z8,Z8⟩
  have HE:=Z7 e1;have hS:=sZ (w.alloc (.cells #[↑a,↑b,.slice A n c] 56)) (a:Int) (b:Int);rw [hs]at hS;have HS:=Z7 hS;have fe:X8 (a:Int) (b:Int) n=decide (n=m):=by
   unfold X8;rw [hs,YS,show(a:Int)*(b:Int)=(m:Int)by rw [hm];simp];exact decide_eq_decide.2 Z8
  rw [fe];clear hm e1 hS hs hab fe;by_cases iP:n=m
  ·have d1:((n:Int) == (m:Int))=true:=by simp;omega
   rw [decide_eq_true iP];have HN:=Z7 iP;clear iP;go_enter func109,ntmps109;go_wp2_with fail;refine HS.out.mono ?_;rintro e w1 ⟨rfl,rfl⟩;have e1:=HE.out;go_wp2_with fail;go_ret;exact⟨by rw [e1]at *;simp [HN.out],(Mod.refl _ _).alloc _⟩
  ·have d1:((n:Int) == (m:Int))=false:=by simp;omega
   rw [decide_eq_false iP];go_enter func109,ntmps109;go_wp2_with fail;refine HS.out.mono ?_;rintro e w1 ⟨rfl,rfl⟩;have e1:=HE.out;go_wp2_with fail;go_ret;exact⟨rfl,(Mod.refl _ _).alloc _⟩
 ·have hs':Rm W H=false:=by simpa using hs
  have hS:=sZ (w.alloc (.cells #[↑W,↑H,.slice A n c] 56)) W H;rw [hs']at hS;have HS:=Z7 hS;have fe:X8 W H n=false:=by unfold X8;rw [hs'];rfl
  rw [fe];clear hS hs hs' fe;go_enter func109,ntmps109;go_wp2_with fail;refine HS.out.mono ?_;rintro e w1 ⟨rfl,rfl⟩;go_wp2_with fail;go_ret;exact⟨rfl,(Mod.refl _ _).alloc _⟩
theorem abz(w:World)(W0 H0 W1 H1 W2 H2:Int)(A0 A1 A2:Option Addr)(n0 c0 n1 c1 n2 c2:Nat)(lG:X8 W0 H0 n0=false):Calls prog 60 #[.agg #[↑W0,↑H0,.slice A0 n0 c0,↑W1,↑H1,.slice A1 n1 c1,↑W2,↑H2,.slice A2 n2 c2]] w fun e w'=>e=.returned (.bool false)/\Mod ↑ZW w w':=by
 have h0:=Z7 ((YT ↑ZW w).alloc 58 #[↑W0,↑H0,.slice A0 n0 c0,↑W1,↑H1,.slice A1 n1 c1,↑W2,↑H2,.slice A2 n2 c2] rfl);have R0:=fun w=>O5 w W0 H0 A0 n0 c0;have jw:=Z7 lG;clear lG;go_enter func60,ntmps60;go_wp2_with fail;refine YX (R0 _) fun w1 Y6=>?_;rw [jw.out];have hs1:=Zw Y6 h0.out;obtain⟨pI,pf1⟩:=(hs1.ZX 0 rfl).both;have H1:=Z7 hs1;clear Y6 hs1;go_wp2_with fail;go_ret;exact⟨rfl,H1.out.mod⟩
theorem aby(w:World)(W0 H0 W1 H1 W2 H2:Int)(A0 A1 A2:Option Addr)(n0 c0 n1 c1 n2 c2:Nat)(lG:X8 W0 H0 n0=true)(dP:X8 W1 H1 n1=false):Calls prog 60 #[.agg #[↑W0,↑H0,.slice A0 n0 c0,↑W1,↑H1,.slice A1 n1 c1,↑W2,↑H2,.slice A2 n2 c2]] w fun e w'=>e=.returned (.bool false)/\Mod ↑ZW w w':=by
 have h0:=Z7 ((YT ↑ZW w).alloc 58 #[↑W0,↑H0,.slice A0 n0 c0,↑W1,↑H1,.slice A1 n1 c1,↑W2,↑H2,.slice A2 n2 c2] rfl);have R0:=fun w=>O5 w W0 H0 A0 n0 c0;have R1:=fun w=>O5 w W1 H1 A1 n1 c1;have jw:=Z7 lG;have HT1:=Z7 dP;clear lG dP;go_enter func60,ntmps60;go_wp2_with fail;refine YX (R0 _) fun w1 Y6=>?_;rw [jw.out];have hs1:=Zw Y6 h0.out;obtain⟨pI,pf1⟩:=(hs1.ZX 0 rfl).both;have H1:=Z7 hs1;clear Y6 hs1;go_wp2_with fail;refine YX (R1 _) fun w2 Y3=>?_;rw [HT1.out];have hs2:=H1.out.quiet Y3;obtain⟨tq,pf2⟩:=(hs2.ZX 0 rfl).both;have H2:=Z7 hs2;clear Y3 hs2 pI pf1 H1;go_wp2_with fail;go_ret;exact⟨rfl,H2.out.mod⟩
theorem abx(w:World)(W0 H0 W1 H1 W2 H2:Int)(A0 A1 A2:Option Addr)(n0 c0 n1 c1 n2 c2:Nat)(lG:X8 W0 H0 n0=true)(dP:X8 W1 H1 n1=true)(h2r:X8 W2 H2 n2=false):Calls prog 60 #[.agg #[↑W0,↑H0,.slice A0 n0 c0,↑W1,↑H1,.slice A1 n1 c1,↑W2,↑H2,.slice A2 n2 c2]] w fun e w'=>e=.returned (.bool false)/\Mod ↑ZW w w':=by
 have h0:=Z7 ((YT ↑ZW w).alloc 58 #[↑W0,↑H0,.slice A0 n0 c0,↑W1,↑H1,.slice A1 n1 c1,↑W2,↑H2,.slice A2 n2 c2] rfl);have R0:=fun w=>O5 w W0 H0 A0 n0 c0;have R1:=fun w=>O5 w W1 H1 A1 n1 c1;have R2:=fun w=>O5 w W2 H2 A2 n2 c2;have jw:=Z7 lG;have HT1:=Z7 dP;have HT2:=Z7 h2r;clear lG dP h2r;go_enter func60,ntmps60;go_wp2_with fail;refine YX (R0 _) fun w1 Y6=>?_;rw [jw.out];have hs1:=Zw Y6 h0.out;obtain⟨pI,pf1⟩:=(hs1.ZX 0 rfl).both;have H1:=Z7 hs1;clear Y6 hs1;go_wp2_with fail;refine YX (R1 _) fun w2 Y3=>?_;rw [HT1.out];have hs2:=H1.out.quiet Y3;obtain⟨tq,pf2⟩:=(hs2.ZX 0 rfl).both;have H2:=Z7 hs2;clear Y3 hs2 pI pf1 H1;go_wp2_with fail;refine YX (R2 _) fun w3 X7=>?_;rw [HT2.out];have hs3:=H2.out.quiet X7;obtain⟨pc3,pf3⟩:=(hs3.ZX 0 rfl).both;have H3:=Z7 hs3;clear X7 hs3 tq pf2 H2;go_wp2_with fail;go_ret;exact⟨rfl,H3.out.mod⟩
def Ye(W0 H0:Int)(n0:Nat)(W1 H1:Int)(n1:Nat)(W2 H2:Int)(n2:Nat):Bool:=decide (X8 W0 H0 n0=true/\X8 W1 H1 n1=true/\X8 W2 H2 n2=true/\W0 % 16=0/\H0 % 16=0/\W1=W0/2/\H1=H0/2/\W2=W0/2/\H2=H0/2)
theorem abA(w:World)(x0 y0 x1 y1 x2 y2:Nat)(hx0:x0<=4096)(fE:y0<=4096)(A0 A1 A2:Option Addr)(n0 c0 n1 c1 n2 c2:Nat)(lG:X8 (x0:Int) (y0:Int) n0=true)(dP:X8 (x1:Int) (y1:Int) n1=true)(h2r:X8 (x2:Int) (y2:Int) n2=true):
  Calls prog 60 #[.agg #[↑x0,↑y0,.slice A0 n0 c0,↑x1,↑y1,.slice A1 n1 c1,↑x2,↑y2,.slice A2 n2 c2]] w fun e w'=>e=.returned (.bool (decide (x0 % 16=0/\y0 % 16=0/\x1=x0/2/\y1=y0/2/\x2=x0/2/\y2=y0/2)))/\Mod ↑ZW w w':=by
 obtain⟨p,hp⟩:=ZL (x0/2);obtain⟨q,hq⟩:=ZL (y0/2);rw [<-hp,<-hq];have v1:(x0:Int)/2=(p:Int):=Z8;have v2:(y0:Int)/2=(q:Int):=Z8;obtain⟨B,hB⟩:∃B,B=decide (x0 % 16=0/\y0 % 16=0/\x1=p/\y1=q/\x2=p/\y2=q):=⟨_,rfl⟩
 rw [<-hB];have HB:=Z7 hB;have HV:=Z5 v1 v2;clear hB v1 v2 hp hq;have h0:=Z7 ((YT ↑ZW w).alloc 58 #[↑x0,↑y0,.slice A0 n0 c0,↑x1,↑y1,.slice A1 n1 c1,↑x2,↑y2,.slice A2 n2 c2] rfl);have R0:=fun w=>O5 w (x0:Int) (y0:Int) A0 n0 c0;have R1:=fun w=>O5 w (x1:Int) (y1:Int) A1 n1 c1;have R2:=fun w=>O5 w (x2:Int) (y2:Int) A2 n2 c2;have jw:=Z7 lG;have HT1:=Z7 dP;have HT2:=Z7 h2r;clear lG dP h2r;go_enter func60,ntmps60;go_wp2_with fail;refine YX (R0 _) fun w1 Y6=>?_;rw [jw.out];have hs1:=Zw Y6 h0.out;obtain⟨pI,pf1⟩:=(hs1.ZX 0 rfl).both;have H1:=Z7 hs1;clear Y6 hs1;go_wp2_with fail;refine YX (R1 _) fun w2 Y3=>?_;rw [HT1.out];have hs2:=H1.out.quiet Y3;obtain⟨tq,pf2⟩:=(hs2.ZX 0 rfl).both;have H2:=Z7 hs2;clear Y3 hs2 pI pf1 H1;go_wp2_with fail;refine YX (R2 _) fun w3 X7=>?_;rw [HT2.out];have hs3:=H2.out.quiet X7;obtain⟨pc3,pf3⟩:=(hs3.ZX 0 rfl).both;have H3:=Z7 hs3;clear X7 hs3 tq pf2 H2;obtain⟨v1,v2⟩:=HV.out;go_wp2_with fail
 all_goals
  go_ret;refine⟨congrArg (fun z=>Ending.returned (.bool z)) ?_,H3.out.mod⟩;rw [HB.out]
  first
  | exact(oN).symm
  | exact(Cv).symm
  | (by_cases hz:y2=q
     ·rw [oN,hz];simp
     ·rw [Cv];simp;omega)
theorem Mh(w:World)(W0 H0 W1 H1 W2 H2:Int)(A0 A1 A2:Option Addr)(n0 c0 n1 c1 n2 c2:Nat):Calls prog 60 #[.agg #[↑W0,↑H0,.slice A0 n0 c0,↑W1,↑H1,.slice A1 n1 c1,↑W2,↑H2,.slice A2 n2 c2]] w fun e w'=>e=.returned (.bool (Ye W0 H0 n0 W1 H1 n1 W2 H2 n2))/\Mod ↑ZW w w':=by
 unfold Ye;by_cases r0:X8 W0 H0 n0=true
 ·by_cases r1:X8 W1 H1 n1=true
  ·by_cases r2:X8 W2 H2 n2=true
   ·have hs0:=r0;have hs1:=r1;have hs2:=r2;unfold X8 at hs0 hs1 hs2;rw [ZT]at hs0 hs1 hs2;obtain⟨x0,y0,rfl,rfl,akJ⟩:=Mq hs0.1;obtain⟨x1,y1,rfl,rfl,alS⟩:=Mq hs1.1;obtain⟨x2,y2,rfl,rfl,alR⟩:=Mq hs2.1;obtain⟨_,_,a1,_,a2,_⟩:=YB akJ;have hE:decide (X8 (x0:Int) (y0:Int) n0=true/\X8 (x1:Int) (y1:Int) n1=true/\X8 (x2:Int) (y2:Int) n2=true/\(x0:Int) % 16=0/\(y0:Int) % 16=0/\(x1:Int)=(x0:Int)/2/\(y1:Int)=(y0:Int)/2/\(x2:Int)=(x0:Int)/2/\(y2:Int)=(y0:Int)/2)=decide (x0 % 16=0/\y0 % 16=0/\x1=x0/2/\y1=y0/2/\x2=x0/2/\y2=y0/2):=by
     apply decide_eq_decide.2;constructor
     ·rintro⟨_,_,_,h1,h2,h3,h4,h5,h6⟩;omega
     ·rintro⟨h1,h2,h3,h4,h5,h6⟩;exact⟨r0,r1,r2,Z8,Z8,Z8,Z8,Z8,Z8⟩
    rw [hE];exact abA w x0 y0 x1 y1 x2 y2 a1 a2 A0 A1 A2 n0 c0 n1 c1 n2 c2 r0 r1 r2
   ·rw [decide_eq_false (fun h=>r2 h.2.2.1)];exact abx w W0 H0 W1 H1 W2 H2 A0 A1 A2 n0 c0 n1 c1 n2 c2 r0 r1 (by simpa using r2)
  ·rw [decide_eq_false (fun h=>r1 h.2.1)];exact aby w W0 H0 W1 H1 W2 H2 A0 A1 A2 n0 c0 n1 c1 n2 c2 r0 (by simpa using r1)
 ·rw [decide_eq_false (fun h=>r0 h.1)];exact abz w W0 H0 W1 H1 W2 H2 A0 A1 A2 n0 c0 n1 c1 n2 c2 (by simpa using r0)
def gP(er:Int):Ending:=.returned (.tuple #[↑Zd,.agg Sl.toArray,↑er])
theorem aay(w:World)(g:Nat)(W H G q tg nu:Int)(al:List Value)(hx:ZI w g 250 (Ll W H G q tg nu al))(X0 Y0 X1 Y1 X2 Y2:Int)(A0 A1 A2:Option Addr)(n0 c0 n1 c1 n2 c2:Nat)
  (zC:(Ye X0 Y0 n0 X1 Y1 n1 X2 Y2 n2&&(decide (X0=W)&&decide (Y0=H)))=false):
  Calls prog 97 #[↑(ZC g 0),.agg #[↑X0,↑Y0,.slice A0 n0 c0,↑X1,↑Y1,.slice A1 n1 c1,↑X2,↑Y2,.slice A2 n2 c2]] w fun e w'=>e=gP 61/\Mod ↑ZW w w':=by
 have KM:Ye X0 Y0 n0 X1 Y1 n1 X2 Y2 n2=false\/(Ye X0 Y0 n0 X1 Y1 n1 X2 Y2 n2=true/\X0≠W)\/(Ye X0 Y0 n0 X1 Y1 n1 X2 Y2 n2=true/\X0=W/\Y0≠H):=by
  cases hw:Ye X0 Y0 n0 X1 Y1 n1 X2 Y2 n2 with
  | false=>exact .inl rfl
  | true=>
   rw [hw]at zC;simp only [YS,Bool.and_eq_false_iff,decide_eq_false_iff_not]at zC;by_cases e:X0=W
   ·rcases zC with h|h
    ·exact absurd e h
    ·exact .inr (.inr ⟨rfl,e,h⟩)
   ·exact .inr (.inl ⟨rfl,e⟩)
 clear zC;obtain⟨b,hb⟩:=ZL (Ye X0 Y0 n0 X1 Y1 n1 X2 Y2 n2);rw [<-hb]at KM;have h0:=(((YT ↑ZW w).alloc 58 #[↑X0,↑Y0,.slice A0 n0 c0,↑X1,↑Y1,.slice A1 n1 c1,↑X2,↑Y2,.slice A2 n2 c2] rfl).alloc (g:=w.heap.size+1) 58 ↑WK Ze).alloc (g:=w.heap.size+2) 40 #[↑W,↑H,↑G] Ze;obtain⟨bc,bf⟩:=hx.both;have qE:=hx.lt;have x0:w.cell? ↑g=some ↑W:=bc 0;have x1:w.cell? ⟨g,1,none⟩=some ↑H:=bc 1;have x2:w.cell? ⟨g,2,none⟩=some ↑G:=bc 2;have HB:=Z7 hb;have M8:=Z7 h0;clear hb h0 hx bc bf;go_enter func97,ntmps97;go_upto_region 4 with(fail)
 have hS1:=M8.out;generalize (((w.alloc (.cells #[↑X0,↑Y0,.slice A0 n0 c0,↑X1,↑Y1,.slice A1 n1 c1,↑X2,↑Y2,.slice A2 n2 c2] 58)).alloc (.cells ↑WK 58)).alloc (.cells #[↑W,↑H,↑G] 40))=w1 at hS1 ⊢;have hq:=hS1.ZX 2 rfl;dsimp only at hq;obtain⟨f0,ff⟩:=hq.both;have fl:=hq.lt;clear x0 x1 x2 hq;have XZ:=Z7 hS1;clear hS1 M8;go_wp2_with fail;refine YX (Mh _ X0 Y0 X1 Y1 X2 Y2 A0 A1 A2 n0 c0 n1 c1 n2 c2) fun w2 Y3=>?_;rw [<-HB.out];have JN:=Zw Y3 XZ.out;clear f0 ff fl Y3 XZ;have hq:=JN.ZX 2 rfl;dsimp only at hq;obtain⟨f0,ff⟩:=hq.both;have fl:=hq.lt;have DC:=JN.ZX 0 rfl;dsimp only at DC;obtain⟨s0,sf⟩:=DC.both;have sl:=DC.lt;have EX:=JN.ZX 1 rfl;dsimp only at EX;obtain⟨z0,zf⟩:=EX.both;have zl:=EX.lt;have fw:w2.cell? ↑w.heap.size=some ↑X0:=f0 0;have fh:w2.cell? ⟨w.heap.size,1,none⟩=some ↑Y0:=f0 1;have sw:w2.cell? ↑(w.heap.size+1+1)=some ↑W:=s0 0;have sh:w2.cell? ⟨w.heap.size+1+1,1,none⟩=some ↑H:=s0 1;have sl':w.heap.size+1+1<w2.heap.size:=sl;have sf':∀i,w2.frozen? ⟨w.heap.size+1+1,i,none⟩=false:=sf;have zl':w.heap.size+1<w2.heap.size:=zl;have V4:=Z5 JN EX;clear JN f0 s0 sl sf zl hq DC EX;rcases KM with rfl|⟨rfl,h1⟩|⟨rfl,h1,h2⟩
 ·go_wp2_with fail;have h9:=Qg V4.out.2 ↑Z0 ↑Z0 ↑Zd ↑Z0 ↑Z0 ↑Zd ↑Z0 ↑Z0 ↑Zd;refine bodyPost_ret (v:=.tuple #[↑Zd,.agg Sl.toArray,.int .i64 61]) (by simp [results,results97,go_sem,z0,Sl]) rfl ⟨rfl,V4.out.1.mod.into h9.2 (fun i e=>.inr Z8)⟩
 ·have t1:(X0 != W)=true:=by simpa using h1
  have HH:=Z7 h1;clear h1;go_wp2_with fail;have h9:=Qg V4.out.2 ↑Z0 ↑Z0 ↑Zd ↑Z0 ↑Z0 ↑Zd ↑Z0 ↑Z0 ↑Zd;refine bodyPost_ret (v:=.tuple #[↑Zd,.agg Sl.toArray,.int .i64 61]) (by simp [results,results97,go_sem,z0,Sl]) rfl ⟨rfl,V4.out.1.mod.into h9.2 (fun i e=>.inr Z8)⟩
 ·have t1:(X0 != W)=false:=by simpa using h1
  have t2:(Y0 != H)=true:=by simpa using h2
  have HH:=Z5 h1 h2;clear h1 h2;go_wp2_with fail;have h9:=Qg V4.out.2 ↑Z0 ↑Z0 ↑Zd ↑Z0 ↑Z0 ↑Zd ↑Z0 ↑Z0 ↑Zd;refine bodyPost_ret (v:=.tuple #[↑Zd,.agg Sl.toArray,.int .i64 61]) (by simp [results,results97,go_sem,z0,Sl]) rfl ⟨rfl,V4.out.1.mod.into h9.2 (fun i e=>.inr Z8)⟩
structure Ya where
 W0:Int
 H0:Int
 A0:Option Addr
 n0:Nat
 c0:Nat
 W1:Int
 H1:Int
 A1:Option Addr
 n1:Nat
 c1:Nat
 W2:Int
 H2:Int
 A2:Option Addr
 n2:Nat
 c2:Nat
 p0:List UInt8
 p1:List UInt8
 p2:List UInt8
def Ya.cells(f:Ya):List Value:=[↑f.W0,↑f.H0,.slice f.A0 f.n0 f.c0,↑f.W1,↑f.H1,.slice f.A1 f.n1 f.c1,↑f.W2,↑f.H2,.slice f.A2 f.n2 f.c2]
def Ya.zero:Ya:=⟨0,0,none,0,0,0,0,none,0,0,0,0,none,0,0,[],[],[]⟩
structure Ya.In(f:Ya)(w:World):Prop where
 b0:BytesIn w f.A0 f.n0 f.c0 f.p0
 b1:BytesIn w f.A1 f.n1 f.c1 f.p1
 b2:BytesIn w f.A2 f.n2 f.c2 f.p2
 k0:f.n0<=f.c0
 k1:f.n1<=f.c1
 k2:f.n2<=f.c2
 m0:f.n0<=9223372036854775807
 m1:f.n1<=9223372036854775807
 m2:f.n2<=9223372036854775807
theorem Ya.In.quiet{f:Ya}{w w':World}(h:f.In w)(hm:Mod ↑ZW w w'):f.In w':=⟨h.b0.quiet hm,h.b1.quiet hm,h.b2.quiet hm,h.k0,h.k1,h.k2,h.m0,h.m1,h.m2⟩
structure ME(w:World)(A:Option Addr)(n:Nat)(fs:List Ya):Prop where
 len:fs.length=n
 at_:∀i,i<n->∃b o,A=some ⟨b,o,none⟩/\b<w.heap.size/\(∀(j:Nat) (v:Value),(fs.getD i Ya.zero).cells[j]?=some v->w.cell? ⟨b,o+i*9+j,none⟩=some v)/\(fs.getD i Ya.zero).In w
theorem ME.quiet{w w':World}{A:Option Addr}{n:Nat}{fs:List Ya}(h:ME w A n fs)(hm:Mod ↑ZW w w'):ME w' A n fs:=
 ⟨h.len,fun i hi=>by
  obtain⟨b,o,h1,h2,h3,h4⟩:=h.at_ i hi;exact⟨b,o,h1,ZB h2 hm.size,fun j v hv=>(World.cell?_of_block (hm.block b h2 (fun h=>h))).trans (h3 j v hv),h4.quiet hm⟩⟩
def Ya.wQ(f:Ya):Bool:=decide (f.n0<=10000/\f.n1<=10000/\f.n2<=10000)
theorem zT(w:World)(W H:Int)(A:Option Addr)(n c:Nat)(hn:n<=9223372036854775807):Calls prog 94 #[.agg #[↑W,↑H,.slice A n c]] w fun e w'=>e=.returned (.bool (decide (n<=10000)))/\Mod ↑ZW w w':=by
 have HM:=Z7 (((Mod.refl ↑ZW w).alloc (.cells #[↑W,↑H,.slice A n c] 56)));by_cases h:n<=10000
 ·have d:=Zb ((n:Int)<=10000);have e:decide (n<=10000)=true:=decide_eq_true h;go_enter func94,ntmps94;go_wp2_with fail;go_ret;exact⟨by rw [e];rfl,HM.out⟩
 ·have d:=Za ((n:Int)<=10000);have e:decide (n<=10000)=false:=decide_eq_false h;go_enter func94,ntmps94;go_wp2_with fail;go_ret;exact⟨by rw [e];rfl,HM.out⟩
theorem aav(w:World)(f:Ya)(h:f.In w):Calls prog 52 #[.agg f.cells.toArray] w fun e w'=>e=.returned (.bool f.wQ)/\Mod ↑ZW w w':=by
 obtain⟨W0,H0,A0,n0,c0,W1,H1,A1,n1,c1,W2,H2,A2,n2,c2,p0,p1,p2⟩:=f;have hs:=(YT ↑ZW w).alloc 58 #[↑W0,↑H0,.slice A0 n0 c0,↑W1,↑H1,.slice A1 n1 c1,↑W2,↑H2,.slice A2 n2 c2] rfl;have K0:=fun w=>zT w W0 H0 A0 n0 c0 h.m0;have K1:=fun w=>zT w W1 H1 A1 n1 c1 h.m1;have K2:=fun w=>zT w W2 H2 A2 n2 c2 h.m2;obtain⟨t0,aQ⟩:=ZL (decide (n0<=10000));obtain⟨t1,uL⟩:=ZL (decide (n1<=10000));obtain⟨t2,DJ⟩:=ZL (decide (n2<=10000));have hF:Ya.wQ ⟨W0,H0,A0,n0,c0,W1,H1,A1,n1,c1,W2,H2,A2,n2,c2,p0,p1,p2⟩=(t0&&(t1&&t2)):=by
  unfold Ya.wQ;dsimp only;rw [aQ,uL,DJ,Bool.eq_iff_iff];simp
 rw [hF];rw [<-aQ]at K0;rw [<-uL]at K1;rw [<-DJ]at K2;unfold Ya.cells;dsimp only;have HS:=Z7 hs;have HK:=Z5 K0 (Z9 K1 K2);clear hs K0 K1 K2 aQ uL DJ hF h;go_enter func52,ntmps52;go_wp2_with fail;refine YX (HK.out.1 _) fun w1 Y6=>?_;have hs1:=Zw Y6 HS.out;obtain⟨pc,pf⟩:=(hs1.ZX 0 rfl).both;have H1:=Z7 hs1;clear Y6 hs1;go_wp2_with fail;refine YX (HK.out.2.1 _) fun w2 Y3=>?_;have hs2:=H1.out.quiet Y3;obtain⟨tq,pf2⟩:=(hs2.ZX 0 rfl).both;have H2:=Z7 hs2;clear Y3 hs2 pc pf H1;go_wp2_with fail;refine YX (HK.out.2.2 _) fun w3 X7=>?_;have H3:=Z7 (H2.out.mod.trans X7);clear X7 tq pf2 H2;cases t0<;>cases t1<;>cases t2
 all_goals
  go_wp2_with fail;go_ret;exact⟨rfl,H3.out⟩
def Ya.UG(f:Ya)(d:Yz):Bool:=Ye f.W0 f.H0 f.n0 f.W1 f.H1 f.n1 f.W2 f.H2 f.n2&&(decide (f.W0=(d.W:Int))&&decide (f.H0=(d.H:Int)))
def Ya.ZJ(f:Ya):Yy:=⟨f.p0,f.p1,f.p2⟩
theorem Ya.good{f:Ya}{d:Yz}(hd:d.Ok)(h:f.UG d=true):f.cells=NG d f.A0 f.A1 f.A2 f.c0 f.c1 f.c2/\f.n0=d.nY/\f.n1=d.nC/\f.n2=d.nC:=by
 obtain⟨X0,Y0,A0,n0,c0,X1,Y1,A1,n1,c1,X2,Y2,A2,n2,c2,p0,p1,p2⟩:=f;unfold Ya.UG at h;dsimp only at h;simp only [ZT,decide_eq_true_eq]at h;obtain⟨hw,rfl,rfl⟩:=h;unfold Ye at hw;rw [decide_eq_true_eq]at hw;obtain⟨r0,r1,r2,_,_,e1,e2,e3,e4⟩:=hw;unfold X8 at r0 r1 r2;simp only [ZT,decide_eq_true_eq]at r0 r1 r2;have a1:=hd.w2;have a2:=hd.h2;have f1:X1=(d.W2:Int):=Z8;have f2:Y1=(d.H2:Int):=Z8;have f3:X2=(d.W2:Int):=Z8;have f4:Y2=(d.H2:Int):=Z8;subst f1 f2 f3 f4;have g0:n0=d.nY:=by have:=r0.2;rw [hd.ny];have z:((d.W*d.H:Nat):Int)=(d.W:Int)*(d.H:Int):=Rn _ _;omega
 have g1:n1=d.nC:=by have:=r1.2;rw [hd.nc];have z:((d.W2*d.H2:Nat):Int)=(d.W2:Int)*(d.H2:Int):=Rn _ _;omega
 have g2:n2=d.nC:=by have:=r2.2;rw [hd.nc];have z:((d.W2*d.H2:Nat):Int)=(d.W2:Int)*(d.H2:Int):=Rn _ _;omega
 subst g0 g1;refine⟨?_,rfl,rfl,g2⟩;unfold Ya.cells NG;dsimp only;rw [g2]
theorem Ya.gW{f:Ya}{d:Yz}{w:World}(hd:d.Ok)(h:f.UG d=true)(YZ:f.In w):I4 w d (NG d f.A0 f.A1 f.A2 f.c0 f.c1 f.c2) f.ZJ:=by
 obtain⟨_,h0,h1,h2⟩:=Ya.good hd h;refine⟨rfl,fun p hp=>?_⟩;have h3:p=0\/p=1\/p=2:=Z8;have b0:=YZ.b0;have b1:=YZ.b1;have b2:=YZ.b2;have k0:=YZ.k0;have k1:=YZ.k1;have k2:=YZ.k2;rw [h0]at b0 k0;rw [h1]at b1 k1;rw [h2]at b2 k2;rcases h3 with rfl|rfl|rfl
 ·exact⟨_,_,rfl,rfl,rfl,b0,k0⟩
 ·exact⟨_,_,rfl,rfl,rfl,b1,k1⟩
 ·exact⟨_,_,rfl,rfl,rfl,b2,k2⟩
def Uu(w:World)(g:Nat)(d:Yz)(G q tg nu:Nat)(Y7:Yy):Prop:=
 ∃al,ZI w g 250 (Ll (d.W:Int) (d.H:Int) (G:Int) (q:Int) (tg:Int) (nu:Int) al)/\((al=Q3/\nu=0)\/∃ay au av,al=YF d ay au av/\(nu≠0->WN w d ay au av Y7))
theorem Uu.mod{w w':World}{S:Nat->Prop}{g:Nat}{d:Yz}{G q tg nu:Nat}{Y7:Yy}(h:Uu w g d G q tg nu Y7)(hm:Mod S w w')(hg:¬S g)(hS:∀j,S j->∃t cs,ZI w j t cs/\t≠5):Uu w' g d G q tg nu Y7:=by
 obtain⟨al,hb,hc⟩:=h;refine⟨al,hb.keep hm hg,?_⟩;rcases hc with hc|⟨ay,au,av,rfl,hf⟩
 ·exact .inl hc
 ·have ne:∀ {j cs},ZI w j 5 cs->¬S j:=fun hb hj=>by
   obtain⟨t,cs,hb2,ht⟩:=hS _ hj;exact hb2.SL hb ht rfl
  exact .inr ⟨ay,au,av,rfl,fun hn=>(hf hn).mod hm (ne (hf hn).Ff) (ne (hf hn).bu) (ne (hf hn).bv)⟩
theorem Uu.quiet{w w':World}{g:Nat}{d:Yz}{G q tg nu:Nat}{Y7:Yy}(h:Uu w g d G q tg nu Y7)(hm:Mod ↑ZW w w'):Uu w' g d G q tg nu Y7:=h.mod hm (fun h=>h) (fun _ h=>h.elim)
theorem Uu.lt{w:World}{g:Nat}{d:Yz}{G q tg nu:Nat}{Y7:Yy}(h:Uu w g d G q tg nu Y7):g<w.heap.size:=by
 obtain⟨al,hb,_⟩:=h;exact hb.lt
theorem Uu.any{w:World}{g:Nat}{d:Yz}{G q tg:Nat}{Y7:Yy}(h:Uu w g d G q tg 0 Y7)(a:Yy):Uu w g d G q tg 0 a:=by
 obtain⟨al,hb,hc⟩:=h;refine⟨al,hb,?_⟩;rcases hc with hc|⟨ay,au,av,rfl,_⟩
 ·exact .inl hc
 ·exact .inr ⟨ay,au,av,rfl,fun h=>absurd rfl h⟩
theorem Uu.end_{w:World}{g:Nat}{d:Yz}{G q tg nu:Nat}{Y7:Yy}(h:Uu w g d G q tg nu Y7):Calls prog 98 #[↑(ZC g 0)] w fun e w'=>e=.returned (.tuple #[])/\Uu w' g d G q tg 0 Y7/\Mod (·=g) w w':=by
 obtain⟨al,hb,hc⟩:=h;refine(agO w g _ _ _ _ _ _ _ hb).mono ?_;rintro e w' ⟨rfl,hb',hm⟩;refine⟨rfl,⟨al,hb',?_⟩,hm⟩;rcases hc with⟨h1,_⟩|⟨ay,au,av,rfl,_⟩
 ·exact .inl ⟨h1,rfl⟩
 ·exact .inr ⟨ay,au,av,rfl,fun h=>absurd rfl h⟩
def qR(w:World)(g:Nat)(d:Yz)(G q tg nu:Nat)(Y7:Yy)(f:Ya)(e:Ending)(w':World):Prop:=
 (f.UG d=false/\e=gP 61/\Mod ↑ZW w w') \/
 (f.UG d=true/\∃v p,e=.returned (.tuple #[v,p,↑Z0])/\Bytes w' w.heap.size v (Uy d f.ZJ Y7 nu q).1/\Qn w d (Uy d f.ZJ Y7 nu q).2 p w' /\
  Uu w' g d G (Gu q tg G (Uy d f.ZJ Y7 nu q).1.length) tg (Ip nu G) (Uy d f.ZJ Y7 nu q).2/\Mod (·=g) w w')
theorem abM{w:World}{g:Nat}{d:Yz}{G q tg nu:Nat}{Y7:Yy}(h:Uu w g d G q tg nu Y7)(he:Kk w)(hd:d.Ok)(hW:d.W<=64)(hH:d.H<=64)(hG:1<=G/\G<=64)(hq:q<=31)(ht:tg<=1048576)(EU:nu<G)(f:Ya)(hf:f.In w):
  Calls prog 97 #[↑(ZC g 0),.agg f.cells.toArray] w (qR w g d G q tg nu Y7 f):=by
 obtain⟨al,hb,hc⟩:=h;cases hgd:f.UG d with
 | false=>exact(aay w g _ _ _ _ _ _ al hb f.W0 f.H0 f.W1 f.H1 f.W2 f.H2 f.A0 f.A1 f.A2 f.n0 f.c0 f.n1 f.c1 f.n2 f.c2 hgd).mono (fun e w' k=>.inl ⟨hgd,k⟩)
 | true=>
  obtain⟨SB,_,_,_⟩:=Ya.good hd hgd;have eD:=Ya.gW hd hgd hf;have fC:∀w',Mod ↑ZW w w'->Calls prog 60 #[.agg (NG d f.A0 f.A1 f.A2 f.c0 f.c1 f.c2).toArray] w' fun e w''=>e=.returned (.bool true)/\Mod ↑ZW w' w'':=by
   intro w' _;rw [<-SB];refine(Mh w' f.W0 f.H0 f.W1 f.H1 f.W2 f.H2 f.A0 f.A1 f.A2 f.n0 f.c0 f.n1 f.c1 f.n2 f.c2).mono ?_;rintro e w'' ⟨rfl,hm⟩;unfold Ya.UG at hgd;rw [ZT]at hgd;rw [hgd.1];exact⟨rfl,hm⟩
  rw [SB];have Ii:∀e w',qP w g G q tg nu d (Uy d f.ZJ Y7 nu q) e w'->qR w g d G q tg nu Y7 f e w':=by
   rintro e w' ⟨v,p,ay,au,av,he,h1,h2,h3,h4,_,_,h5⟩;exact .inr ⟨hgd,v,p,he,h1,h2,⟨_,h3,.inr ⟨ay,au,av,rfl,fun _=>h4⟩⟩,h5⟩
  rcases hc with⟨Dj,h0⟩|⟨ay,au,av,Dj,Ia⟩
  ·exact(wN w g G q tg nu d hd hW hH 0 0 0 0 0 0 none none none 0 0 0 0 0 0 al Dj hG hq ht EU hb he Y7 (fun h=>absurd h0 h) f.A0 f.A1 f.A2 f.c0 f.c1 f.c2 f.ZJ eD fC).mono Ii
  ·refine(wN w g G q tg nu d hd hW hH (d.W:Int) (d.H:Int) (d.W2:Int) (d.H2:Int) (d.W2:Int) (d.H2:Int) (some ↑ay) (some ↑au) (some ↑av) d.nY d.nY d.nC d.nC d.nC d.nC al Dj hG hq ht EU hb he Y7 (fun h=>?_) f.A0 f.A1 f.A2 f.c0 f.c1 f.c2 f.ZJ eD fC).mono Ii;rw [Dj];exact WN.gW hd (Ia h)
def aju(B:Nat)(Kp:World->World->Prop)(I X:World->Prop)(W:World):Exit->Act->World->Prop
 | .normal,_,W'=>KeepsFrom B W W'/\Kp W W'/\I W'
 | .ret,_,W'=>KeepsFrom B W W'/\X W'
 | _,_,_=>False
def cu{α:Type}(E:World->Prop)(P:Program)(n gf:Nat)(lb:Array Value)(qa:α->Array Value)(sb:Nat)(Kp:World->World->Prop)(G S:List α->Prop)(w:World):Prop:=
 ∀(l:Nat) (J:List α->World->Prop) (Jx:World->Prop) (W:World),Below w.heap.size w W->(∀s W,J s W->E W)->(∀s W W',J s W->Mod ↑ZW W W'->J s W')->(∀s W v,J s W->J s (W.setCell ↑sb v)) ->
  (∀pre x W1,J pre W1->G (pre++[x])->YieldAt Fence.wide (n-1) P l (qa x) W1 fun e W'=>(e=.returned (.bool true)/\J (pre++[x]) W'/\Kp W1 W')\/(e=.returned (.bool false)/\Jx W')) ->
  J [] W->CallsIn Fence.wide n P gf (#[.func (.yield l) #[] #[]]++lb) W fun e W'=>(∃v,e=.returned v)/\((∃xs,S xs/\J xs W')\/Jx W')
theorem xY{I:World->Prop}{B:Nat}(hI:OwnFrom B fun(_:Unit) W=>I W){W:World}{l:Nat}{o:Obj}(o':Obj)(h:I W)(hB:B<=l)(hl:W.heap[l]?=some o)(ho:o.isCells=false):I (W.putObj l o'):=OwnFrom.putObj (s:=()) hI o' h hB hl ho
theorem aaB{α:Type}{E:World->Prop}{P:Program}{n:Nat}{g:Operand}{ps:Array Tmp}{assign body:Code}{Q:Exit->Act->World->Prop}{a:Act}{w:World}
  (h1:1<=n){gf:Nat}{lb:Array Value}(hg:a.eval g=.func (.func gf) #[] lb)(eg:∀args w,(callFunc gf args).run P w=.ok (.enter gf args) w)
  {qa:α->Array Value}(hps:∀x,(qa x).size=ps.size){sb:Nat}{Kp:World->World->Prop}{G S:List α->Prop}(hit:cu E P (n-1) gf lb qa sb Kp G S w)(PH:sb<w.heap.size)
  (hKt:∀ {A B C:World},Kp A B->Kp B C->Kp A C)(hKb:∀(W:World) (l:Nat) (o:Obj),w.heap.size<=l->Kp W (W.putObj l o))
  (I:List α->World->Prop)(X:World->Prop)(hI:OwnFrom w.heap.size I)(hX:OwnFrom w.heap.size fun(_:Unit) W=>X W)(hIE:∀s W,I s W->E W)(hIq:∀s W W',I s W->Mod ↑ZW W W'->I s W')(hIs:∀s W v,I s W->I s (W.setCell ↑sb v))(h0:I [] w)(a₁:α->Act)
  (aeQ:∀(l:Nat) (x:α) (W:World) (K:Act->World->Prop),K (a₁ x) W ->
   assign.wpIn (Fence.wide.inRound l) (n-1-1) P (Exit.then K (fun _ _ _=>False)) { tmps:=(ps.zip (qa x)).foldl (fun t (p,v)=>t.setIfInBounds p v) a.tmps,defers:=[] } W)
  (ai0:∀(l:Nat) (pre:List α) (x:α) (W:World),I pre W->G (pre++[x])->body.wpIn (Fence.wide.inRound l) (n-1-1) P (aju w.heap.size Kp (I (pre++[x])) X W) (a₁ x) W)
  (hdone:∀(D:Nat) (xs:List α) (W:World),w.heap.size<=D->S xs->I xs W->W.heap[D]?=some (.deferred (some []))->Q .normal { a with defers:={ target:=.collected D,args:=#[] } :: a.defers } W)
  (aik:∀(D:Nat) (W:World),w.heap.size<=D->X W->W.heap[D]?=some (.deferred (some []))->Code.ret.wpIn Fence.wide n P Q { a with defers:={ target:=.collected D,args:=#[] } :: a.defers } W):
  (Code.rangeFunc g ps assign body).wpIn Fence.wide n P Q a w:=by
 refine wpIn_rangeFunc (fun fn hfn=>?_);generalize zM:(fun(st:LoopState) (pe:Option Code)=>({ state:=st,pending:=pe,fn,tmps:=a.tmps,params:=ps,assign,body,defers:=w.heap.size }:Loop))=rec;have hst:∀st pe,(rec st pe).state=st:=fun st pe=>by rw [<-zM]
 generalize hW1:(w.alloc (.deferred (some []))).alloc (.loop (rec .ready none))=W1;have qm:W1.heap[w.heap.size+1]?=some (.loop (rec .ready none)):=by
  have:=World.alloc_heap_new (w.alloc (.deferred (some []))) (.loop (rec .ready none));rw [World.size_alloc,hW1]at this;exact this
 have ER:W1.heap[w.heap.size]?=some (.deferred (some [])):=by
  rw [<-hW1];exact(Below.heap_alloc _ _ _ Ze).trans (World.alloc_heap_new w _)
 have hI1:I [] W1:=by
  rw [<-hW1];exact hI.alloc _ (hI.alloc _ h0)
 have dR:Below w.heap.size w W1:=by
  rw [<-hW1];exact((Below.refl _ w).alloc (ZY _) _).alloc Ze _
 refine⟨w.heap.size+1,[{ target:=.collected w.heap.size,args:=#[] }],W1,{ target:=.fn (.func gf) lb,args:=#[.func (.yield (w.heap.size+1)) #[] #[]] },W1,gf,
  #[.func (.yield (w.heap.size+1)) #[] #[]]++lb,W1,?_,?_,fun _ _=>trivial,?_,fun _=>h1,?_⟩
 ·rw [<-hW1,<-zM];exact run_enterLoop_outer _ _ _ _ _
 ·simp only [resolve,hg];simp [go_sem]
 ·simp [invoke,go_sem,eg]
 ·have put:∀ {W:World} {o:Obj} (o':Obj),W.heap[w.heap.size+1]?=some o->(W.putObj (w.heap.size+1) o').heap[w.heap.size+1]?=some o':=fun o' h=>World.putObj_heap_same (Array.getElem?_eq_some_iff.1 h).1;have other:∀ {W:World} (o':Obj),W.heap[w.heap.size]?=some (.deferred (some []))->(W.putObj (w.heap.size+1) o').heap[w.heap.size]?=some (.deferred (some [])):=fun o' h=>(World.putObj_heap_other Z8).trans h;have cell:∀ {W:World} (k:Nat) (v:Value),w.heap.size<=k->(W.setCell ↑sb v).heap[k]?=W.heap[k]?:=fun k v hk=>Below.heap_setCell _ ↑sb v k (by simp only;omega)
  refine(hit (w.heap.size+1)
   (fun pre W=>I pre W/\W.heap[w.heap.size+1]?=some (.loop (rec .ready none))/\W.heap[w.heap.size]?=some (.deferred (some [])))
   (fun W=>X W/\W.heap[w.heap.size+1]?=some (.loop (rec .done (some .ret)))/\W.heap[w.heap.size]?=some (.deferred (some [])))
   W1 dR (fun s W h=>hIE s W h.1) (fun s W W' h hm=>⟨hIq s W W' h.1 hm,(hm.block _ (Array.getElem?_eq_some_iff.1 h.2.1).1 (fun h=>h)).trans h.2.1,(hm.block _ (Array.getElem?_eq_some_iff.1 h.2.2).1 (fun h=>h)).trans h.2.2⟩) (fun s W v h=>⟨hIs s W v h.1,(cell _ v Z8).trans h.2.1,(cell _ v (ZY _)).trans h.2.2⟩) ?_ ⟨hI1,qm,ER⟩).mono ?_
  ·rintro pre x W ⟨hi,hl,hk⟩ hGx;have hy:=run_yield (P:=P) (args:=qa x) hl (by rw [<-zM];exact hps x);rw [<-zM]at hy;refine⟨fn,_,assign,body,hy,roundIn_of_wpIn hfn (aeQ _ x W _ ⟨_,run_beginRound hl (hst _ _),?_⟩)⟩;generalize vJ:({ rec .ready none with state:=.busy }:Loop)=bz;have hbr:bz=rec .busy none:=by rw [<-vJ,<-zM]
   have hl2:=put (.loop bz) hl;have hk2:=other (.loop bz) hk;refine wpIn_mono (ai0 _ pre x _ (hI.putObj _ hi Z8 hl rfl) hGx) ?_
   have fin:∀(jump:Option Code) (W3:World),KeepsFrom w.heap.size (W.putObj (w.heap.size+1) (.loop bz)) W3 ->
     (Instr.endRound (w.heap.size+1) jump).run P W3=.ok (.bool jump.isNone) (W3.putObj (w.heap.size+1) (.loop (rec (if jump.isNone then .ready else .done) jump)))/\W3.heap[w.heap.size+1]?=some (.loop bz)/\W3.heap[w.heap.size]?=some (.deferred (some [])):=fun jump W3 hk3=>by
    have yB:=hk3.same _ _ Z8 hl2 rfl;have hr:=run_endRound (P:=P) jump yB;rw [hbr,<-zM]at hr;exact⟨by rw [<-zM];exact hr,yB,hk3.same _ _ (ZY _) hk2 rfl⟩
   rintro e a3 W3 hp;cases e with
   | normal=>
    obtain⟨hk3,hkp,hi3⟩:=hp;obtain⟨hr,yB,hd3⟩:=fin none W3 hk3;exact⟨_,_,hr,.inl ⟨rfl,⟨hI.putObj _ hi3 Z8 yB rfl,put _ yB,other _ hd3⟩,hKt (hKb _ _ _ Z8) (hKt hkp (hKb _ _ _ Z8))⟩⟩
   | ret=>
    obtain⟨hk3,hx3⟩:=hp;obtain⟨hr,yB,hd3⟩:=fin (some .ret) W3 hk3;exact⟨_,_,hr,.inr ⟨rfl,xY hX _ hx3 Z8 yB rfl,put _ yB,other _ hd3⟩⟩
   | exit id=>exact hp.elim
   | goto t=>exact hp.elim
   | panic ch=>exact hp.elim
   | outgrown=>exact hp.elim
  ·rintro e W2 ⟨⟨v,rfl⟩,h⟩;rcases h with⟨xs,hS,hi,hl,hk⟩|⟨hx,hl,hk⟩
   ·have hr:=run_endLoop (P:=P) hl (by rw [hst];simp);rw [<-zM]at hr;exact⟨none,_,hr,hdone _ xs _ (ZY _) hS (hI.putObj _ hi Z8 hl rfl) (other _ hk)⟩
   ·have hr:=run_endLoop (P:=P) hl (by rw [hst];simp);rw [<-zM]at hr;exact⟨some .ret,_,hr,aik _ _ (ZY _) (xY hX _ hx Z8 hl rfl) (other _ hk)⟩
structure Tp(w w':World):Prop where
 size:w.heap.size<=w'.heap.size
 same:∀(k:Nat) (o:Obj),w.heap[k]?=some o->o.isCells=true->w'.heap[k]?=some o
theorem Tp.refl(w:World):Tp w w:=⟨ZY _,fun _ _ h _=>h⟩
theorem Tp.trans{a b c:World}(h:Tp a b)(k:Tp b c):Tp a c:=⟨Nat.le_trans h.size k.size,fun i o ho hc=>k.same i o (h.same i o ho hc) hc⟩
theorem Tp.xS{w w':World}(h:Mod ↑ZW w w'):Tp w w':=⟨h.size,fun k _ ho _=>(h.block k (Array.getElem?_eq_some_iff.1 ho).1 (fun h=>h)).trans ho⟩
theorem Tp.xR{w w':World}{row:Option Nat}(h:w.grownBy w' row)(hr:∀r,row=some r->∃o:Obj,w.heap[r]?=some o/\o.isCells=false):Tp w w':=by
 have hm:=(Mod.refl (fun i=>row=some i) w).grown h (fun k hk=>.inl hk);refine⟨hm.size,fun k o ho hc=>(hm.block k (Array.getElem?_eq_some_iff.1 ho).1 (fun e=>?_)).trans ho⟩;obtain⟨o',ho',hc'⟩:=hr k e;rw [ho]at ho';injection ho' with ho';subst ho';rw [hc]at hc';cases hc'
theorem Tp.cell{w w':World}(h:Tp w w'){p:Addr}{v:Value}(hc:w.cell? p=some v):w'.cell? p=some v:=by
 have hb:=World.block_lt_of_cell? w p hc;have ho:w.heap[p.block]?=some w.heap[p.block]:=Array.getElem?_eq_getElem hb;cases hk:w.heap[p.block]with
 | cells cs t q=>
  rw [hk]at ho;exact(World.cell?_of_block ((h.same _ _ ho rfl).trans ho.symm)).trans hc
 | _=>(unfold World.cell? at hc;simp [ho,hk]at hc)
theorem ZI.sc{w w':World}{g:Nat}{t:TypeId}{cs:Array Value}(hb:ZI w g t cs)(h:Tp w w'):ZI w' g t cs:=h.same g _ hb rfl
theorem af5{w w':World}{B:Nat}{e:TypeId}{size n:Nat}{v:Value}{xs:List Value}(h:w.ownsRow B e size v n xs)(hs:Tp w w'):w'.ownsRow B e size v n xs:=by
 refine⟨h.1,?_⟩;rcases h.2 with hn|⟨g,cap,cur,rfl,hb,uD,rest⟩
 ·exact .inl hn
 ·exact .inr ⟨g,cap,cur,rfl,hb,ZI.sc (cs:=cur) uD hs,rest⟩
theorem WA.sc{w w':World}{F:Nat->Prop}{size n:Nat}{v:Value}{xs:List Value}(h:WA w F size v n xs)(hs:Tp w w'):WA w' F size v n xs:=by
 obtain⟨A,c,h1,h2,h3,h4,h5⟩:=h.ex;exact⟨A,c,h1,h2,h3,⟨h4.1,h4.2.1,fun ad e j u hu=>hs.cell (h4.2.2 ad e j u hu)⟩,fun ad e h0=>⟨ZB (h5 ad e h0).1 hs.size,(h5 ad e h0).2⟩⟩
section
variable {w w' : World} {F : Nat → Prop} {d : Yz}
theorem PM.sc{b:List UInt8}{c:List Value}(h:PM w F b c)(hs:Tp w w'):PM w' F b c:=by
 obtain⟨v,rfl,h⟩:=h;exact⟨v,rfl,WA.sc h hs⟩
theorem Wd.sc{f:Yy}{c:List Value}(h:Wd w F d f c)(hs:Tp w w'):Wd w' F d f c:=by
 obtain⟨v0,v1,v2,h0,h1,h2,h3⟩:=h.ex;exact⟨v0,v1,v2,h0,h1.sc hs,h2.sc hs,h3.sc hs⟩
theorem WI.sc{α:Type}{size:Nat}{R R':α->List Value->Prop}{v:Value}{l:List α}(h:WI w F size R v l)(hs:Tp w w')(hR:∀x∈l,∀c,R x c->R' x c):WI w' F size R' v l:=by
 obtain⟨xs,h1,h2⟩:=h;exact⟨xs,h1.sc hs,h2.mono hR⟩
theorem Yr.sc{α:Type}{B:Nat}{e:TypeId}{size:Nat}{R R':α->List Value->Prop}{v:Value}{l:List α}(h:Yr w B e size R v l)(hs:Tp w w')(hR:∀x∈l,∀c,R x c->R' x c):Yr w' B e size R' v l:=by
 obtain⟨xs,h1,h2⟩:=h;exact⟨xs,af5 h1 hs,h2.mono hR⟩
theorem OQ.sc{s:List (List UInt8 × Yy)}{c:List Value}(h:OQ w F d s c)(hs:Tp w w'):OQ w' F d s c:=by
 obtain⟨sv,fv,h0,h1,h2⟩:=h;exact⟨sv,fv,h0,h1.sc hs (fun _ _ _ k=>k.sc hs),h2.sc hs (fun _ _ _ k=>k.sc hs)⟩
theorem WN.sc{gy gu gv:Nat}{f:Yy}(h:WN w d gy gu gv f)(hs:Tp w w'):WN w' d gy gu gv f:=
 ⟨h.Ff.sc hs,h.bu.sc hs,h.bv.sc hs,h.ly,h.lu,h.lv,h.yu,h.yv,h.uv⟩
theorem Uu.sc{g:Nat}{G q tg nu:Nat}{Y7:Yy}(h:Uu w g d G q tg nu Y7)(hs:Tp w w'):Uu w' g d G q tg nu Y7:=by
 obtain⟨al,hb,hc⟩:=h;refine⟨al,hb.sc hs,?_⟩;rcases hc with hc|⟨ay,au,av,rfl,hf⟩
 ·exact .inl hc
 ·exact .inr ⟨ay,au,av,rfl,fun hn=>(hf hn).sc hs⟩
end
attribute [local go_sem] Oper.semAt_some
theorem EI{G n i:Nat}(hG:1<=G):i<Lu G n ↔ i*G<n:=by
 unfold Lu;rw [show i<(n+G-1)/G ↔ (i+1)*G<=n+G-1 from Nat.le_div_iff_mul_le Z8,Y5];omega
def oO(b o c G n i:Nat):Value:=.slice (some ⟨b,o+i*G*9,none⟩) (Rl G n i) (c-i*G)
def Lv(a b:Nat)(W W':World):Prop:=W'.heap[a]?=W.heap[a]?/\W'.heap[b]?=W.heap[b]?
theorem Lv.trans{a b:Nat}{A B C:World}(h:Lv a b A B)(k:Lv a b B C):Lv a b A C:=⟨k.1.trans h.1,k.2.trans h.2⟩
theorem Lv.put{a b:Nat}{W:World}{l:Nat}{o:Obj}(ha:a≠l)(hb:b≠l):Lv a b W (W.putObj l o):=⟨World.putObj_heap_other ha,World.putObj_heap_other hb⟩
def sliceLen(sb:Nat)(w:World):Nat:=match w.cell? ↑sb with
 | some (.slice _ n _)=>n
 | _=>0
def cZ(b o c G n sb gb:Nat)(J:List Nat->World->Prop)(wr:World):Prop:=
 ∃(i R C:Nat) (A:Option Addr),R=n-i*G/\i<=Lu G n/\ZI wr sb 29 #[.slice A R C]/\(0<R->A=some ⟨b,o+i*G*9,none⟩/\C=c-i*G)/\ZI wr gb 3 #[↑G]/\J (Zz i) wr
theorem tK{b o c G n sb gb i R C N:Nat}{J:List Nat->World->Prop}{wr w3:World}{A:Option Addr}(hG:1<=G)(hn:n<=c)(hR:R=n-i*G)(h0:0<R)(hC:C=c-i*G)(hN:(G<=R/\N=G)\/(R<G/\N=R))(hi:i<Lu G n)(hne:sb≠gb)(hw:ZI wr sb 29 #[.slice A R C])
  (hb:ZI w3 sb 29 #[.slice A R C])(hg:ZI w3 gb 3 #[↑G])(hJs:∀(s:List Nat) (W:World) (v:Value),J s W->J s (W.setCell ↑sb v))(hJ:J (Zz i++[i]) w3):
  cZ b o c G n sb gb J (w3.setCell ↑sb (.slice (if C=N then some ⟨b,o+i*G*9,none⟩else some ⟨b,o+i*G*9+N*9,none⟩) (R-N) (C-N))) /\
  sliceLen sb (w3.setCell ↑sb (.slice (if C=N then some ⟨b,o+i*G*9,none⟩else some ⟨b,o+i*G*9+N*9,none⟩) (R-N) (C-N)))<sliceLen sb wr:=by
 have e1:(i+1)*G=i*G+G:=by rw [Y5];omega
 have hput:ZI (w3.setCell ↑sb (.slice (if C=N then some ⟨b,o+i*G*9,none⟩else some ⟨b,o+i*G*9+N*9,none⟩) (R-N) (C-N))) sb 29 #[.slice (if C=N then some ⟨b,o+i*G*9,none⟩else some ⟨b,o+i*G*9+N*9,none⟩) (R-N) (C-N)]:=hb.put rfl;refine⟨⟨i+1,R-N,C-N,_,by rw [e1];rcases hN with⟨h1,h2⟩|⟨h1,h2⟩<;>omega,hi,hput,fun h=>?_,hg.far (p:=↑sb) (Ne.symm hne) _,by rw [List.range_succ];exact hJs _ _ _ hJ⟩,?_⟩
 ·rcases hN with⟨h1,rfl⟩|⟨h1,rfl⟩
  ·rw [Xb,e1,Y5];exact⟨by rw [<-Nat.add_assoc],Z8⟩
  ·omega
 ·unfold sliceLen;rw [hput.cell 0,hw.cell 0];show R-N<R;rcases hN with⟨h1,rfl⟩|⟨h1,rfl⟩<;>omega
theorem aec{E:World->Prop}(nf:Nat)(h1:1<=nf)(w:World)(b o n c G sb gb:Nat)(hG:1<=G/\G<=64)(hn:n<=c)(hc:c<=9223372036854775807)(hs:ZI w sb 29 #[.slice (some ⟨b,o,none⟩) n c])(hg:ZI w gb 3 #[↑G])(hne:sb≠gb):
  cu E prog nf 148 #[↑(ZC sb 0),↑(ZC gb 0)] (fun i=>#[oO b o c G n i]) sb (Lv sb gb) (fun xs=>∃i,xs=Zz (i+1)/\i<Lu G n) (fun xs=>xs=Zz (Lu G n)) w:=by
 intro l J Jx W hW _ _ hJs hY h0;obtain⟨hG1,hG2⟩:=hG;have hs1:=hs.below hW hs.lt;have hg1:=hg.below hW hg.lt;refine callsIn_of_wp func148 rfl trivial ?_ rfl;simp only [ntmps148,List.size_toArray,List.length_cons,List.length_nil,Nat.reduceAdd,Nat.reduceSub,Array.replicate_succ,Array.replicate_zero,List.push_toArray,List.append_toArray,List.nil_append,List.cons_append];have HS:=Z5 hs1 hg1;clear hs1 hg1 hs hg;gi_wp2_with fail
 gi_loopw [4] (fun _ wr=>cZ b o c G n sb gb J wr) (fun _ wr=>sliceLen sb wr)
 case atStart=>exact⟨0,n,c,_,Z8,Z8,HS.out.1,fun _=>⟨Ze,Ze⟩,HS.out.2,h0⟩
 case round=>
  clear HS;obtain⟨i,R,C,A,hR,hi,PH,hAC,hgb,hJ⟩:=hrel;have cs:=PH.cell 0;have cg:=hgb.cell 0;have HK:=Z5 hR (Z9 PH (Z9 hgb (Z9 hJ hi)));clear hR PH hgb hJ hi;by_cases h0R:0<R
  ·obtain⟨rfl,hC⟩:=hAC h0R;have d1:=Zb (0<(R:Int));have hiN:i<Lu G n:=(EI hG1).2 (by have:=HK.out.1;omega);have hRC:R<=C:=by have:=HK.out.1;omega
   have hCm:C<=9223372036854775807:=Z8;have hrg:Zz i++[i]=Zz (i+1):=List.range_succ.symm;obtain⟨fn,tmps,assign,body,hy,hRo⟩:=hY (Zz i) i wr HK.out.2.2.2.1 ⟨i,hrg,hiN⟩;unfold oO at hy;rw [<-hC]at hy;have KM:(G<=R/\Rl G n i=G)\/(R<G/\Rl G n i=R):=by unfold Rl;have:=HK.out.1;omega
   have HC:=Z5 hC (Z9 hiN hrg);clear hC hAC hiN hrg;rcases KM with⟨hle,he⟩|⟨hle,he⟩
   ·rw [he]at hy;have e1:=Zb ((G:Int)<=(R:Int));have e2:=Za ((R:Int)<(G:Int));clear he;gi_wp2_with fail
    refine hRo.mono ?_;rintro e w3 (⟨rfl,hJ3,hk3⟩|⟨rfl,agB⟩)
    ·have DI:ZI w3 sb 29 #[.slice (some ⟨b,o+i*G*9,none⟩) R C]:=hk3.1.trans HK.out.2.1;have mr:ZI w3 gb 3 #[↑G]:=hk3.2.trans HK.out.2.2.1;have s3:=DI.cell 0;have f3:=DI.frozen 0;have l3:=DI.lt;have H3:=Z5 hJ3 (Z9 DI mr);clear hJ3 DI mr hk3 hy hRo cs cg;gi_wp2_with fail
     exact tK (b:=b) (o:=o) hG1 hn HK.out.1 h0R HC.out.1 (.inl ⟨hle,rfl⟩) HC.out.2.1 hne HK.out.2.1 H3.out.2.1 H3.out.2.2 hJs H3.out.1
    ·clear hy hRo cs cg;gi_wp2_with fail
     refine bodyPost_ret (results_none rfl _ _ _) rfl ?_;exact⟨⟨_,rfl⟩,.inr agB⟩
   ·rw [he]at hy;have e1:=Za ((G:Int)<=(R:Int));have e2:=Zb ((R:Int)<(G:Int));clear he;gi_wp2_with fail
    refine hRo.mono ?_;rintro e w3 (⟨rfl,hJ3,hk3⟩|⟨rfl,agB⟩)
    ·have DI:ZI w3 sb 29 #[.slice (some ⟨b,o+i*G*9,none⟩) R C]:=hk3.1.trans HK.out.2.1;have mr:ZI w3 gb 3 #[↑G]:=hk3.2.trans HK.out.2.2.1;have s3:=DI.cell 0;have f3:=DI.frozen 0;have l3:=DI.lt;have H3:=Z5 hJ3 (Z9 DI mr);clear hJ3 DI mr hk3 hy hRo cs cg;gi_wp2_with fail
     have hst:=tK (b:=b) (o:=o) hG1 hn HK.out.1 h0R HC.out.1 (.inr ⟨hle,rfl⟩) HC.out.2.1 hne HK.out.2.1 H3.out.2.1 H3.out.2.2 hJs H3.out.1;rw [Nat.sub_self]at hst;exact hst
    ·clear hy hRo cs cg;gi_wp2_with fail
     refine bodyPost_ret (results_none rfl _ _ _) rfl ?_;exact⟨⟨_,rfl⟩,.inr agB⟩
  ·obtain rfl:R=0:=Z8;have d1:decide (0<((0:Nat):Int))=false:=ZU;have HF:Hid (Zz i=Zz (Lu G n)):=by
    show _=_;have h2:¬i<Lu G n:=fun h=>by have:=(EI (n:=n) hG1).1 h;have:=HK.out.1;omega
    rw [show i=Lu G n by have:=HK.out.2.2.2.2;omega]
   have HJ:=Z7 HK.out.2.2.2.1;clear HK;gi_wp2_with fail
   go_end0
   exact⟨⟨_,rfl⟩,.inl ⟨_,HF.out,HJ.out⟩⟩
theorem acj(w:World)(A:Option Addr)(n c:Nat)(G:Int):Calls prog 96 #[.slice A n c,↑G] w fun e w'=>e=.returned (.func (.func 148) #[] #[↑(ZC w.heap.size 0),↑(ZC (w.heap.size+1) 0)])/\w'=(w.alloc (.cells #[.slice A n c] 29)).alloc (.cells #[↑G] 3):=by
 go_enter func96,ntmps96;go_wp2_with fail;go_ret;exact⟨rfl,rfl⟩
end Go.Proofs.YthednemlahioeaaGreatDoor
