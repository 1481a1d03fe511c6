/-
  plane.Right, plane.Whole of anything.
-/
import Derived.Test.YtnnpoodcdibpiaaGreatDoorB29
import Derived.Test.YtnnpoodcdibpiaaGreatDoorB24
namespace Go.Proofs.YtnnpoodcdibpiaaGreatDoor
open Go.RowKit
set_option maxRecDepth 100000
set_option maxHeartbeats 8000000
def sidesI(W H:Int):Bool:=decide (1<=W/\W<=4096/\1<=H/\H<=4096)
def rightI(W H:Int)(n:Nat):Bool:=sidesI W H&&decide ((n:Int)=W*H)
theorem pSidesI(w:World)(W H:Int):Calls Tryz.prog 64 #[.int .i64 W,.int .i64 H] w fun e w'=>e=.returned (.bool (sidesI W H))/\w=w':=by
 unfold sidesI;by_cases h1:1<=W
 ·have d1:decide (1<=W)=true:=decide_eq_true h1;by_cases h2:W<=4096
  ·have d2:decide (W<=4096)=true:=decide_eq_true h2;by_cases h3:1<=H
   ·have d3:decide (1<=H)=true:=decide_eq_true h3;by_cases h4:H<=4096
    ·have d4:decide (H<=4096)=true:=decide_eq_true h4;rw [decide_eq_true (show 1<=W/\W<=4096/\1<=H/\H<=4096 from⟨h1,h2,h3,h4⟩)];go_enter Tryz.func64,Tryz.ntmps64;go_wp2_with fail;go_ret;exact⟨rfl,rfl⟩
    ·have d4:decide (H<=4096)=false:=decide_eq_false h4;rw [decide_eq_false (show ¬(1<=W/\W<=4096/\1<=H/\H<=4096)by omega)];go_enter Tryz.func64,Tryz.ntmps64;go_wp2_with fail;go_ret;exact⟨rfl,rfl⟩
   ·have d3:decide (1<=H)=false:=decide_eq_false h3;rw [decide_eq_false (show ¬(1<=W/\W<=4096/\1<=H/\H<=4096)by omega)];go_enter Tryz.func64,Tryz.ntmps64;go_wp2_with fail;go_ret;exact⟨rfl,rfl⟩
  ·have d2:decide (W<=4096)=false:=decide_eq_false h2;rw [decide_eq_false (show ¬(1<=W/\W<=4096/\1<=H/\H<=4096)by omega)];go_enter Tryz.func64,Tryz.ntmps64;go_wp2_with fail;go_ret;exact⟨rfl,rfl⟩
 ·have d1:decide (1<=W)=false:=decide_eq_false h1;rw [decide_eq_false (show ¬(1<=W/\W<=4096/\1<=H/\H<=4096)by omega)];go_enter Tryz.func64,Tryz.ntmps64;go_wp2_with fail;go_ret;exact⟨rfl,rfl⟩
theorem sidesI_nat{W H:Int}(h:sidesI W H=true):∃a b:Nat,W=(a:Int)/\H=(b:Int)/\sidesB a b=true:=by
 have:=of_decide_eq_true h;exact⟨W.toNat,H.toNat,by omega,by omega,decide_eq_true (by omega)⟩
theorem pRightI(w:World)(W H:Int)(A:Option Addr)(n c:Nat):Calls Tryz.prog 175 #[.agg #[.int .i64 W,.int .i64 H,.slice A n c]] w fun e w'=>e=.returned (.bool (rightI W H n))/\Mod (fun _=>False) w w':=by
 by_cases hs:sidesI W H=true
 ·obtain⟨a,b,rfl,rfl,hab⟩:=sidesI_nat hs;have ha:=area_le hab;obtain⟨m,hm⟩:∃m,m=a*b:=⟨_,rfl⟩
  rw [<-hm]at ha;have e1:wrap64 ((a:Int)*(b:Int))=(m:Int):=by
   rw [show(a:Int)*(b:Int)=(m:Int)by rw [hm];simp];exact IntWalk.wrap64_in _ ⟨by omega,by omega⟩
  have HE:=Lib.hid e1;have hS:=pSidesI (w.alloc (.cells #[.int .i64 (a:Int),.int .i64 (b:Int),.slice A n c] 108)) (a:Int) (b:Int);rw [hs]at hS;have HS:=Lib.hid hS;have hrr:rightI (a:Int) (b:Int) n=decide (n=m):=by
   unfold rightI;rw [hs,Bool.true_and,show(a:Int)*(b:Int)=(m:Int)by rw [hm];simp];exact decide_eq_decide.2 (by omega)
  rw [hrr];clear hm e1 hS hs hab hrr;by_cases hnm:n=m
  ·have d1:((n:Int) == (m:Int))=true:=by simp;omega
   rw [decide_eq_true hnm];have HN:=Lib.hid hnm;clear hnm;go_enter Tryz.func175,Tryz.ntmps175;go_wp2_with fail;refine HS.out.mono ?_;rintro e w1 ⟨rfl,rfl⟩;have e1:=HE.out;go_wp2_with fail;go_ret;exact⟨by rw [e1]at *;simp [HN.out],(Mod.refl _ _).alloc _⟩
  ·have d1:((n:Int) == (m:Int))=false:=by simp;omega
   rw [decide_eq_false hnm];go_enter Tryz.func175,Tryz.ntmps175;go_wp2_with fail;refine HS.out.mono ?_;rintro e w1 ⟨rfl,rfl⟩;have e1:=HE.out;go_wp2_with fail;go_ret;exact⟨rfl,(Mod.refl _ _).alloc _⟩
 ·have hs':sidesI W H=false:=by simpa using hs
  have hS:=pSidesI (w.alloc (.cells #[.int .i64 W,.int .i64 H,.slice A n c] 108)) W H;rw [hs']at hS;have HS:=Lib.hid hS;have hrr:rightI W H n=false:=by unfold rightI;rw [hs'];rfl
  rw [hrr];clear hS hs hs' hrr;go_enter Tryz.func175,Tryz.ntmps175;go_wp2_with fail;refine HS.out.mono ?_;rintro e w1 ⟨rfl,rfl⟩;go_wp2_with fail;go_ret;exact⟨rfl,(Mod.refl _ _).alloc _⟩
theorem pWhole_no0(w:World)(W0 H0 W1 H1 W2 H2:Int)(A0 A1 A2:Option Addr)(n0 c0 n1 c1 n2 c2:Nat)(h0r:rightI W0 H0 n0=false):Calls Tryz.prog 118 #[.agg #[.int .i64 W0,.int .i64 H0,.slice A0 n0 c0,.int .i64 W1,.int .i64 H1,.slice A1 n1 c1,.int .i64 W2,.int .i64 H2,.slice A2 n2 c2]] w fun e w'=>e=.returned (.bool false)/\Mod (fun _=>False) w w':=by
 have h0:=Lib.hid ((Sat.nil (fun _=>False) w).alloc 110 #[.int .i64 W0,.int .i64 H0,.slice A0 n0 c0,.int .i64 W1,.int .i64 H1,.slice A1 n1 c1,.int .i64 W2,.int .i64 H2,.slice A2 n2 c2] rfl);have R0:=fun w=>pRightI w W0 H0 A0 n0 c0;have HT0:=Lib.hid h0r;clear h0r;go_enter Tryz.func118,Tryz.ntmps118;go_wp2_with fail;refine(R0 _).mono ?_;rintro e w1 ⟨rfl,hm1⟩;rw [HT0.out];have hs1:=Sat.after hm1 h0.out;obtain⟨pc1,pf1⟩:=(hs1.own_ 0 rfl).both;have H1:=Lib.hid hs1;clear hm1 hs1;go_wp2_with fail;go_ret;exact⟨rfl,H1.out.mod⟩
theorem pWhole_no1(w:World)(W0 H0 W1 H1 W2 H2:Int)(A0 A1 A2:Option Addr)(n0 c0 n1 c1 n2 c2:Nat)(h0r:rightI W0 H0 n0=true)(h1r:rightI W1 H1 n1=false):Calls Tryz.prog 118 #[.agg #[.int .i64 W0,.int .i64 H0,.slice A0 n0 c0,.int .i64 W1,.int .i64 H1,.slice A1 n1 c1,.int .i64 W2,.int .i64 H2,.slice A2 n2 c2]] w fun e w'=>e=.returned (.bool false)/\Mod (fun _=>False) w w':=by
 have h0:=Lib.hid ((Sat.nil (fun _=>False) w).alloc 110 #[.int .i64 W0,.int .i64 H0,.slice A0 n0 c0,.int .i64 W1,.int .i64 H1,.slice A1 n1 c1,.int .i64 W2,.int .i64 H2,.slice A2 n2 c2] rfl);have R0:=fun w=>pRightI w W0 H0 A0 n0 c0;have R1:=fun w=>pRightI w W1 H1 A1 n1 c1;have HT0:=Lib.hid h0r;have HT1:=Lib.hid h1r;clear h0r h1r;go_enter Tryz.func118,Tryz.ntmps118;go_wp2_with fail;refine(R0 _).mono ?_;rintro e w1 ⟨rfl,hm1⟩;rw [HT0.out];have hs1:=Sat.after hm1 h0.out;obtain⟨pc1,pf1⟩:=(hs1.own_ 0 rfl).both;have H1:=Lib.hid hs1;clear hm1 hs1;go_wp2_with fail;refine(R1 _).mono ?_;rintro e w2 ⟨rfl,hm2⟩;rw [HT1.out];have hs2:=H1.out.quiet hm2;obtain⟨pc2,pf2⟩:=(hs2.own_ 0 rfl).both;have H2:=Lib.hid hs2;clear hm2 hs2 pc1 pf1 H1;go_wp2_with fail;go_ret;exact⟨rfl,H2.out.mod⟩
theorem pWhole_no2(w:World)(W0 H0 W1 H1 W2 H2:Int)(A0 A1 A2:Option Addr)(n0 c0 n1 c1 n2 c2:Nat)(h0r:rightI W0 H0 n0=true)(h1r:rightI W1 H1 n1=true)(h2r:rightI W2 H2 n2=false):Calls Tryz.prog 118 #[.agg #[.int .i64 W0,.int .i64 H0,.slice A0 n0 c0,.int .i64 W1,.int .i64 H1,.slice A1 n1 c1,.int .i64 W2,.int .i64 H2,.slice A2 n2 c2]] w fun e w'=>e=.returned (.bool false)/\Mod (fun _=>False) w w':=by
 have h0:=Lib.hid ((Sat.nil (fun _=>False) w).alloc 110 #[.int .i64 W0,.int .i64 H0,.slice A0 n0 c0,.int .i64 W1,.int .i64 H1,.slice A1 n1 c1,.int .i64 W2,.int .i64 H2,.slice A2 n2 c2] rfl);have R0:=fun w=>pRightI w W0 H0 A0 n0 c0;have R1:=fun w=>pRightI w W1 H1 A1 n1 c1;have R2:=fun w=>pRightI w W2 H2 A2 n2 c2;have HT0:=Lib.hid h0r;have HT1:=Lib.hid h1r;have HT2:=Lib.hid h2r;clear h0r h1r h2r;go_enter Tryz.func118,Tryz.ntmps118;go_wp2_with fail;refine(R0 _).mono ?_;rintro e w1 ⟨rfl,hm1⟩;rw [HT0.out];have hs1:=Sat.after hm1 h0.out;obtain⟨pc1,pf1⟩:=(hs1.own_ 0 rfl).both;have H1:=Lib.hid hs1;clear hm1 hs1;go_wp2_with fail;refine(R1 _).mono ?_;rintro e w2 ⟨rfl,hm2⟩;rw [HT1.out];have hs2:=H1.out.quiet hm2;obtain⟨pc2,pf2⟩:=(hs2.own_ 0 rfl).both;have H2:=Lib.hid hs2;clear hm2 hs2 pc1 pf1 H1;go_wp2_with fail;refine(R2 _).mono ?_;rintro e w3 ⟨rfl,hm3⟩;rw [HT2.out];have hs3:=H2.out.quiet hm3;obtain⟨pc3,pf3⟩:=(hs3.own_ 0 rfl).both;have H3:=Lib.hid hs3;clear hm3 hs3 pc2 pf2 H2;go_wp2_with fail;go_ret;exact⟨rfl,H3.out.mod⟩
def wholeI(W0 H0:Int)(n0:Nat)(W1 H1:Int)(n1:Nat)(W2 H2:Int)(n2:Nat):Bool:=decide (rightI W0 H0 n0=true/\rightI W1 H1 n1=true/\rightI W2 H2 n2=true/\W0 % 16=0/\H0 % 16=0/\W1=W0/2/\H1=H0/2/\W2=W0/2/\H2=H0/2)
theorem pWhole_all(w:World)(x0 y0 x1 y1 x2 y2:Nat)(hx0:x0<=4096)(hy0:y0<=4096)(A0 A1 A2:Option Addr)(n0 c0 n1 c1 n2 c2:Nat)(h0r:rightI (x0:Int) (y0:Int) n0=true)(h1r:rightI (x1:Int) (y1:Int) n1=true)(h2r:rightI (x2:Int) (y2:Int) n2=true):
  Calls Tryz.prog 118 #[.agg #[.int .i64 (x0:Int),.int .i64 (y0:Int),.slice A0 n0 c0,.int .i64 (x1:Int),.int .i64 (y1:Int),.slice A1 n1 c1,.int .i64 (x2:Int),.int .i64 (y2:Int),.slice A2 n2 c2]] w fun e w'=>e=.returned (.bool (decide (x0 % 16=0/\y0 % 16=0/\x1=x0/2/\y1=y0/2/\x2=x0/2/\y2=y0/2)))/\Mod (fun _=>False) w w':=by
 obtain⟨p,hp⟩:∃p,p=x0/2:=⟨_,rfl⟩
 obtain⟨q,hq⟩:∃q,q=y0/2:=⟨_,rfl⟩
 rw [<-hp,<-hq];have v1:(x0:Int)/2=(p:Int):=by omega
 have v2:(y0:Int)/2=(q:Int):=by omega
 obtain⟨B,hB⟩:∃B,B=decide (x0 % 16=0/\y0 % 16=0/\x1=p/\y1=q/\x2=p/\y2=q):=⟨_,rfl⟩
 rw [<-hB];have HB:=Lib.hid hB;have HV:=Lib.hid (And.intro v1 v2);clear hB v1 v2 hp hq;have h0:=Lib.hid ((Sat.nil (fun _=>False) w).alloc 110 #[.int .i64 (x0:Int),.int .i64 (y0:Int),.slice A0 n0 c0,.int .i64 (x1:Int),.int .i64 (y1:Int),.slice A1 n1 c1,.int .i64 (x2:Int),.int .i64 (y2:Int),.slice A2 n2 c2] rfl);have R0:=fun w=>pRightI w (x0:Int) (y0:Int) A0 n0 c0;have R1:=fun w=>pRightI w (x1:Int) (y1:Int) A1 n1 c1;have R2:=fun w=>pRightI w (x2:Int) (y2:Int) A2 n2 c2;have HT0:=Lib.hid h0r;have HT1:=Lib.hid h1r;have HT2:=Lib.hid h2r;clear h0r h1r h2r;go_enter Tryz.func118,Tryz.ntmps118;go_wp2_with fail;refine(R0 _).mono ?_;rintro e w1 ⟨rfl,hm1⟩;rw [HT0.out];have hs1:=Sat.after hm1 h0.out;obtain⟨pc1,pf1⟩:=(hs1.own_ 0 rfl).both;have H1:=Lib.hid hs1;clear hm1 hs1;go_wp2_with fail;refine(R1 _).mono ?_;rintro e w2 ⟨rfl,hm2⟩;rw [HT1.out];have hs2:=H1.out.quiet hm2;obtain⟨pc2,pf2⟩:=(hs2.own_ 0 rfl).both;have H2:=Lib.hid hs2;clear hm2 hs2 pc1 pf1 H1;go_wp2_with fail;refine(R2 _).mono ?_;rintro e w3 ⟨rfl,hm3⟩;rw [HT2.out];have hs3:=H2.out.quiet hm3;obtain⟨pc3,pf3⟩:=(hs3.own_ 0 rfl).both;have H3:=Lib.hid hs3;clear hm3 hs3 pc2 pf2 H2;obtain⟨v1,v2⟩:=HV.out;go_wp2_with fail
 all_goals
  go_ret;refine⟨congrArg (fun z=>Ending.returned (.bool z)) ?_,H3.out.mod⟩;rw [HB.out]
  first
  | exact(decide_eq_true (by omega)).symm
  | exact(decide_eq_false (by omega)).symm
  | (by_cases hz:y2=q
     ·rw [decide_eq_true (by omega),hz];simp
     ·rw [decide_eq_false (by omega)];simp;omega)
theorem pWholeI(w:World)(W0 H0 W1 H1 W2 H2:Int)(A0 A1 A2:Option Addr)(n0 c0 n1 c1 n2 c2:Nat):Calls Tryz.prog 118 #[.agg #[.int .i64 W0,.int .i64 H0,.slice A0 n0 c0,.int .i64 W1,.int .i64 H1,.slice A1 n1 c1,.int .i64 W2,.int .i64 H2,.slice A2 n2 c2]] w fun e w'=>e=.returned (.bool (wholeI W0 H0 n0 W1 H1 n1 W2 H2 n2))/\Mod (fun _=>False) w w':=by
 unfold wholeI;by_cases r0:rightI W0 H0 n0=true
 ·by_cases r1:rightI W1 H1 n1=true
  ·by_cases r2:rightI W2 H2 n2=true
   ·have hs0:=r0;have hs1:=r1;have hs2:=r2;unfold rightI at hs0 hs1 hs2;rw [Bool.and_eq_true]at hs0 hs1 hs2;obtain⟨x0,y0,rfl,rfl,hab0⟩:=sidesI_nat hs0.1;obtain⟨x1,y1,rfl,rfl,hab1⟩:=sidesI_nat hs1.1;obtain⟨x2,y2,rfl,rfl,hab2⟩:=sidesI_nat hs2.1;obtain⟨_,_,a1,_,a2,_⟩:=area_le hab0;have hE:decide (rightI (x0:Int) (y0:Int) n0=true/\rightI (x1:Int) (y1:Int) n1=true/\rightI (x2:Int) (y2:Int) n2=true/\(x0:Int) % 16=0/\(y0:Int) % 16=0/\(x1:Int)=(x0:Int)/2/\(y1:Int)=(y0:Int)/2/\(x2:Int)=(x0:Int)/2/\(y2:Int)=(y0:Int)/2)=decide (x0 % 16=0/\y0 % 16=0/\x1=x0/2/\y1=y0/2/\x2=x0/2/\y2=y0/2):=by
     apply decide_eq_decide.2;constructor
     ·rintro⟨_,_,_,h1,h2,h3,h4,h5,h6⟩;omega
     ·rintro⟨h1,h2,h3,h4,h5,h6⟩;exact⟨r0,r1,r2,by omega,by omega,by omega,by omega,by omega,by omega⟩
    rw [hE];exact pWhole_all w x0 y0 x1 y1 x2 y2 a1 a2 A0 A1 A2 n0 c0 n1 c1 n2 c2 r0 r1 r2
   ·rw [decide_eq_false (fun h=>r2 h.2.2.1)];exact pWhole_no2 w W0 H0 W1 H1 W2 H2 A0 A1 A2 n0 c0 n1 c1 n2 c2 r0 r1 (by simpa using r2)
  ·rw [decide_eq_false (fun h=>r1 h.2.1)];exact pWhole_no1 w W0 H0 W1 H1 W2 H2 A0 A1 A2 n0 c0 n1 c1 n2 c2 r0 (by simpa using r1)
 ·rw [decide_eq_false (fun h=>r0 h.1)];exact pWhole_no0 w W0 H0 W1 H1 W2 H2 A0 A1 A2 n0 c0 n1 c1 n2 c2 (by simpa using r0)
def NoFr(er:Int):Ending:=.returned (.tuple #[.slice none 0 0,.agg noFrame.toArray,.int .i64 er])
theorem encFrame_bad(w:World)(g:Nat)(W H G q tg nu:Int)(al:List Value)(hx:Blk w g 283 (encV W H G q tg nu al))(X0 Y0 X1 Y1 X2 Y2:Int)(A0 A1 A2:Option Addr)(n0 c0 n1 c1 n2 c2:Nat)
  (hbad:(wholeI X0 Y0 n0 X1 Y1 n1 X2 Y2 n2&&(decide (X0=W)&&decide (Y0=H)))=false):
  Calls Tryz.prog 124 #[.pointer (some ⟨g,0,none⟩),.agg #[.int .i64 X0,.int .i64 Y0,.slice A0 n0 c0,.int .i64 X1,.int .i64 Y1,.slice A1 n1 c1,.int .i64 X2,.int .i64 Y2,.slice A2 n2 c2]] w fun e w'=>e=NoFr 61/\Mod (fun _=>False) w w':=by
 have hcase:wholeI X0 Y0 n0 X1 Y1 n1 X2 Y2 n2=false\/(wholeI X0 Y0 n0 X1 Y1 n1 X2 Y2 n2=true/\X0≠W)\/(wholeI X0 Y0 n0 X1 Y1 n1 X2 Y2 n2=true/\X0=W/\Y0≠H):=by
  cases hw:wholeI X0 Y0 n0 X1 Y1 n1 X2 Y2 n2 with
  | false=>exact .inl rfl
  | true=>
   rw [hw]at hbad;simp only [Bool.true_and,Bool.and_eq_false_iff,decide_eq_false_iff_not]at hbad;by_cases e:X0=W
   ·rcases hbad with h|h
    ·exact absurd e h
    ·exact .inr (.inr ⟨rfl,e,h⟩)
   ·exact .inr (.inl ⟨rfl,e⟩)
 clear hbad;obtain⟨b,hb⟩:∃b,b=wholeI X0 Y0 n0 X1 Y1 n1 X2 Y2 n2:=⟨_,rfl⟩
 rw [<-hb]at hcase;have h0:=(((Sat.nil (fun _=>False) w).alloc 110 #[.int .i64 X0,.int .i64 Y0,.slice A0 n0 c0,.int .i64 X1,.int .i64 Y1,.slice A1 n1 c1,.int .i64 X2,.int .i64 Y2,.slice A2 n2 c2] rfl).alloc (g:=w.heap.size+1) 110 #[.int .i64 0,.int .i64 0,.slice none 0 0,.int .i64 0,.int .i64 0,.slice none 0 0,.int .i64 0,.int .i64 0,.slice none 0 0] (by simp)).alloc (g:=w.heap.size+2) 70 #[.int .i64 W,.int .i64 H,.int .i64 G] (by simp);obtain⟨bc,bf⟩:=hx.both;have hxl:=hx.lt;have x0:w.cell? ⟨g,0,none⟩=some (.int .i64 W):=bc 0;have x1:w.cell? ⟨g,1,none⟩=some (.int .i64 H):=bc 1;have x2:w.cell? ⟨g,2,none⟩=some (.int .i64 G):=bc 2;have HB:=Lib.hid hb;have HS0:=Lib.hid h0;clear hb h0 hx bc bf;go_enter Tryz.func124,Tryz.ntmps124;go_upto_region 4 with(fail)
 have hS1:=HS0.out;generalize (((w.alloc (.cells #[.int .i64 X0,.int .i64 Y0,.slice A0 n0 c0,.int .i64 X1,.int .i64 Y1,.slice A1 n1 c1,.int .i64 X2,.int .i64 Y2,.slice A2 n2 c2] 110)).alloc (.cells #[.int .i64 0,.int .i64 0,.slice none 0 0,.int .i64 0,.int .i64 0,.slice none 0 0,.int .i64 0,.int .i64 0,.slice none 0 0] 110)).alloc (.cells #[.int .i64 W,.int .i64 H,.int .i64 G] 70))=w1 at hS1 ⊢;have hq:=hS1.own_ 2 rfl;dsimp only at hq;obtain⟨f0,ff⟩:=hq.both;have fl:=hq.lt;clear x0 x1 x2 hq;have HS1:=Lib.hid hS1;clear hS1 HS0;go_wp2_with fail;refine(pWholeI _ X0 Y0 X1 Y1 X2 Y2 A0 A1 A2 n0 c0 n1 c1 n2 c2).mono ?_;rintro e w2 ⟨rfl,hm2⟩;rw [<-HB.out];have hS2:=Sat.after hm2 HS1.out;clear f0 ff fl hm2 HS1;have hq:=hS2.own_ 2 rfl;dsimp only at hq;obtain⟨f0,ff⟩:=hq.both;have fl:=hq.lt;have hq0:=hS2.own_ 0 rfl;dsimp only at hq0;obtain⟨s0,sf⟩:=hq0.both;have sl:=hq0.lt;have hq1:=hS2.own_ 1 rfl;dsimp only at hq1;obtain⟨z0,zf⟩:=hq1.both;have zl:=hq1.lt;have fw:w2.cell? ⟨w.heap.size,0,none⟩=some (.int .i64 X0):=f0 0;have fh:w2.cell? ⟨w.heap.size,1,none⟩=some (.int .i64 Y0):=f0 1;have sw:w2.cell? ⟨w.heap.size+1+1,0,none⟩=some (.int .i64 W):=s0 0;have sh:w2.cell? ⟨w.heap.size+1+1,1,none⟩=some (.int .i64 H):=s0 1;have sl':w.heap.size+1+1<w2.heap.size:=sl;have sf':∀i,w2.frozen? ⟨w.heap.size+1+1,i,none⟩=false:=sf;have zl':w.heap.size+1<w2.heap.size:=zl;have HS2:=Lib.hid (And.intro hS2 hq1);clear hS2 f0 s0 sl sf zl hq hq0 hq1;rcases hcase with rfl|⟨rfl,h1⟩|⟨rfl,h1,h2⟩
 ·go_wp2_with fail;have h9:=fr_lay9 HS2.out.2 (.int .i64 0) (.int .i64 0) (.slice none 0 0) (.int .i64 0) (.int .i64 0) (.slice none 0 0) (.int .i64 0) (.int .i64 0) (.slice none 0 0);refine bodyPost_ret (v:=.tuple #[.slice none 0 0,.agg noFrame.toArray,.int .i64 61]) (by simp [results,Tryz.results124,go_sem,z0,noFrame]) rfl ⟨rfl,HS2.out.1.mod.into h9.2 (fun i e=>.inr (by omega))⟩
 ·have t1:(X0 != W)=true:=by simpa using h1
  have HH:=Lib.hid h1;clear h1;go_wp2_with fail;have h9:=fr_lay9 HS2.out.2 (.int .i64 0) (.int .i64 0) (.slice none 0 0) (.int .i64 0) (.int .i64 0) (.slice none 0 0) (.int .i64 0) (.int .i64 0) (.slice none 0 0);refine bodyPost_ret (v:=.tuple #[.slice none 0 0,.agg noFrame.toArray,.int .i64 61]) (by simp [results,Tryz.results124,go_sem,z0,noFrame]) rfl ⟨rfl,HS2.out.1.mod.into h9.2 (fun i e=>.inr (by omega))⟩
 ·have t1:(X0 != W)=false:=by simpa using h1
  have t2:(Y0 != H)=true:=by simpa using h2
  have HH:=Lib.hid (And.intro h1 h2);clear h1 h2;go_wp2_with fail;have h9:=fr_lay9 HS2.out.2 (.int .i64 0) (.int .i64 0) (.slice none 0 0) (.int .i64 0) (.int .i64 0) (.slice none 0 0) (.int .i64 0) (.int .i64 0) (.slice none 0 0);refine bodyPost_ret (v:=.tuple #[.slice none 0 0,.agg noFrame.toArray,.int .i64 61]) (by simp [results,Tryz.results124,go_sem,z0,noFrame]) rfl ⟨rfl,HS2.out.1.mod.into h9.2 (fun i e=>.inr (by omega))⟩
structure FrX where
 W0:Int
 H0:Int
 A0:Option Addr
 n0:Nat
 c0:Nat
 W1:Int
 H1:Int
 A1:Option Addr
 n1:Nat
 c1:Nat
 W2:Int
 H2:Int
 A2:Option Addr
 n2:Nat
 c2:Nat
 p0:List UInt8
 p1:List UInt8
 p2:List UInt8
def FrX.cells(f:FrX):List Value:=[.int .i64 f.W0,.int .i64 f.H0,.slice f.A0 f.n0 f.c0,.int .i64 f.W1,.int .i64 f.H1,.slice f.A1 f.n1 f.c1,.int .i64 f.W2,.int .i64 f.H2,.slice f.A2 f.n2 f.c2]
def FrX.zero:FrX:=⟨0,0,none,0,0,0,0,none,0,0,0,0,none,0,0,[],[],[]⟩
structure FrX.In(f:FrX)(w:World):Prop where
 b0:BytesIn w f.A0 f.n0 f.c0 f.p0
 b1:BytesIn w f.A1 f.n1 f.c1 f.p1
 b2:BytesIn w f.A2 f.n2 f.c2 f.p2
 k0:f.n0<=f.c0
 k1:f.n1<=f.c1
 k2:f.n2<=f.c2
 m0:f.n0<=9223372036854775807
 m1:f.n1<=9223372036854775807
 m2:f.n2<=9223372036854775807
theorem FrX.In.quiet{f:FrX}{w w':World}(h:f.In w)(hm:Mod (fun _=>False) w w'):f.In w':=⟨h.b0.quiet hm,h.b1.quiet hm,h.b2.quiet hm,h.k0,h.k1,h.k2,h.m0,h.m1,h.m2⟩
structure FrsIn(w:World)(A:Option Addr)(n:Nat)(fs:List FrX):Prop where
 len:fs.length=n
 at_:∀i,i<n->∃b o,A=some ⟨b,o,none⟩/\b<w.heap.size/\(∀(j:Nat) (v:Value),(fs.getD i FrX.zero).cells[j]?=some v->w.cell? ⟨b,o+i*9+j,none⟩=some v)/\(fs.getD i FrX.zero).In w
theorem FrsIn.quiet{w w':World}{A:Option Addr}{n:Nat}{fs:List FrX}(h:FrsIn w A n fs)(hm:Mod (fun _=>False) w w'):FrsIn w' A n fs:=
 ⟨h.len,fun i hi=>by
  obtain⟨b,o,h1,h2,h3,h4⟩:=h.at_ i hi;exact⟨b,o,h1,Nat.lt_of_lt_of_le h2 hm.size,fun j v hv=>(World.cell?_of_block (hm.block b h2 (fun h=>h))).trans (h3 j v hv),h4.quiet hm⟩⟩
def FrX.fitsB(f:FrX):Bool:=decide (f.n0<=10000/\f.n1<=10000/\f.n2<=10000)
def FrX.goodB(f:FrX)(d:Dim):Bool:=wholeI f.W0 f.H0 f.n0 f.W1 f.H1 f.n1 f.W2 f.H2 f.n2&&(decide (f.W0=(d.W:Int))&&decide (f.H0=(d.H:Int)))
def FrX.pix(f:FrX):Pix:=⟨f.p0,f.p1,f.p2⟩
theorem FrX.good{f:FrX}{d:Dim}(hd:d.Ok)(h:f.goodB d=true):f.cells=flV d f.A0 f.A1 f.A2 f.c0 f.c1 f.c2/\f.n0=d.nY/\f.n1=d.nC/\f.n2=d.nC:=by
 obtain⟨X0,Y0,A0,n0,c0,X1,Y1,A1,n1,c1,X2,Y2,A2,n2,c2,p0,p1,p2⟩:=f;unfold FrX.goodB at h;dsimp only at h;simp only [Bool.and_eq_true,decide_eq_true_eq]at h;obtain⟨hw,rfl,rfl⟩:=h;unfold wholeI at hw;rw [decide_eq_true_eq]at hw;obtain⟨r0,r1,r2,_,_,e1,e2,e3,e4⟩:=hw;unfold rightI at r0 r1 r2;simp only [Bool.and_eq_true,decide_eq_true_eq]at r0 r1 r2;have a1:=hd.w2;have a2:=hd.h2;have f1:X1=(d.W2:Int):=by omega
 have f2:Y1=(d.H2:Int):=by omega
 have f3:X2=(d.W2:Int):=by omega
 have f4:Y2=(d.H2:Int):=by omega
 subst f1 f2 f3 f4;have g0:n0=d.nY:=by have:=r0.2;rw [hd.ny];have z:((d.W*d.H:Nat):Int)=(d.W:Int)*(d.H:Int):=Int.natCast_mul _ _;omega
 have g1:n1=d.nC:=by have:=r1.2;rw [hd.nc];have z:((d.W2*d.H2:Nat):Int)=(d.W2:Int)*(d.H2:Int):=Int.natCast_mul _ _;omega
 have g2:n2=d.nC:=by have:=r2.2;rw [hd.nc];have z:((d.W2*d.H2:Nat):Int)=(d.W2:Int)*(d.H2:Int):=Int.natCast_mul _ _;omega
 subst g0 g1;refine⟨?_,rfl,rfl,g2⟩;unfold FrX.cells flV;dsimp only;rw [g2]
theorem FrX.frIn{f:FrX}{d:Dim}{w:World}(hd:d.Ok)(h:f.goodB d=true)(hin:f.In w):FrIn w d (flV d f.A0 f.A1 f.A2 f.c0 f.c1 f.c2) f.pix:=by
 obtain⟨_,h0,h1,h2⟩:=FrX.good hd h;refine⟨rfl,fun p hp=>?_⟩;have h3:p=0\/p=1\/p=2:=by omega
 have b0:=hin.b0;have b1:=hin.b1;have b2:=hin.b2;have k0:=hin.k0;have k1:=hin.k1;have k2:=hin.k2;rw [h0]at b0 k0;rw [h1]at b1 k1;rw [h2]at b2 k2;rcases h3 with rfl|rfl|rfl
 ·exact⟨_,_,rfl,rfl,rfl,b0,k0⟩
 ·exact⟨_,_,rfl,rfl,rfl,b1,k1⟩
 ·exact⟨_,_,rfl,rfl,rfl,b2,k2⟩
def EncAt(w:World)(g:Nat)(d:Dim)(G q tg nu:Nat)(ahd:Pix):Prop:=
 ∃al,Blk w g 283 (encV (d.W:Int) (d.H:Int) (G:Int) (q:Int) (tg:Int) (nu:Int) al)/\((al=zeroFr/\nu=0)\/∃ay au av,al=frameV d ay au av/\(nu≠0->FrameAt w d ay au av ahd))
theorem EncAt.mod{w w':World}{S:Nat->Prop}{g:Nat}{d:Dim}{G q tg nu:Nat}{ahd:Pix}(h:EncAt w g d G q tg nu ahd)(hm:Mod S w w')(hg:¬S g)(hS:∀j,S j->∃t cs,Blk w j t cs/\t≠5):EncAt w' g d G q tg nu ahd:=by
 obtain⟨al,hb,hc⟩:=h;refine⟨al,hb.keep hm hg,?_⟩;rcases hc with hc|⟨ay,au,av,rfl,hf⟩
 ·exact .inl hc
 ·have ne:∀ {j cs},Blk w j 5 cs->¬S j:=fun hb hj=>by
   obtain⟨t,cs,hb2,ht⟩:=hS _ hj;exact hb2.ne_ hb ht rfl
  exact .inr ⟨ay,au,av,rfl,fun hn=>(hf hn).mod hm (ne (hf hn).by_) (ne (hf hn).bu) (ne (hf hn).bv)⟩
theorem EncAt.quiet{w w':World}{g:Nat}{d:Dim}{G q tg nu:Nat}{ahd:Pix}(h:EncAt w g d G q tg nu ahd)(hm:Mod (fun _=>False) w w'):EncAt w' g d G q tg nu ahd:=h.mod hm (fun h=>h) (fun _ h=>h.elim)
theorem EncAt.lt{w:World}{g:Nat}{d:Dim}{G q tg nu:Nat}{ahd:Pix}(h:EncAt w g d G q tg nu ahd):g<w.heap.size:=by
 obtain⟨al,hb,_⟩:=h;exact hb.lt
theorem EncAt.any{w:World}{g:Nat}{d:Dim}{G q tg:Nat}{ahd:Pix}(h:EncAt w g d G q tg 0 ahd)(a:Pix):EncAt w g d G q tg 0 a:=by
 obtain⟨al,hb,hc⟩:=h;refine⟨al,hb,?_⟩;rcases hc with hc|⟨ay,au,av,rfl,_⟩
 ·exact .inl hc
 ·exact .inr ⟨ay,au,av,rfl,fun h=>absurd rfl h⟩
theorem EncAt.end_{w:World}{g:Nat}{d:Dim}{G q tg nu:Nat}{ahd:Pix}(h:EncAt w g d G q tg nu ahd):Calls Tryz.prog 125 #[.pointer (some ⟨g,0,none⟩)] w fun e w'=>e=.returned (.tuple #[])/\EncAt w' g d G q tg 0 ahd/\Mod (·=g) w w':=by
 obtain⟨al,hb,hc⟩:=h;refine(encEnd w g _ _ _ _ _ _ _ hb).mono ?_;rintro e w' ⟨rfl,hb',hm⟩;refine⟨rfl,⟨al,hb',?_⟩,hm⟩;rcases hc with⟨h1,_⟩|⟨ay,au,av,rfl,_⟩
 ·exact .inl ⟨h1,rfl⟩
 ·exact .inr ⟨ay,au,av,rfl,fun h=>absurd rfl h⟩
def EncPost(w:World)(g:Nat)(d:Dim)(G q tg nu:Nat)(ahd:Pix)(f:FrX)(e:Ending)(w':World):Prop:=
 (f.goodB d=false/\e=NoFr 61/\Mod (fun _=>False) w w') \/
 (f.goodB d=true/\∃v p,e=.returned (.tuple #[v,p,.int .i64 0])/\Bytes w' w.heap.size v (eframe d f.pix ahd nu q).1/\FrameMade w d (eframe d f.pix ahd nu q).2 p w' /\
  EncAt w' g d G (newQ q tg G (eframe d f.pix ahd nu q).1.length) tg (newN nu G) (eframe d f.pix ahd nu q).2/\Mod (·=g) w w')
theorem encFrameAt{w:World}{g:Nat}{d:Dim}{G q tg nu:Nat}{ahd:Pix}(h:EncAt w g d G q tg nu ahd)(he:EnvP w)(hd:d.Ok)(hW:d.W<=64)(hH:d.H<=64)(hG:1<=G/\G<=64)(hq:q<=31)(ht:tg<=1048576)(hnu:nu<G)(f:FrX)(hf:f.In w):
  Calls Tryz.prog 124 #[.pointer (some ⟨g,0,none⟩),.agg f.cells.toArray] w (EncPost w g d G q tg nu ahd f):=by
 obtain⟨al,hb,hc⟩:=h;cases hgd:f.goodB d with
 | false=>exact(encFrame_bad w g _ _ _ _ _ _ al hb f.W0 f.H0 f.W1 f.H1 f.W2 f.H2 f.A0 f.A1 f.A2 f.n0 f.c0 f.n1 f.c1 f.n2 f.c2 hgd).mono (fun e w' k=>.inl ⟨hgd,k⟩)
 | true=>
  obtain⟨hcl,_,_,_⟩:=FrX.good hd hgd;have hfi:=FrX.frIn hd hgd hf;have hwh:∀w',Mod (fun _=>False) w w'->Calls Tryz.prog 118 #[.agg (flV d f.A0 f.A1 f.A2 f.c0 f.c1 f.c2).toArray] w' fun e w''=>e=.returned (.bool true)/\Mod (fun _=>False) w' w'':=by
   intro w' _;rw [<-hcl];refine(pWholeI w' f.W0 f.H0 f.W1 f.H1 f.W2 f.H2 f.A0 f.A1 f.A2 f.n0 f.c0 f.n1 f.c1 f.n2 f.c2).mono ?_;rintro e w'' ⟨rfl,hm⟩;unfold FrX.goodB at hgd;rw [Bool.and_eq_true]at hgd;rw [hgd.1];exact⟨rfl,hm⟩
  rw [hcl];have hpost:∀e w',EFrPost w g G q tg nu d (eframe d f.pix ahd nu q) e w'->EncPost w g d G q tg nu ahd f e w':=by
   rintro e w' ⟨v,p,ay,au,av,he,h1,h2,h3,h4,_,_,h5⟩;exact .inr ⟨hgd,v,p,he,h1,h2,⟨_,h3,.inr ⟨ay,au,av,rfl,fun _=>h4⟩⟩,h5⟩
  rcases hc with⟨hal,h0⟩|⟨ay,au,av,hal,hfa⟩
  ·exact(encFrame w g G q tg nu d hd hW hH 0 0 0 0 0 0 none none none 0 0 0 0 0 0 al hal hG hq ht hnu hb he ahd (fun h=>absurd h0 h) f.A0 f.A1 f.A2 f.c0 f.c1 f.c2 f.pix hfi hwh).mono hpost
  ·refine(encFrame w g G q tg nu d hd hW hH (d.W:Int) (d.H:Int) (d.W2:Int) (d.H2:Int) (d.W2:Int) (d.H2:Int) (some ⟨ay,0,none⟩) (some ⟨au,0,none⟩) (some ⟨av,0,none⟩) d.nY d.nY d.nC d.nC d.nC d.nC al hal hG hq ht hnu hb he ahd (fun h=>?_) f.A0 f.A1 f.A2 f.c0 f.c1 f.c2 f.pix hfi hwh).mono hpost;rw [hal];exact FrameAt.frIn hd (hfa h)
structure RgsIn(w:World)(A:Option Addr)(n c:Nat)(rs:List Rg):Prop where
 len:rs.length=n
 cap:n<=c
 nm:∀i,(rs.getD i Rg.zero).name.length<=9223372036854775807
 at_:∀i,i<n->∃b o,A=some ⟨b,o,none⟩/\b<w.heap.size/\∀(j:Nat) (v:Value),(rs.getD i Rg.zero).cells[j]?=some v->w.cell? ⟨b,o+i*4+j,none⟩=some v
theorem RgsIn.quiet{w w':World}{A:Option Addr}{n c:Nat}{rs:List Rg}(h:RgsIn w A n c rs)(hm:Mod (fun _=>False) w w'):RgsIn w' A n c rs:=
 ⟨h.len,h.cap,h.nm,fun i hi=>by
  obtain⟨b,o,h1,h2,h3⟩:=h.at_ i hi;exact⟨b,o,h1,Nat.lt_of_lt_of_le h2 hm.size,fun j v hv=>(World.cell?_of_block (hm.block b h2 (fun h=>h))).trans (h3 j v hv)⟩⟩
theorem strOf_beq(a b:List UInt8):((strOf a).toList == (strOf b).toList)=decide (a=b):=by
 rw [strOf_toList,strOf_toList,Bool.eq_iff_iff,beq_iff_eq,decide_eq_true_eq]
def LckRel(w:World)(W H G:Int)(rs:List Rg)(n:Nat)(v:Value)(wr:World):Prop:=∃i:Nat,i<=n/\v=.int .i64 (i:Int)/\rungsB W H G rs i=true/\Mod (fun _=>False) w wr
def LckRel2(w:World)(rb:Nat)(rs:List Rg)(i:Nat)(v:Value)(wr:World):Prop:=∃k:Nat,k<=i/\v=.int .i64 (k:Int)/\((List.range k).all fun k=>decide ((rs.getD k Rg.zero).name≠(rs.getD i Rg.zero).name))=true/\Blk wr rb 68 (rs.getD i Rg.zero).cells.toArray/\Mod (fun _=>False) w wr
def ladderE(W H G:Int)(rs:List Rg):Int:=if ladderB W H G rs then 0 else 151
theorem ladderE_no{W H G:Int}{rs:List Rg}{i:Nat}(hi:i<=rs.length)(h:rungsB W H G rs i=false):ladderE W H G rs=151:=by
 have h2:ladderB W H G rs=false:=by unfold ladderB;rw [rungsB_no hi h,Bool.and_false]
 unfold ladderE;rw [h2];rfl
theorem ladderE_len{W H G:Int}{rs:List Rg}(h:¬(1<=rs.length/\rs.length<=8)):ladderE W H G rs=151:=by
 have h2:ladderB W H G rs=false:=by unfold ladderB;rw [decide_eq_false h,Bool.false_and]
 unfold ladderE;rw [h2];rfl
theorem ladderE_yes{W H G:Int}{rs:List Rg}(h:ladderB W H G rs=true):ladderE W H G rs=0:=by
 unfold ladderE;rw [h];rfl
theorem lCheck(w:World)(W H G:Int)(A:Option Addr)(n c:Nat)(rs:List Rg)(h:RgsIn w A n c rs)(hn:n<=9223372036854775807)(hW:-1099511627776<=W/\W<=1099511627776)(hH:-1099511627776<=H/\H<=1099511627776):
  Calls Tryz.prog 71 #[.int .i64 W,.int .i64 H,.int .i64 G,.slice A n c] w fun e w'=>e=.returned (.int .i64 (ladderE W H G rs))/\Mod (fun _=>False) w w':=by
 have hlen:=h.len;have hcap:=h.cap;have HH:=Lib.hid h;clear h;by_cases h1:n<1
 ·have d1:decide ((n:Int)<1)=true:=decide_eq_true (by omega);have HN:=Lib.hid (ladderE_len (W:=W) (H:=H) (G:=G) (rs:=rs) (by omega));go_enter Tryz.func71,Tryz.ntmps71;go_wp2_with fail;go_ret;exact⟨by rw [HN.out];rfl,Mod.refl _ _⟩
 have d1:decide ((n:Int)<1)=false:=decide_eq_false (by omega);by_cases h2:8<n
 ·have d2:decide (8<(n:Int))=true:=decide_eq_true (by omega);have HN:=Lib.hid (ladderE_len (W:=W) (H:=H) (G:=G) (rs:=rs) (by omega));go_enter Tryz.func71,Tryz.ntmps71;go_wp2_with fail;go_ret;exact⟨by rw [HN.out];rfl,Mod.refl _ _⟩
 have d2:decide (8<(n:Int))=false:=decide_eq_false (by omega);have HLE:=Lib.hid hlen;clear hlen;go_enter Tryz.func71,Tryz.ntmps71;go_wp2_with fail;go_loopw [23] (LckRel w W H G rs n) (fun i _=>n-(intOf i).toNat)
 case atStart=>exact⟨0,by omega,rfl,rfl,Mod.refl _ _⟩
 case round=>
  obtain⟨i,hi,rfl,hok,hM⟩:=hrel;rename World=>wr
  by_cases hlt:i<n
  ·have d3:decide ((i:Int)<(n:Int))=true:=decide_eq_true (by omega);obtain⟨b,o,rfl,hb,hcells⟩:=(HH.out.quiet hM).at_ i hlt;obtain⟨r,hr⟩:∃r,r=rs.getD i Rg.zero:=⟨_,rfl⟩
   rw [<-hr]at hcells;have k0:wr.cell? ⟨b,o+i*4,none⟩=some (.string (strOf r.name)):=hcells 0 _ rfl;have k1:=hcells 1 _ rfl;have k2:=hcells 2 _ rfl;have k3:=hcells 3 _ rfl;have RC:=lRightRung (wr.alloc (.cells r.cells.toArray 68)) W H G r (by rw [hr];exact HH.out.nm i) hW hH;unfold Rg.cells at RC;have hb0:=Blk.new wr 68 r.cells.toArray;have HK:=Lib.hid (And.intro hok (And.intro hM (And.intro hr (And.intro RC hb0))));clear hok hM hr RC hb0 hcells hb;go_wp2_with fail;refine HK.out.2.2.2.1.mono ?_;rintro e w1 ⟨rfl,hm1⟩;cases hrg:rungB W H G r with
   | false=>
    have H1:=Lib.hid (And.intro ((HK.out.2.1.alloc (.cells r.cells.toArray 68)).trans hm1) (ladderE_no (W:=W) (H:=H) (G:=G) (rs:=rs) (i:=i+1) (by rw [HLE.out];omega) (by rw [rungsB_succ,<-HK.out.2.2.1,hrg,Bool.false_and,Bool.and_false])));clear hrg hm1 k0 k1 k2 k3;go_wp2_with fail;go_ret;exact⟨by rw [H1.out.2];rfl,H1.out.1⟩
   | true=>
    obtain⟨rb,hrb⟩:∃b,b=wr.heap.size:=⟨_,rfl⟩
    have hb1:=HK.out.2.2.2.2.keep hm1 (fun h=>h);rw [<-hrb]at hb1 ⊢;have hM1:=(HK.out.2.1.alloc (.cells r.cells.toArray 68)).trans hm1;have HR:=Lib.hid (And.intro hrg (And.intro hb1 hM1));clear hrg hm1 k0 k1 k2 k3 hb1 hM1 hrb;go_wp2_with fail;go_loopw [38] (LckRel2 w rb rs i) (fun k _=>i-(intOf k).toNat)
    case atStart=>exact⟨0,by omega,rfl,rfl,by rw [<-HK.out.2.2.1];exact HR.out.2.1,HR.out.2.2⟩
    case round=>
     obtain⟨k,hk,rfl,hno,hbk,hM2⟩:=hrel;rename World=>wq
     by_cases hlk:k<i
     ·have d4:decide ((k:Int)<(i:Int))=true:=decide_eq_true (by omega);obtain⟨b',o',hA',hb',hcells⟩:=(HH.out.quiet hM2).at_ k (by omega);injection hA' with hA';injection hA' with e1' e2';subst e1' e2';obtain⟨r2,hr2⟩:∃r,r=rs.getD k Rg.zero:=⟨_,rfl⟩
      rw [<-hr2]at hcells;have k0:wq.cell? ⟨b,o+k*4,none⟩=some (.string (strOf r2.name)):=hcells 0 _ rfl;have k1:=hcells 1 _ rfl;have k2:=hcells 2 _ rfl;have k3:=hcells 3 _ rfl;rw [<-HK.out.2.2.1]at hbk;have hbk2:=hbk.alloc (.cells r2.cells.toArray 68);obtain⟨rc,rf⟩:=hbk2.both;unfold Rg.cells at rc;have q0:(wq.alloc (.cells r2.cells.toArray 68)).cell? ⟨rb,0,none⟩=some (.string (strOf r.name)):=rc 0;unfold Rg.cells at q0;have HQ:=Lib.hid (And.intro hno (And.intro hbk (And.intro hM2 hr2)));clear hno hbk hM2 hr2 hcells hb' rc hbk2;by_cases hs:r2.name=r.name
      ·have y1:((strOf r2.name).toList == (strOf r.name).toList)=true:=by rw [strOf_beq];exact decide_eq_true hs
       have H2:=Lib.hid (And.intro (HQ.out.2.2.1.alloc (.cells r2.cells.toArray 68)) (ladderE_no (W:=W) (H:=H) (G:=G) (rs:=rs) (i:=i+1) (by rw [HLE.out];omega) (by rw [rungsB_succ,rg_same_no hlk (by rw [<-HQ.out.2.2.2,<-HK.out.2.2.1];exact hs),Bool.and_false,Bool.and_false])));clear hs;go_wp2_with fail;go_ret;exact⟨by rw [H2.out.2];rfl,H2.out.1⟩
      ·have y1:((strOf r2.name).toList == (strOf r.name).toList)=false:=by rw [strOf_beq];exact decide_eq_false hs
       have H2:=Lib.hid (And.intro (HQ.out.2.2.1.alloc (.cells r2.cells.toArray 68)) (And.intro (HQ.out.2.1.alloc (.cells r2.cells.toArray 68)) hs));clear hs;go_wp2_with fail;go_roundw
       case rel=>
        refine⟨k+1,by omega,by go_num,?_,by rw [<-HK.out.2.2.1];exact H2.out.2.1,H2.out.1⟩;rw [List.range_succ,List.all_append,HQ.out.1,List.all_cons,List.all_nil,Bool.and_true,Bool.true_and];exact decide_eq_true (by rw [<-HQ.out.2.2.2,<-HK.out.2.2.1];exact H2.out.2.2)
       case measure=>simp [intOf];omega
     ·obtain rfl:k=i:=by omega
      have d4:decide ((k:Int)<(k:Int))=false:=decide_eq_false (by omega);have H2:=Lib.hid (And.intro hno hM2);clear hno hbk hM2;go_wp2_with fail;go_roundw
      case rel=>
       refine⟨k+1,by omega,by go_num,?_,H2.out.2⟩;rw [rungsB_succ,HK.out.1,<-HK.out.2.2.1,HR.out.1,Bool.true_and,Bool.true_and,HK.out.2.2.1];exact H2.out.1
      case measure=>simp [intOf];omega
  ·obtain rfl:i=n:=by omega
   have d3:decide ((i:Int)<(i:Int))=false:=decide_eq_false (by omega);have HR:Hid (ladderE W H G rs=0):=by show _=_;refine ladderE_yes ?_;unfold ladderB;rw [HLE.out,hok,Bool.and_true];exact decide_eq_true ⟨by omega,by omega⟩
   have H1:=Lib.hid hM;clear hok hM;go_wp2_with fail;go_ret;exact⟨by rw [HR.out];rfl,H1.out⟩
theorem cellqL{w w':World}{b o:Nat}(hm:Mod (fun _=>False) w w')(hb:b<w.heap.size):w'.cell? ⟨b,o,none⟩=w.cell? ⟨b,o,none⟩:=World.cell?_of_block (hm.block b hb (fun h=>h))
end Go.Proofs.YtnnpoodcdibpiaaGreatDoor
