/-
  The reference's side, Right and Whole, of anything. Written by gen_gwhole.py.
-/
import Derived.Test.YthednemlahioeaaGreatDoorM31
namespace Go.Proofs.YthednemlahioeaaGreatDoor
open Go.RowKit
open Lib renaming hid→Z7
open Int renaming tmod_eq_emod_of_nonneg→Zu,tdiv_eq_ediv_of_nonneg→ZK
open And renaming intro→Z9
open Go.Proofs.Tryz
set_option maxRecDepth 100000
set_option maxHeartbeats 8000000
theorem K9(w:World)(n:Int):Calls prog 219 #[↑n] w fun e w'=>e=.returned (.bool (decide (1<=n/\n<=4096)))/\w=w':=by
 by_cases h1:1<=n
 ·have d1:decide (1<=n)=true:=decide_eq_true h1;by_cases h2:n<=4096
  ·have d2:decide (n<=4096)=true:=decide_eq_true h2;have HR:Hid (decide (1<=n/\n<=4096)=true):=decide_eq_true ⟨h1,h2⟩;go_enter func219,ntmps219;go_wp2_with fail;go_ret;exact⟨by first|rfl|(rw [HR.out];rfl),rfl⟩
  ·have d2:decide (n<=4096)=false:=decide_eq_false h2;have HR:Hid (decide (1<=n/\n<=4096)=false):=decide_eq_false (fun h=>h2 h.2);go_enter func219,ntmps219;go_wp2_with fail;go_ret;exact⟨by first|rfl|(rw [HR.out];rfl),rfl⟩
 ·have d1:decide (1<=n)=false:=decide_eq_false h1;have HR:Hid (decide (1<=n/\n<=4096)=false):=decide_eq_false (fun h=>h1 h.1);go_enter func219,ntmps219;go_wp2_with fail;go_ret;exact⟨by first|rfl|(rw [HR.out];rfl),rfl⟩
theorem Jo{W H:Int}{n:Nat}(h:X8 W H n=true):(1<=W/\W<=4096)/\(1<=H/\H<=4096):=by
 unfold X8 Rm at h;simp only [Bool.and_eq_true,decide_eq_true_eq]at h;omega
theorem Xq(w:World)(W H:Int)(A:Option Addr)(n c:Nat):Calls prog 158 #[.agg #[↑W,↑H,.slice A n c]] w fun e w'=>e=.returned (.bool (X8 W H n))/\Mod ↑ZW w w':=by
 by_cases h1:1<=W/\W<=4096
 ·have d1:decide (1<=W/\W<=4096)=true:=decide_eq_true h1;by_cases h2:1<=H/\H<=4096
  ·have d2:decide (1<=H/\H<=4096)=true:=decide_eq_true h2;obtain⟨p,hp⟩:=ZL (W*H);have EE:0<=p/\p<=16777216:=by
    rw [hp]
    exact⟨Int.mul_nonneg Z8 Z8,by
     have:=Int.mul_le_mul h1.2 h2.2 Z8 (by omega:(0:Int)<=4096);omega⟩
   have hw:wrap64 (W*H)=p:=by rw [<-hp];exact IntWalk.wrap64_in _ ⟨Z8,Z8⟩
   have hw2:IntKind.i64.wrap (W*H)=p:=by rw [<-hp];exact IntWalk.i64_in _ ⟨Z8,Z8⟩
   have HW:=Z5 hw hw2;have hr:X8 W H n=decide ((n:Int)=p):=by unfold X8 Rm;rw [decide_eq_true (show 1<=W/\W<=4096/\1<=H/\H<=4096 from⟨h1.1,h1.2,h2.1,h2.2⟩),hp];rfl
   have HR:=Z7 hr;clear hr hp hw hw2 h1 h2 EE;by_cases hn:(n:Int)=p
   ·have b1:((n:Int) == p)=true:=by simpa using hn
    have HN:=Z7 hn;clear hn;go_enter func158,ntmps158;go_wp2_with fail;refine YH (K9 _ W) ?_;rw [d1];go_wp2_with fail;refine YH (K9 _ H) ?_;rw [d2];obtain⟨hw,hw2⟩:=HW.out;go_wp2_with fail;go_ret;exact⟨by rw [HR.out,decide_eq_true HN.out];rfl,(Mod.refl _ _).alloc _⟩
   ·have b1:((n:Int) == p)=false:=by simpa using hn
    have HN:=Z7 hn;clear hn;go_enter func158,ntmps158;go_wp2_with fail;refine YH (K9 _ W) ?_;rw [d1];go_wp2_with fail;refine YH (K9 _ H) ?_;rw [d2];obtain⟨hw,hw2⟩:=HW.out;go_wp2_with fail;go_ret;exact⟨by rw [HR.out,decide_eq_false HN.out];rfl,(Mod.refl _ _).alloc _⟩
  ·have d2:decide (1<=H/\H<=4096)=false:=decide_eq_false h2;have hr:X8 W H n=false:=by unfold X8 Rm;rw [decide_eq_false (fun h=>h2 ⟨h.2.2.1,h.2.2.2⟩)];rfl
   have HR:=Z7 hr;clear hr h1 h2;go_enter func158,ntmps158;go_wp2_with fail;refine YH (K9 _ W) ?_;rw [d1];go_wp2_with fail;refine YH (K9 _ H) ?_;rw [d2];go_wp2_with fail;go_ret;exact⟨by rw [HR.out];rfl,(Mod.refl _ _).alloc _⟩
 ·have d1:decide (1<=W/\W<=4096)=false:=decide_eq_false h1;have hr:X8 W H n=false:=by unfold X8 Rm;rw [decide_eq_false (fun h=>h1 ⟨h.1,h.2.1⟩)];rfl
  have HR:=Z7 hr;clear hr h1;go_enter func158,ntmps158;go_wp2_with fail;refine YH (K9 _ W) ?_;rw [d1];go_wp2_with fail;refine YH (K9 _ H) ?_;go_wp2_with fail;go_ret;exact⟨by rw [HR.out];rfl,(Mod.refl _ _).alloc _⟩
theorem IB(w:World)(W0 H0 W1 H1 W2 H2:Int)(A0 A1 A2:Option Addr)(n0 c0 n1 c1 n2 c2:Nat):Calls prog 99 #[.agg #[↑W0,↑H0,.slice A0 n0 c0,↑W1,↑H1,.slice A1 n1 c1,↑W2,↑H2,.slice A2 n2 c2]] w fun e w'=>e=.returned (.bool (Ye W0 H0 n0 W1 H1 n1 W2 H2 n2))/\Mod ↑ZW w w':=by
 have M8:=Z7 ((Sat.nil ↑ZW w).alloc 58 #[↑W0,↑H0,.slice A0 n0 c0,↑W1,↑H1,.slice A1 n1 c1,↑W2,↑H2,.slice A2 n2 c2] rfl);by_cases r0:X8 W0 H0 n0=true
 ·have f0:X8 W0 H0 n0=true:=by simpa using r0
  obtain⟨x0,y0⟩:=Jo r0;by_cases r1:X8 W1 H1 n1=true
  ·have f1:X8 W1 H1 n1=true:=by simpa using r1
   obtain⟨x1,y1⟩:=Jo r1;by_cases r2:X8 W2 H2 n2=true
   ·have f2:X8 W2 H2 n2=true:=by simpa using r2
    obtain⟨x2,y2⟩:=Jo r2;by_cases m0:W0 % 16=0
    ·have m00:(W0 % 16 == 0)=true:=by simpa using m0
     have m01:(W0.tmod 16 == 0)=true:=by rw [Zu Z8];simpa using m0
     by_cases m1:H0 % 16=0
     ·have m10:(H0 % 16 == 0)=true:=by simpa using m1
      have EY:(H0.tmod 16 == 0)=true:=by rw [Zu Z8];simpa using m1
      by_cases q0:W1=W0/2
      ·have q00:(W1 == W0/2)=true:=by simpa using q0
       have q01:(W1 == W0.tdiv 2)=true:=by rw [ZK Z8];simpa using q0
       by_cases q1:H1=H0/2
       ·have jk:(H1 == H0/2)=true:=by simpa using q1
        have q11:(H1 == H0.tdiv 2)=true:=by rw [ZK Z8];simpa using q1
        by_cases q2:W2=W1
        ·have q20:(W2 == W1)=true:=by simpa using q2
         by_cases q3:H2=H1
         ·have q30:(H2 == H1)=true:=by simpa using q3
          have hr:Ye W0 H0 n0 W1 H1 n1 W2 H2 n2=true:=by unfold Ye;exact decide_eq_true ⟨r0,r1,r2,m0,m1,q0,q1,Z8,Z8⟩
          have HR:=Z7 hr;clear hr;clear m0;clear m1;clear q0;clear q1;clear q2;clear q3;go_enter func99,ntmps99;go_wp2_with fail;refine YX (Xq _ W0 H0 A0 n0 c0) fun w1 Y6=>?_;rw [f0];have XZ:=Z7 (M8.out.quiet Y6);obtain⟨pc,pf⟩:=(XZ.out.ZX 0 rfl).both;dsimp only at pc;clear Y6;go_wp2_with fail;clear pc pf;refine YX (Xq _ W1 H1 A1 n1 c1) fun w2 Y3=>?_;rw [f1];have V4:=Z7 (XZ.out.quiet Y3);obtain⟨pc,pf⟩:=(V4.out.ZX 0 rfl).both;dsimp only at pc;clear Y3;go_wp2_with fail;clear pc pf;refine YX (Xq _ W2 H2 A2 n2 c2) fun w3 X7=>?_;rw [f2];have Td:=Z7 (V4.out.quiet X7);obtain⟨pc,pf⟩:=(Td.out.ZX 0 rfl).both;dsimp only at pc;clear X7;go_wp2_with fail;go_ret;exact⟨by rw [HR.out];rfl,Td.out.mod⟩
         ·have q30:(H2 == H1)=false:=by simpa using q3
          have hr:Ye W0 H0 n0 W1 H1 n1 W2 H2 n2=false:=by unfold Ye;exact decide_eq_false (fun h=>by obtain⟨h0,h1,h2,h3,h4,h5,h6,h7,h8⟩:=h;first|exact absurd h0 WL|exact absurd h1 WL|exact absurd h2 WL|omega)
          have HR:=Z7 hr;clear hr;clear m0;clear m1;clear q0;clear q1;clear q2;clear q3;go_enter func99,ntmps99;go_wp2_with fail;refine YX (Xq _ W0 H0 A0 n0 c0) fun w1 Y6=>?_;rw [f0];have XZ:=Z7 (M8.out.quiet Y6);obtain⟨pc,pf⟩:=(XZ.out.ZX 0 rfl).both;dsimp only at pc;clear Y6;go_wp2_with fail;clear pc pf;refine YX (Xq _ W1 H1 A1 n1 c1) fun w2 Y3=>?_;rw [f1];have V4:=Z7 (XZ.out.quiet Y3);obtain⟨pc,pf⟩:=(V4.out.ZX 0 rfl).both;dsimp only at pc;clear Y3;go_wp2_with fail;clear pc pf;refine YX (Xq _ W2 H2 A2 n2 c2) fun w3 X7=>?_;rw [f2];have Td:=Z7 (V4.out.quiet X7);obtain⟨pc,pf⟩:=(Td.out.ZX 0 rfl).both;dsimp only at pc;clear X7;go_wp2_with fail;go_ret;exact⟨by rw [HR.out];rfl,Td.out.mod⟩
        ·have q20:(W2 == W1)=false:=by simpa using q2
         have hr:Ye W0 H0 n0 W1 H1 n1 W2 H2 n2=false:=by unfold Ye;exact decide_eq_false (fun h=>by obtain⟨h0,h1,h2,h3,h4,h5,h6,h7,h8⟩:=h;first|exact absurd h0 WL|exact absurd h1 WL|exact absurd h2 WL|omega)
         have HR:=Z7 hr;clear hr;clear m0;clear m1;clear q0;clear q1;clear q2;go_enter func99,ntmps99;go_wp2_with fail;refine YX (Xq _ W0 H0 A0 n0 c0) fun w1 Y6=>?_;rw [f0];have XZ:=Z7 (M8.out.quiet Y6);obtain⟨pc,pf⟩:=(XZ.out.ZX 0 rfl).both;dsimp only at pc;clear Y6;go_wp2_with fail;clear pc pf;refine YX (Xq _ W1 H1 A1 n1 c1) fun w2 Y3=>?_;rw [f1];have V4:=Z7 (XZ.out.quiet Y3);obtain⟨pc,pf⟩:=(V4.out.ZX 0 rfl).both;dsimp only at pc;clear Y3;go_wp2_with fail;clear pc pf;refine YX (Xq _ W2 H2 A2 n2 c2) fun w3 X7=>?_;rw [f2];have Td:=Z7 (V4.out.quiet X7);obtain⟨pc,pf⟩:=(Td.out.ZX 0 rfl).both;dsimp only at pc;clear X7;go_wp2_with fail;go_ret;exact⟨by rw [HR.out];rfl,Td.out.mod⟩
       ·have jk:(H1 == H0/2)=false:=by simpa using q1
        have q11:(H1 == H0.tdiv 2)=false:=by rw [ZK Z8];simpa using q1
        have hr:Ye W0 H0 n0 W1 H1 n1 W2 H2 n2=false:=by unfold Ye;exact decide_eq_false (fun h=>by obtain⟨h0,h1,h2,h3,h4,h5,h6,h7,h8⟩:=h;first|exact absurd h0 WL|exact absurd h1 WL|exact absurd h2 WL|omega)
        have HR:=Z7 hr;clear hr;clear m0;clear m1;clear q0;clear q1;go_enter func99,ntmps99;go_wp2_with fail;refine YX (Xq _ W0 H0 A0 n0 c0) fun w1 Y6=>?_;rw [f0];have XZ:=Z7 (M8.out.quiet Y6);obtain⟨pc,pf⟩:=(XZ.out.ZX 0 rfl).both;dsimp only at pc;clear Y6;go_wp2_with fail;clear pc pf;refine YX (Xq _ W1 H1 A1 n1 c1) fun w2 Y3=>?_;rw [f1];have V4:=Z7 (XZ.out.quiet Y3);obtain⟨pc,pf⟩:=(V4.out.ZX 0 rfl).both;dsimp only at pc;clear Y3;go_wp2_with fail;clear pc pf;refine YX (Xq _ W2 H2 A2 n2 c2) fun w3 X7=>?_;rw [f2];have Td:=Z7 (V4.out.quiet X7);obtain⟨pc,pf⟩:=(Td.out.ZX 0 rfl).both;dsimp only at pc;clear X7;go_wp2_with fail;go_ret;exact⟨by rw [HR.out];rfl,Td.out.mod⟩
      ·have q00:(W1 == W0/2)=false:=by simpa using q0
       have q01:(W1 == W0.tdiv 2)=false:=by rw [ZK Z8];simpa using q0
       have hr:Ye W0 H0 n0 W1 H1 n1 W2 H2 n2=false:=by unfold Ye;exact decide_eq_false (fun h=>by obtain⟨h0,h1,h2,h3,h4,h5,h6,h7,h8⟩:=h;first|exact absurd h0 WL|exact absurd h1 WL|exact absurd h2 WL|omega)
       have HR:=Z7 hr;clear hr;clear m0;clear m1;clear q0;go_enter func99,ntmps99;go_wp2_with fail;refine YX (Xq _ W0 H0 A0 n0 c0) fun w1 Y6=>?_;rw [f0];have XZ:=Z7 (M8.out.quiet Y6);obtain⟨pc,pf⟩:=(XZ.out.ZX 0 rfl).both;dsimp only at pc;clear Y6;go_wp2_with fail;clear pc pf;refine YX (Xq _ W1 H1 A1 n1 c1) fun w2 Y3=>?_;rw [f1];have V4:=Z7 (XZ.out.quiet Y3);obtain⟨pc,pf⟩:=(V4.out.ZX 0 rfl).both;dsimp only at pc;clear Y3;go_wp2_with fail;clear pc pf;refine YX (Xq _ W2 H2 A2 n2 c2) fun w3 X7=>?_;rw [f2];have Td:=Z7 (V4.out.quiet X7);obtain⟨pc,pf⟩:=(Td.out.ZX 0 rfl).both;dsimp only at pc;clear X7;go_wp2_with fail;go_ret;exact⟨by rw [HR.out];rfl,Td.out.mod⟩
     ·have m10:(H0 % 16 == 0)=false:=by simpa using m1
      have EY:(H0.tmod 16 == 0)=false:=by rw [Zu Z8];simpa using m1
      have hr:Ye W0 H0 n0 W1 H1 n1 W2 H2 n2=false:=by unfold Ye;exact decide_eq_false (fun h=>by obtain⟨h0,h1,h2,h3,h4,h5,h6,h7,h8⟩:=h;first|exact absurd h0 WL|exact absurd h1 WL|exact absurd h2 WL|omega)
      have HR:=Z7 hr;clear hr;clear m0;clear m1;go_enter func99,ntmps99;go_wp2_with fail;refine YX (Xq _ W0 H0 A0 n0 c0) fun w1 Y6=>?_;rw [f0];have XZ:=Z7 (M8.out.quiet Y6);obtain⟨pc,pf⟩:=(XZ.out.ZX 0 rfl).both;dsimp only at pc;clear Y6;go_wp2_with fail;clear pc pf;refine YX (Xq _ W1 H1 A1 n1 c1) fun w2 Y3=>?_;rw [f1];have V4:=Z7 (XZ.out.quiet Y3);obtain⟨pc,pf⟩:=(V4.out.ZX 0 rfl).both;dsimp only at pc;clear Y3;go_wp2_with fail;clear pc pf;refine YX (Xq _ W2 H2 A2 n2 c2) fun w3 X7=>?_;rw [f2];have Td:=Z7 (V4.out.quiet X7);obtain⟨pc,pf⟩:=(Td.out.ZX 0 rfl).both;dsimp only at pc;clear X7;go_wp2_with fail;go_ret;exact⟨by rw [HR.out];rfl,Td.out.mod⟩
    ·have m00:(W0 % 16 == 0)=false:=by simpa using m0
     have m01:(W0.tmod 16 == 0)=false:=by rw [Zu Z8];simpa using m0
     have hr:Ye W0 H0 n0 W1 H1 n1 W2 H2 n2=false:=by unfold Ye;exact decide_eq_false (fun h=>by obtain⟨h0,h1,h2,h3,h4,h5,h6,h7,h8⟩:=h;first|exact absurd h0 WL|exact absurd h1 WL|exact absurd h2 WL|omega)
     have HR:=Z7 hr;clear hr;clear m0;go_enter func99,ntmps99;go_wp2_with fail;refine YX (Xq _ W0 H0 A0 n0 c0) fun w1 Y6=>?_;rw [f0];have XZ:=Z7 (M8.out.quiet Y6);obtain⟨pc,pf⟩:=(XZ.out.ZX 0 rfl).both;dsimp only at pc;clear Y6;go_wp2_with fail;clear pc pf;refine YX (Xq _ W1 H1 A1 n1 c1) fun w2 Y3=>?_;rw [f1];have V4:=Z7 (XZ.out.quiet Y3);obtain⟨pc,pf⟩:=(V4.out.ZX 0 rfl).both;dsimp only at pc;clear Y3;go_wp2_with fail;clear pc pf;refine YX (Xq _ W2 H2 A2 n2 c2) fun w3 X7=>?_;rw [f2];have Td:=Z7 (V4.out.quiet X7);obtain⟨pc,pf⟩:=(Td.out.ZX 0 rfl).both;dsimp only at pc;clear X7;go_wp2_with fail;go_ret;exact⟨by rw [HR.out];rfl,Td.out.mod⟩
   ·have f2:X8 W2 H2 n2=false:=by simpa using r2
    have hr:Ye W0 H0 n0 W1 H1 n1 W2 H2 n2=false:=by unfold Ye;exact decide_eq_false (fun h=>by obtain⟨h0,h1,h2,h3,h4,h5,h6,h7,h8⟩:=h;first|exact absurd h0 WL|exact absurd h1 WL|exact absurd h2 WL|omega)
    have HR:=Z7 hr;clear hr;go_enter func99,ntmps99;go_wp2_with fail;refine YX (Xq _ W0 H0 A0 n0 c0) fun w1 Y6=>?_;rw [f0];have XZ:=Z7 (M8.out.quiet Y6);obtain⟨pc,pf⟩:=(XZ.out.ZX 0 rfl).both;dsimp only at pc;clear Y6;go_wp2_with fail;clear pc pf;refine YX (Xq _ W1 H1 A1 n1 c1) fun w2 Y3=>?_;rw [f1];have V4:=Z7 (XZ.out.quiet Y3);obtain⟨pc,pf⟩:=(V4.out.ZX 0 rfl).both;dsimp only at pc;clear Y3;go_wp2_with fail;clear pc pf;refine YX (Xq _ W2 H2 A2 n2 c2) fun w3 X7=>?_;rw [f2];have Td:=Z7 (V4.out.quiet X7);obtain⟨pc,pf⟩:=(Td.out.ZX 0 rfl).both;dsimp only at pc;clear X7;go_wp2_with fail;go_ret;exact⟨by rw [HR.out];rfl,Td.out.mod⟩
  ·have f1:X8 W1 H1 n1=false:=by simpa using r1
   have hr:Ye W0 H0 n0 W1 H1 n1 W2 H2 n2=false:=by unfold Ye;exact decide_eq_false (fun h=>by obtain⟨h0,h1,h2,h3,h4,h5,h6,h7,h8⟩:=h;first|exact absurd h0 WL|exact absurd h1 WL|exact absurd h2 WL|omega)
   have HR:=Z7 hr;clear hr;go_enter func99,ntmps99;go_wp2_with fail;refine YX (Xq _ W0 H0 A0 n0 c0) fun w1 Y6=>?_;rw [f0];have XZ:=Z7 (M8.out.quiet Y6);obtain⟨pc,pf⟩:=(XZ.out.ZX 0 rfl).both;dsimp only at pc;clear Y6;go_wp2_with fail;clear pc pf;refine YX (Xq _ W1 H1 A1 n1 c1) fun w2 Y3=>?_;rw [f1];have V4:=Z7 (XZ.out.quiet Y3);obtain⟨pc,pf⟩:=(V4.out.ZX 0 rfl).both;dsimp only at pc;clear Y3;go_wp2_with fail;clear pc pf;refine YX (Xq _ W2 H2 A2 n2 c2) fun w3 X7=>?_;have Td:=Z7 (V4.out.quiet X7);obtain⟨pc,pf⟩:=(Td.out.ZX 0 rfl).both;dsimp only at pc;clear X7;go_wp2_with fail;go_ret;exact⟨by rw [HR.out];rfl,Td.out.mod⟩
 ·have f0:X8 W0 H0 n0=false:=by simpa using r0
  have hr:Ye W0 H0 n0 W1 H1 n1 W2 H2 n2=false:=by unfold Ye;exact decide_eq_false (fun h=>by obtain⟨h0,h1,h2,h3,h4,h5,h6,h7,h8⟩:=h;first|exact absurd h0 WL|exact absurd h1 WL|exact absurd h2 WL|omega)
  have HR:=Z7 hr;clear hr;go_enter func99,ntmps99;go_wp2_with fail;refine YX (Xq _ W0 H0 A0 n0 c0) fun w1 Y6=>?_;rw [f0];have XZ:=Z7 (M8.out.quiet Y6);obtain⟨pc,pf⟩:=(XZ.out.ZX 0 rfl).both;dsimp only at pc;clear Y6;go_wp2_with fail;clear pc pf;refine YX (Xq _ W1 H1 A1 n1 c1) fun w2 Y3=>?_;have V4:=Z7 (XZ.out.quiet Y3);obtain⟨pc,pf⟩:=(V4.out.ZX 0 rfl).both;dsimp only at pc;clear Y3;go_wp2_with fail;clear pc pf;refine YX (Xq _ W2 H2 A2 n2 c2) fun w3 X7=>?_;have Td:=Z7 (V4.out.quiet X7);obtain⟨pc,pf⟩:=(Td.out.ZX 0 rfl).both;dsimp only at pc;clear X7;go_wp2_with fail;go_ret;exact⟨by rw [HR.out];rfl,Td.out.mod⟩
def Ar(w:World)(W H G q tg:Int)(e:Ending)(w':World):Prop:=
 Mod ↑ZW w w'/\((seqRight W H G=false/\e=.returned (.tuple #[.pointer none,.int .i64 121]))\/(seqRight W H G=true/\Rp q tg=false/\e=.returned (.tuple #[.pointer none,.int .i64 1])) \/
  ∃g,seqRight W H G=true/\Rp q tg=true/\e=.returned (.tuple #[↑(ZC g 0),↑Z0])/\ZI w' g 193 (Ta W H G q tg 0 Q3)/\w.heap.size<=g)
theorem aeo(w:World)(W H G q tg:Int):Calls prog 56 #[.agg #[↑W,↑H,↑G],↑q,↑tg] w (Ar w W H G q tg):=by
 have hM:Mod ↑ZW w (w.alloc (.cells #[↑W,↑H,↑G] 40)):=(Mod.refl _ _).alloc _;have hb:=ZI.new w 40 #[↑W,↑H,↑G];have H0:=Z5 hM hb;clear hM hb;cases hr:seqRight W H G with
 | false=>
  have HR:=Z7 hr;clear hr;go_enter func56,ntmps56;go_wp2_with fail;refine YX (Re _ W H G) fun w1 hm=>?_;rw [HR.out];have H1:=Z7 (H0.out.1.trans hm);clear hm;go_wp2_with fail;go_ret2;exact⟨H1.out,.inl ⟨HR.out,rfl⟩⟩
 | true=>
  have HR:=Z7 hr;clear hr;by_cases ha:Rp q tg=true
  ·have ha2:=of_decide_eq_true ha;have d1:=Za (q<0);have d2:=Za (31<q);have d3:=Za (tg<0);have d4:=Za (1048576<tg);have HA:=Z7 ha;clear ha ha2;go_enter func56,ntmps56;go_wp2_with fail;refine YX (Re _ W H G) fun w1 hm=>?_;rw [HR.out];have hb1:=H0.out.2.keep hm (fun h=>h);obtain⟨bc,bf⟩:=hb1.both;have H1:=Z7 (H0.out.1.trans hm);clear hm hb1;go_wp2_with fail;go_ret2;exact⟨H1.out.alloc _,.inr (.inr ⟨_,HR.out,HA.out,rfl,ZI.new _ _ _,H1.out.size⟩)⟩
  ·have ha2:¬((0<=q/\q<=31)/\0<=tg/\tg<=1048576):=fun h=>ha (decide_eq_true h);have KM:q<0\/(0<=q/\31<q)\/(0<=q/\q<=31/\tg<0)\/(0<=q/\q<=31/\0<=tg/\1048576<tg):=Z8;have HA:=Z7 (show Rp q tg=false by simpa using ha);clear ha ha2;rcases KM with h|⟨h,h2⟩|⟨h,h2,h3⟩|⟨h,h2,h3,h4⟩
   all_goals
    have d1:decide (q<0)=decide (q<0):=rfl;go_enter func56,ntmps56;go_wp2_with fail;refine YX (Re _ W H G) fun w1 hm=>?_;rw [HR.out];have H1:=Z7 (H0.out.1.trans hm);clear hm;go_wp2_with fail;go_ret2;exact⟨H1.out,.inr (.inl ⟨HR.out,HA.out,rfl⟩)⟩
theorem Ee{W H G:Int}(hr:seqRight W H G=true):(16<=W/\W<=4096/\W % 16=0)/\(16<=H/\H<=4096/\H % 16=0)/\1<=G/\G<=64:=by
 unfold seqRight at hr;rwa [decide_eq_true_eq]at hr
theorem afX(w:World)(W H G:Int)(hr:seqRight W H G=true)(K:Bool)(n q:Nat)(hK:K=decide (n=0))(hn:(n:Int)<G)(hq:q<=31):
  Calls prog 161 #[.agg #[.bool K,↑n,↑q],.agg #[↑W,↑H,↑G]] w fun e w'=>e=.returned (.bool true)/\Mod ↑ZW w w':=by
 obtain⟨⟨a1,a2,a3⟩,⟨a4,a5,a6⟩,a7,a8⟩:=Ee hr;have h0:=((Sat.nil ↑ZW w).alloc 195 #[.bool K,↑n,↑q] rfl).alloc (g:=w.heap.size+1) 40 #[↑W,↑H,↑G] Ze;have t1:decide ((n:Int)<G)=true:=decide_eq_true hn;have t2:=Zb ((q:Int)<=31);have t3:=Zb ((0:Int)<=(n:Int));have t4:=Zb ((0:Int)<=(q:Int));have t5:(K == ((n:Int) == 0))=true:=by
  rw [hK,beq_iff_eq];by_cases e:n=0
  ·subst e;rfl
  ·rw [decide_eq_false e];symm;rw [beq_eq_false_iff_ne];omega
 have H0:=Z5 h0 hr;clear h0 hr hK;go_enter func161,ntmps161;go_wp2_with fail;refine YX (Re _ W H G) fun w1 Y6=>?_;rw [H0.out.2];have HS:=H0.out.1.quiet Y6;obtain⟨pc,pf⟩:=(HS.ZX 1 rfl).both;obtain⟨qc,qf⟩:=(HS.ZX 0 rfl).both;have H1:=Z7 HS;clear HS Y6 a3 a6;go_wp2_with fail;go_ret;exact⟨rfl,H1.out.mod⟩
theorem acZ(w:World)(W H G:Int)(hr:seqRight W H G=true)(K:Bool)(n q:Nat)(hK:K=decide (n=0))(hn:(n:Int)<G)(hq:q<=31):
  Calls prog 101 #[.agg #[.bool K,↑n,↑q],.agg #[↑W,↑H,↑G]] w fun e w'=>∃v,e=.returned (.tuple #[v,↑Z0])/\Bytes w' w.heap.size v (Je K n q)/\Mod ↑ZW w w':=by
 obtain⟨_,_,a7,a8⟩:=Ee hr;have h0:=((Sat.nil ↑ZW w).alloc 195 #[.bool K,↑n,↑q] rfl).alloc (g:=w.heap.size+1) 40 #[↑W,↑H,↑G] Ze;have hB:Je K n q=TA ([if K=true then 1 else 0]++Pk n++XV q 5):=by cases K<;>rfl
 have alG:n<=64:=Z8;have SB:=AJ (x:=n) Z8;have H0:=Z5 h0 (Z9 (Z9 hr (Z9 hK hn)) hB);clear h0 hr hB hn hK;go_enter func101,ntmps101;go_wp2_with fail;refine YX (afX _ W H G H0.out.2.1.1 K n q H0.out.2.1.2.1 H0.out.2.1.2.2 hq) fun w1 Y6=>?_;have HS:=H0.out.1.quiet Y6;obtain⟨pc,pf⟩:=(HS.ZX 1 rfl).both;have hG:R7 w w1 _ ↑Zd []:=⟨World.ownsRow_nil _ _ _ _,HS⟩
 have HA:=Z5 hG hG.2.mod.size;clear HS Y6 hG;cases K
 ·go_upto_region 8 with(at_builtin;have _t:=HA;refine VR _ rfl (.tmp 18) (.tmp 19) rfl w.heap.size ↑Zd [] 0 rfl rfl HA.out.1.1 HA.out.2 Ze ?_;intro v2 w2 hown2 RZ _ _;have HO:=Z7 (HA.out.1.app (by intro e he;simp at he;rcases he with rfl|rfl<;>(dsimp only;decide)) hown2 RZ);clear hown2 RZ)
  clear pc pf HA;obtain⟨pc,pf⟩:=(HO.out.2.ZX 1 rfl).both;go_wp2_with fail;refine(tF w2 n Z8).mono ?_;rintro e w3 ⟨s3,rfl,hs3,X7⟩;obtain⟨A3,d3,hv3⟩:=ZG hs3;obtain⟨c3,hc3⟩:=ZL ((Pk n).length);rw [<-hc3]at hv3;subst hv3;have HX:=Z5 (HO.out.quiet X7) (Z9 hs3.RU (Z9 (HO.out.quiet X7).2.mod.size (Nat.le_trans (Nat.le_of_eq hc3) SB)));clear hs3 X7 hc3 pc pf HO;go_upto_region 9 with(at_builtin;have _t:=HX;refine VJ _ rfl (.tmp 21) (.tmp 25) rfl w.heap.size v2 ([]++[0]) A3 c3 d3 (Pk n) rfl rfl HX.out.1.1 HX.out.2.1 HX.out.2.2.1 (by have:=HX.out.2.2.2;simp;omega) ?_;intro v4 w4 Ws Gm _ _;have HO:=Z7 (HX.out.1.app (by intro e he;simp at he;rcases he with rfl|rfl<;>(dsimp only;decide)) Ws Gm);clear Ws Gm)
  clear HX;obtain⟨pc,pf⟩:=(HO.out.2.ZX 1 rfl).both;go_wp2_with fail;refine(MP w4 q 5 Z8 Z8).mono ?_;rintro e w5 ⟨s5,rfl,hs5,UR⟩;obtain⟨A5,d5,hv5⟩:=ZG hs5;rw [YR]at hv5;subst hv5;have HX:=Z5 (HO.out.quiet UR) (Z9 hs5.RU (HO.out.quiet UR).2.mod.size);clear hs5 UR pc pf HO;go_upto_region 10 with(at_builtin;have _t:=HX;refine VJ _ rfl (.tmp 27) (.tmp 31) rfl w.heap.size v4 ([]++[0]++Pk n) A5 5 d5 (XV q 5) rfl rfl HX.out.1.1 HX.out.2.1 HX.out.2.2 (by simp;omega) ?_;intro v6 w6 PW Bh _ _;have HO:=Z7 (HX.out.1.app (by intro e he;simp at he;rcases he with rfl|rfl<;>(dsimp only;decide)) PW Bh);clear PW Bh)
  clear HX;obtain⟨A6,d6,jQ⟩:=ZG HO.out.1;obtain⟨m6,Xt⟩:=ZL (([]++[0]++Pk n++XV q 5).length);rw [<-Xt]at jQ;subst jQ;have aC:0<m6:=by rw [Xt];simp
  have hle:m6<=1048576:=by rw [Xt];simp [YR];omega
  clear Xt;go_wp2_with fail;refine(tH w6 A6 m6 d6 _ (Bytes.RU HO.out.1) aC hle).mono ?_;rintro e w9 ⟨s9,rfl,Ik,VK⟩;have HF:=Z5 (Ik.down HO.out.2.mod.size) (HO.out.2.mod.trans VK);clear Ik VK;go_wp2_with fail;go_ret2;exact⟨s9,rfl,by rw [H0.out.2.2];exact HF.out.1,HF.out.2⟩
 ·go_upto_region 8 with(at_builtin;have _t:=HA;refine VR _ rfl (.tmp 15) (.tmp 16) rfl w.heap.size ↑Zd [] 1 rfl rfl HA.out.1.1 HA.out.2 Ze ?_;intro v2 w2 hown2 RZ _ _;have HO:=Z7 (HA.out.1.app (by intro e he;simp at he;rcases he with rfl|rfl<;>(dsimp only;decide)) hown2 RZ);clear hown2 RZ)
  clear pc pf HA;obtain⟨pc,pf⟩:=(HO.out.2.ZX 1 rfl).both;go_wp2_with fail;refine(tF w2 n Z8).mono ?_;rintro e w3 ⟨s3,rfl,hs3,X7⟩;obtain⟨A3,d3,hv3⟩:=ZG hs3;obtain⟨c3,hc3⟩:=ZL ((Pk n).length);rw [<-hc3]at hv3;subst hv3;have HX:=Z5 (HO.out.quiet X7) (Z9 hs3.RU (Z9 (HO.out.quiet X7).2.mod.size (Nat.le_trans (Nat.le_of_eq hc3) SB)));clear hs3 X7 hc3 pc pf HO;go_upto_region 9 with(at_builtin;have _t:=HX;refine VJ _ rfl (.tmp 21) (.tmp 25) rfl w.heap.size v2 ([]++[1]) A3 c3 d3 (Pk n) rfl rfl HX.out.1.1 HX.out.2.1 HX.out.2.2.1 (by have:=HX.out.2.2.2;simp;omega) ?_;intro v4 w4 Ws Gm _ _;have HO:=Z7 (HX.out.1.app (by intro e he;simp at he;rcases he with rfl|rfl<;>(dsimp only;decide)) Ws Gm);clear Ws Gm)
  clear HX;obtain⟨pc,pf⟩:=(HO.out.2.ZX 1 rfl).both;go_wp2_with fail;refine(MP w4 q 5 Z8 Z8).mono ?_;rintro e w5 ⟨s5,rfl,hs5,UR⟩;obtain⟨A5,d5,hv5⟩:=ZG hs5;rw [YR]at hv5;subst hv5;have HX:=Z5 (HO.out.quiet UR) (Z9 hs5.RU (HO.out.quiet UR).2.mod.size);clear hs5 UR pc pf HO;go_upto_region 10 with(at_builtin;have _t:=HX;refine VJ _ rfl (.tmp 27) (.tmp 31) rfl w.heap.size v4 ([]++[1]++Pk n) A5 5 d5 (XV q 5) rfl rfl HX.out.1.1 HX.out.2.1 HX.out.2.2 (by simp;omega) ?_;intro v6 w6 PW Bh _ _;have HO:=Z7 (HX.out.1.app (by intro e he;simp at he;rcases he with rfl|rfl<;>(dsimp only;decide)) PW Bh);clear PW Bh)
  clear HX;obtain⟨A6,d6,jQ⟩:=ZG HO.out.1;obtain⟨m6,Xt⟩:=ZL (([]++[1]++Pk n++XV q 5).length);rw [<-Xt]at jQ;subst jQ;have aC:0<m6:=by rw [Xt];simp
  have hle:m6<=1048576:=by rw [Xt];simp [YR];omega
  clear Xt;go_wp2_with fail;refine(tH w6 A6 m6 d6 _ (Bytes.RU HO.out.1) aC hle).mono ?_;rintro e w9 ⟨s9,rfl,Ik,VK⟩;have HF:=Z5 (Ik.down HO.out.2.mod.size) (HO.out.2.mod.trans VK);clear Ik VK;go_wp2_with fail;go_ret2;exact⟨s9,rfl,by rw [H0.out.2.2];exact HF.out.1,HF.out.2⟩
def ahg(w:World)(code:List UInt8)(v3 v4:Value)(wr:World):Prop:=∃k:Nat,k<=code.length/\v4=↑k/\Bytes wr w.heap.size v3 (code.take k)/\Mod ↑ZW w wr
theorem aeq(w:World)(g:Nat)(v:Value)(code:List UInt8)(wide:Nat)(h:EO w g v code wide)(hl:code.length<=1048575):
  Calls prog 106 #[↑(ZC g 0)] w fun e w'=>∃v',e=.returned v'/\Bytes w' w.heap.size v' code/\Mod ↑ZW w w':=by
 obtain⟨r,k,rfl,hrg⟩:=h.shape;have H:=Z7 h;obtain⟨n,hn⟩:=ZL (code.length);have HN:=Z7 hn;rw [<-hn]at hl;clear h hn;go_enter func106,ntmps106;go_wp2_with fail;go_loopw [3,4] (ahg w code) (fun _ s _=>n-(intOf s).toNat)
 case atStart=>exact⟨0,Nat.zero_le _,rfl,Bytes.nil _ _,Mod.refl _ _⟩
 case round=>
  rename World=>wr
  obtain⟨i,hi,rfl,hv,hM⟩:=hrel;have hb:=H.out.blk.keep hM (fun h=>h);rw [<-HN.out]at hb hi;have SB:=hb.cell 0;have g0:wr.cell? ↑g=some ↑(ZZ r n k):=SB;by_cases hlt:i<n
  ·have d1:=Zb ((i:Int)<(n:Int));have ho:=H.out.own.quiet hM;rw [<-HN.out]at ho;have CU:=ho.cell i (by rw [Qp,<-HN.out];exact hlt);rw [rE]at CU;obtain⟨x,hx⟩:=ZL (code.getD i 0);rw [<-hx]at CU;have fD:x.toNat<256:=UInt8.toNat_lt _;have aY:IntKind.u8.wrap (x.toNat:Int)=(x.toNat:Int):=IntWalk.u8_in _ ⟨Z8,Z8⟩;obtain⟨A,c,rfl⟩:=ZG hv;have htk:code.take (i+1)=code.take i++[x]:=by
    rw [hx,List.take_succ_eq_append_getElem (by rw [<-HN.out];exact hlt),List.getD_eq_getElem?_getD,List.getElem?_eq_getElem (by rw [<-HN.out];exact hlt)];rfl
   have hlen:(code.take i).length=i:=by rw [List.length_take];have:=HN.out;omega
   rw [hlen];rw [hlen]at hv;have HV:=Z5 hv (Z9 hM (Z9 htk hlen));have Br:w.heap.size<=wr.heap.size:=hM.size;clear hv hM htk hlen hx hb SB ho;go_wp2_with (at_builtin;have _t:=HV;refine VR _ rfl (.tmp 14) (.tmp 23) rfl w.heap.size (.slice A i c) (code.take i) x rfl rfl HV.out.1 Br (by rw [HV.out.2.2.2];omega) ?_;intro v5 w5 PV RO jF Jz;have HO:=Z5 PV (jF w ↑ZW (Nat.le_refl _) HV.out.2.1);clear PV RO jF Jz)
   go_roundw
   case rel=>exact⟨i+1,by rw [<-HN.out];omega,Zr,by rw [HV.out.2.2.1];exact HO.out.1,HO.out.2⟩
   case measure=>exact YD
  ·obtain rfl:i=n:=Z8;have d1:=Za ((i:Int)<(i:Int));have HV:=Z5 hv hM;clear hv hM hb SB;go_wp2_with fail;go_ret;exact⟨_,rfl,by have:=HV.out.1;rwa [List.take_of_length_le (by rw [<-HN.out];exact Nat.le_refl _)]at this,HV.out.2⟩
theorem agc{fr:List Value}(h:fr.length=9):∃x0 x1 x2 x3 x4 x5 x6 x7 x8,fr=[x0,x1,x2,x3,x4,x5,x6,x7,x8]:=by
 match fr,h with
 | [x0,x1,x2,x3,x4,x5,x6,x7,x8],_=>exact⟨x0,x1,x2,x3,x4,x5,x6,x7,x8,rfl⟩
structure jB(w wr:World)(fb res gb:Nat)(fv gv:Array Value)(B:Nat)(vo:Value)(hd:List UInt8):Prop where
 f_:ZI wr fb 58 fv
 r_:ZI wr res 58 Q3.toArray
 g_:ZI wr gb 58 gv
 o_:Bytes wr B vo hd
 mod:Mod ↑ZW w wr
section
variable {w wr w' : World} {fb res gb B : Nat} {fv gv : Array Value} {vo : Value} {hd : List UInt8}
theorem jB.quiet(h:jB w wr fb res gb fv gv B vo hd)(hm:Mod ↑ZW wr w'):jB w w' fb res gb fv gv B vo hd:=
 ⟨h.f_.keep hm (fun h=>h),h.r_.keep hm (fun h=>h),h.g_.keep hm (fun h=>h),h.o_.quiet hm,h.mod.trans hm⟩
theorem jB.step{wA:World}{bk cg B2:Nat}{v v':Value}{s s':Es}{d:Yz}{e0 j0 e1 j1 e2 j2 q0 r0 q1 r1 q2 r2:Nat}{f f':Yy}(hw:w.heap.size<=wA.heap.size)(hgb:wA.heap.size<=gb)(n1:fb≠gb)(n2:res≠gb)
  (h:Aq wA wr bk cg v s B2 d e0 j0 e1 j1 e2 j2 f)(hB:jB w wr fb res gb fv #[↑d.W,↑d.H,↑(ZZ e0 d.nY j0),↑d.W2,↑d.H2,↑(ZZ e1 d.nC j1),↑d.W2,↑d.H2,↑(ZZ e2 d.nC j2)] B vo hd)(k:Aq wA w' bk cg v' s' B2 d q0 r0 q1 r1 q2 r2 f')(hm:Mod (tZ bk cg v) wr w'):
  Aq wA ((((((((((w').setCell ↑gb ↑d.W).setCell ⟨gb,1,none⟩ ↑d.H).setCell ⟨gb,2,none⟩ ↑(ZZ q0 d.nY r0)).setCell ⟨gb,3,none⟩ ↑d.W2).setCell ⟨gb,4,none⟩ ↑d.H2).setCell ⟨gb,5,none⟩ ↑(ZZ q1 d.nC r1)).setCell ⟨gb,6,none⟩ ↑d.W2).setCell ⟨gb,7,none⟩ ↑d.H2).setCell ⟨gb,8,none⟩ ↑(ZZ q2 d.nC r2)) bk cg v' s' B2 d q0 r0 q1 r1 q2 r2 f'/\jB w ((((((((((w').setCell ↑gb ↑d.W).setCell ⟨gb,1,none⟩ ↑d.H).setCell ⟨gb,2,none⟩ ↑(ZZ q0 d.nY r0)).setCell ⟨gb,3,none⟩ ↑d.W2).setCell ⟨gb,4,none⟩ ↑d.H2).setCell ⟨gb,5,none⟩ ↑(ZZ q1 d.nC r1)).setCell ⟨gb,6,none⟩ ↑d.W2).setCell ⟨gb,7,none⟩ ↑d.H2).setCell ⟨gb,8,none⟩ ↑(ZZ q2 d.nC r2)) fb res gb fv (V9 d q0 r0 q1 r1 q2 r2).toArray B vo hd:=by
 have off:∀ {X:Nat} {cs:Array Value},ZI wr X 58 cs->ZI w' X 58 cs:=fun hb=>hb.keep hm (h.eb.off hb ZU ZU ZU);have hz:=off hB.g_;have hp:=J5 hz ↑d.W ↑d.H ↑(ZZ q0 d.nY r0) ↑d.W2 ↑d.H2 ↑(ZZ q1 d.nC r1) ↑d.W2 ↑d.H2 ↑(ZZ q2 d.nC r2);refine⟨k.box hz ZU ZU ZU ZU hgb hp.2,(off hB.f_).keep hp.2 n1,(off hB.r_).keep hp.2 n2,hp.1,(hB.o_.bT h.eb hm).mod hp.2 (fun j e hj=>?_),(hB.mod.into hm (fun j e=>.inr ?_)).into hp.2 (fun j e=>.inr ?_)⟩
 ·have e2:j=gb:=hj;exact(hB.o_.bT h.eb hm).apart hz ZU (by rw [<-e2];exact e)
 ·rcases e with e|e|e
  ·have:=h.ng;omega
  ·have:=h.nb;omega
  ·have:=h.nv j e;omega
 ·have e2:j=gb:=e;omega
end
def ahc(wA w:World)(B2 bk cg fb res gb:Nat)(d:Yz)(fr Y7:Yy)(K:Bool)(Q:Int)(fv:Array Value)(B:Nat)(vo:Value)(hd:List UInt8)(nh:Nat)(v15:Value)(wr:World):Prop:=
 ∃(i X:Nat) (v:Value) (e0 j0 e1 j1 e2 j2:Nat),i<=nh/\X=16*i/\v15=↑X/\Aq wA wr bk cg v (Uv d fr Y7 K Q i (YC d 0,es0)).2 B2 d e0 j0 e1 j1 e2 j2 (Uv d fr Y7 K Q i (YC d 0,es0)).1/\jB w wr fb res gb fv (V9 d e0 j0 e1 j1 e2 j2).toArray B vo hd
def ajH(wA w:World)(B2 bk cg fb res gb:Nat)(d:Yz)(fr Y7:Yy)(K:Bool)(Q:Int)(fv:Array Value)(B:Nat)(vo:Value)(hd:List UInt8)(nw sy:Nat)(v16:Value)(wr:World):Prop:=
 ∃(j X:Nat) (v:Value) (e0 j0 e1 j1 e2 j2:Nat),j<=nw/\X=16*j/\v16=↑X/\Aq wA wr bk cg v (Nl d fr Y7 K Q sy j (Uv d fr Y7 K Q sy (YC d 0,es0))).2 B2 d e0 j0 e1 j1 e2 j2 (Nl d fr Y7 K Q sy j (Uv d fr Y7 K Q sy (YC d 0,es0))).1/\jB w wr fb res gb fv (V9 d e0 j0 e1 j1 e2 j2).toArray B vo hd
def adQ(w:World)(g:Nat)(G q tg nu:Nat)(d:Yz)(r:List UInt8 × Yy)(e:Ending)(w':World):Prop:=
 ∃v e0 j0 e1 j1 e2 j2,e=.returned (.tuple #[v,.agg (V9 d e0 j0 e1 j1 e2 j2).toArray,↑Z0])/\Bytes w' w.heap.size v r.1/\MX w' w.heap.size d e0 j0 e1 j1 e2 j2 r.2 /\
  ZI w' g 193 (Ta (d.W:Int) (d.H:Int) (G:Int) ((Gu q tg G r.1.length:Nat):Int) (tg:Int) ((Ip nu G:Nat):Int) (V9 d e0 j0 e1 j1 e2 j2))/\Mod (·=g) w w'
theorem yc(w:World)(d:Yz)(hd:d.Ok):Calls prog 104 #[↑d.W,↑d.H,.int .u8 0] w (I1 w d (YC d 0)):=agL w d hd 0
def cO(w:World)(d:Yz)(f:Yy)(v13 v14:Value)(wy:World):Prop:=
 v14=↑Z0/\∃gb e0 j0 e1 j1 e2 j2,v13=↑(ZC gb 0)/\ZI wy gb 58 (V9 d e0 j0 e1 j1 e2 j2).toArray/\MX wy w.heap.size d e0 j0 e1 j1 e2 j2 f/\w.heap.size<=gb/\Mod ↑ZW w wy
theorem aeU(d:Yz)(e0 j0 e1 j1 e2 j2:Nat):∀v∈V9 d e0 j0 e1 j1 e2 j2,v.oneCell'=true:=by
 intro v hv;simp only [V9,List.mem_cons,List.not_mem_nil,or_false]at hv;rcases hv with rfl|rfl|rfl|rfl|rfl|rfl|rfl|rfl|rfl<;>rfl
theorem MX.aeW{w:World}{B B':Nat}{d:Yz}{b0 k0 b1 k1 b2 k2:Nat}{f:Yy}(h:MX w B d b0 k0 b1 k1 b2 k2 f)(hB:B'<=B):MX w B' d b0 k0 b1 k1 b2 k2 f:=⟨h.y.down hB,h.u.down hB,h.v.down hB,h.ly,h.lu,h.lv⟩
theorem MX.below{S:Nat->Prop}{w w':World}{B:Nat}{d:Yz}{b0 k0 b1 k1 b2 k2:Nat}{f:Yy}(h:MX w B d b0 k0 b1 k1 b2 k2 f)(hm:Mod S w w')(hS:∀j,S j->j<B):MX w' B d b0 k0 b1 k1 b2 k2 f:=by
 have go:∀ {b n k:Nat} {l:List UInt8},Bytes w B ↑(ZZ b n k) l->Bytes w' B ↑(ZZ b n k) l:=fun hb=>hb.mod hm (fun g e hg=>by
  have:=hS g hg;have:=(World.ownsRow.lt hb g e).1;omega)
 exact⟨go h.y,go h.u,go h.v,h.ly,h.lu,h.lv⟩
end Go.Proofs.YthednemlahioeaaGreatDoor
