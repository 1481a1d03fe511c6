/-
  plane.Right, plane.Whole of anything.
-/
import Derived.Test.YtmkopcojnibhlaaGreatDoorP7
import Derived.Test.YtmkopcojnibhlaaGreatDoorP20
import Derived.Test.YtmkopcojnibhlaaGreatDoorP0
import Derived.Test.YtmkopcojnibhlaaGreatDoorP10
import Derived.Test.YtmkopcojnibhlaaGreatDoorP9
import Derived.Test.YtmkopcojnibhlaaGreatDoorP18
import Derived.Test.YtmkopcojnibhlaaGreatDoorP21
import Derived.Deep.DeepCutAuto
import Derived.BigQuiet
namespace Go.Proofs.YtmkopcojnibhlaaGreatDoor
open Go.RowKit
set_option maxRecDepth 100000
set_option maxHeartbeats 8000000
def sidesI (W H:Int):Bool:=decide (1 ≤ W ∧ W ≤ 4096 ∧ 1 ≤ H ∧ H ≤ 4096)
def rightI (W H:Int) (n:Nat):Bool:=sidesI W H && decide ((n:Int) = W * H)
theorem pSidesI (w:World) (W H:Int):Calls Tryz.prog 83 #[.int .i64 W,.int .i64 H] w fun e w'=>e = .returned (.bool (sidesI W H)) ∧ w = w':=by
 unfold sidesI
 by_cases h1:1 ≤ W
 ·have d1:decide (1 ≤ W) = true:=decide_eq_true h1
  by_cases h2:W ≤ 4096
  ·have d2:decide (W ≤ 4096) = true:=decide_eq_true h2
   by_cases h3:1 ≤ H
   ·have d3:decide (1 ≤ H) = true:=decide_eq_true h3
    by_cases h4:H ≤ 4096
    ·have d4:decide (H ≤ 4096) = true:=decide_eq_true h4
     rw [decide_eq_true (show 1 ≤ W ∧ W ≤ 4096 ∧ 1 ≤ H ∧ H ≤ 4096 from ⟨h1,h2,h3,h4⟩)]
     go_enter Tryz.func83,Tryz.ntmps83
     go_wp2_with fail
     go_ret
     exact ⟨rfl,rfl⟩
    ·have d4:decide (H ≤ 4096) = false:=decide_eq_false h4
     rw [decide_eq_false (show ¬ (1 ≤ W ∧ W ≤ 4096 ∧ 1 ≤ H ∧ H ≤ 4096) by omega)]
     go_enter Tryz.func83,Tryz.ntmps83
     go_wp2_with fail
     go_ret
     exact ⟨rfl,rfl⟩
   ·have d3:decide (1 ≤ H) = false:=decide_eq_false h3
    rw [decide_eq_false (show ¬ (1 ≤ W ∧ W ≤ 4096 ∧ 1 ≤ H ∧ H ≤ 4096) by omega)]
    go_enter Tryz.func83,Tryz.ntmps83
    go_wp2_with fail
    go_ret
    exact ⟨rfl,rfl⟩
  ·have d2:decide (W ≤ 4096) = false:=decide_eq_false h2
   rw [decide_eq_false (show ¬ (1 ≤ W ∧ W ≤ 4096 ∧ 1 ≤ H ∧ H ≤ 4096) by omega)]
   go_enter Tryz.func83,Tryz.ntmps83
   go_wp2_with fail
   go_ret
   exact ⟨rfl,rfl⟩
 ·have d1:decide (1 ≤ W) = false:=decide_eq_false h1
  rw [decide_eq_false (show ¬ (1 ≤ W ∧ W ≤ 4096 ∧ 1 ≤ H ∧ H ≤ 4096) by omega)]
  go_enter Tryz.func83,Tryz.ntmps83
  go_wp2_with fail
  go_ret
  exact ⟨rfl,rfl⟩
theorem sidesI_nat {W H:Int} (h:sidesI W H = true):∃ a b:Nat,W = (a:Int) ∧ H = (b:Int) ∧ sidesB a b = true:=by
 have:=of_decide_eq_true h
 exact ⟨W.toNat,H.toNat,by omega,by omega,decide_eq_true (by omega)⟩
theorem pRightI (w:World) (W H:Int) (A:Option Addr) (n c:Nat):Calls Tryz.prog 85 #[.agg #[.int .i64 W,.int .i64 H,.slice A n c]] w fun e w'=>e = .returned (.bool (rightI W H n)) ∧ Mod (fun _=>False) w w':=by
 by_cases hs:sidesI W H = true
 ·obtain ⟨a,b,rfl,rfl,hab⟩:=sidesI_nat hs
  have ha:=area_le hab
  obtain ⟨m,hm⟩:∃ m,m = a * b:=⟨_,rfl⟩
  rw [← hm] at ha
  have e1:wrap64 ((a:Int) * (b:Int)) = (m:Int):=by
   rw [show (a:Int) * (b:Int) = (m:Int) by rw [hm];simp]
   exact IntWalk.wrap64_in _ ⟨by omega,by omega⟩
  have HE:=Lib.hid e1
  have hS:=pSidesI (w.alloc (.cells #[.int .i64 (a:Int),.int .i64 (b:Int),.slice A n c] 38)) (a:Int) (b:Int)
  rw [hs] at hS
  have HS:=Lib.hid hS
  have hrr:rightI (a:Int) (b:Int) n = decide (n = m):=by
   unfold rightI
   rw [hs,Bool.true_and,show (a:Int) * (b:Int) = (m:Int) by rw [hm];simp]
   exact decide_eq_decide.2 (by omega)
  rw [hrr]
  clear hm e1 hS hs hab hrr
  by_cases hnm:n = m
  ·have d1:((n:Int) == (m:Int)) = true:=by simp;omega
   rw [decide_eq_true hnm]
   have HN:=Lib.hid hnm
   clear hnm
   go_enter Tryz.func85,Tryz.ntmps85
   go_wp2_with fail
   refine HS.out.mono ?_
   rintro e w1 ⟨rfl,rfl⟩
   have e1:=HE.out
   go_wp2_with fail
   go_ret
   exact ⟨by rw [e1] at *;simp [HN.out],(Mod.refl _ _).alloc _⟩
  ·have d1:((n:Int) == (m:Int)) = false:=by simp;omega
   rw [decide_eq_false hnm]
   go_enter Tryz.func85,Tryz.ntmps85
   go_wp2_with fail
   refine HS.out.mono ?_
   rintro e w1 ⟨rfl,rfl⟩
   have e1:=HE.out
   go_wp2_with fail
   go_ret
   exact ⟨rfl,(Mod.refl _ _).alloc _⟩
 ·have hs':sidesI W H = false:=by simpa using hs
  have hS:=pSidesI (w.alloc (.cells #[.int .i64 W,.int .i64 H,.slice A n c] 38)) W H
  rw [hs'] at hS
  have HS:=Lib.hid hS
  have hrr:rightI W H n = false:=by unfold rightI;rw [hs'];rfl
  rw [hrr]
  clear hS hs hs' hrr
  go_enter Tryz.func85,Tryz.ntmps85
  go_wp2_with fail
  refine HS.out.mono ?_
  rintro e w1 ⟨rfl,rfl⟩
  go_wp2_with fail
  go_ret
  exact ⟨rfl,(Mod.refl _ _).alloc _⟩
theorem pWhole_no0 (w:World) (W0 H0 W1 H1 W2 H2:Int) (A0 A1 A2:Option Addr) (n0 c0 n1 c1 n2 c2:Nat) (h0r:rightI W0 H0 n0 = false):Calls Tryz.prog 43 #[.agg #[.int .i64 W0,.int .i64 H0,.slice A0 n0 c0,.int .i64 W1,.int .i64 H1,.slice A1 n1 c1,.int .i64 W2,.int .i64 H2,.slice A2 n2 c2]] w fun e w'=>e = .returned (.bool false) ∧ Mod (fun _=>False) w w':=by
 have h0:=Lib.hid ((Sat.nil (fun _=>False) w).alloc 40 #[.int .i64 W0,.int .i64 H0,.slice A0 n0 c0,.int .i64 W1,.int .i64 H1,.slice A1 n1 c1,.int .i64 W2,.int .i64 H2,.slice A2 n2 c2] rfl)
 have R0:=fun w=>pRightI w W0 H0 A0 n0 c0
 have HT0:=Lib.hid h0r
 clear h0r
 go_enter Tryz.func43,Tryz.ntmps43
 go_wp2_with fail
 refine (R0 _).mono ?_
 rintro e w1 ⟨rfl,hm1⟩
 rw [HT0.out]
 have hs1:=Sat.after hm1 h0.out
 obtain ⟨pc1,pf1⟩:=(hs1.own_ 0 rfl).both
 have H1:=Lib.hid hs1
 clear hm1 hs1
 go_wp2_with fail
 go_ret
 exact ⟨rfl,H1.out.mod⟩
theorem pWhole_no1 (w:World) (W0 H0 W1 H1 W2 H2:Int) (A0 A1 A2:Option Addr) (n0 c0 n1 c1 n2 c2:Nat) (h0r:rightI W0 H0 n0 = true) (h1r:rightI W1 H1 n1 = false):Calls Tryz.prog 43 #[.agg #[.int .i64 W0,.int .i64 H0,.slice A0 n0 c0,.int .i64 W1,.int .i64 H1,.slice A1 n1 c1,.int .i64 W2,.int .i64 H2,.slice A2 n2 c2]] w fun e w'=>e = .returned (.bool false) ∧ Mod (fun _=>False) w w':=by
 have h0:=Lib.hid ((Sat.nil (fun _=>False) w).alloc 40 #[.int .i64 W0,.int .i64 H0,.slice A0 n0 c0,.int .i64 W1,.int .i64 H1,.slice A1 n1 c1,.int .i64 W2,.int .i64 H2,.slice A2 n2 c2] rfl)
 have R0:=fun w=>pRightI w W0 H0 A0 n0 c0
 have R1:=fun w=>pRightI w W1 H1 A1 n1 c1
 have HT0:=Lib.hid h0r
 have HT1:=Lib.hid h1r
 clear h0r h1r
 go_enter Tryz.func43,Tryz.ntmps43
 go_wp2_with fail
 refine (R0 _).mono ?_
 rintro e w1 ⟨rfl,hm1⟩
 rw [HT0.out]
 have hs1:=Sat.after hm1 h0.out
 obtain ⟨pc1,pf1⟩:=(hs1.own_ 0 rfl).both
 have H1:=Lib.hid hs1
 clear hm1 hs1
 go_wp2_with fail
 refine (R1 _).mono ?_
 rintro e w2 ⟨rfl,hm2⟩
 rw [HT1.out]
 have hs2:=H1.out.quiet hm2
 obtain ⟨pc2,pf2⟩:=(hs2.own_ 0 rfl).both
 have H2:=Lib.hid hs2
 clear hm2 hs2 pc1 pf1 H1
 go_wp2_with fail
 go_ret
 exact ⟨rfl,H2.out.mod⟩
theorem pWhole_no2 (w:World) (W0 H0 W1 H1 W2 H2:Int) (A0 A1 A2:Option Addr) (n0 c0 n1 c1 n2 c2:Nat) (h0r:rightI W0 H0 n0 = true) (h1r:rightI W1 H1 n1 = true) (h2r:rightI W2 H2 n2 = false):Calls Tryz.prog 43 #[.agg #[.int .i64 W0,.int .i64 H0,.slice A0 n0 c0,.int .i64 W1,.int .i64 H1,.slice A1 n1 c1,.int .i64 W2,.int .i64 H2,.slice A2 n2 c2]] w fun e w'=>e = .returned (.bool false) ∧ Mod (fun _=>False) w w':=by
 have h0:=Lib.hid ((Sat.nil (fun _=>False) w).alloc 40 #[.int .i64 W0,.int .i64 H0,.slice A0 n0 c0,.int .i64 W1,.int .i64 H1,.slice A1 n1 c1,.int .i64 W2,.int .i64 H2,.slice A2 n2 c2] rfl)
 have R0:=fun w=>pRightI w W0 H0 A0 n0 c0
 have R1:=fun w=>pRightI w W1 H1 A1 n1 c1
 have R2:=fun w=>pRightI w W2 H2 A2 n2 c2
 have HT0:=Lib.hid h0r
 have HT1:=Lib.hid h1r
 have HT2:=Lib.hid h2r
 clear h0r h1r h2r
 go_enter Tryz.func43,Tryz.ntmps43
 go_wp2_with fail
 refine (R0 _).mono ?_
 rintro e w1 ⟨rfl,hm1⟩
 rw [HT0.out]
 have hs1:=Sat.after hm1 h0.out
 obtain ⟨pc1,pf1⟩:=(hs1.own_ 0 rfl).both
 have H1:=Lib.hid hs1
 clear hm1 hs1
 go_wp2_with fail
 refine (R1 _).mono ?_
 rintro e w2 ⟨rfl,hm2⟩
 rw [HT1.out]
 have hs2:=H1.out.quiet hm2
 obtain ⟨pc2,pf2⟩:=(hs2.own_ 0 rfl).both
 have H2:=Lib.hid hs2
 clear hm2 hs2 pc1 pf1 H1
 go_wp2_with fail
 refine (R2 _).mono ?_
 rintro e w3 ⟨rfl,hm3⟩
 rw [HT2.out]
 have hs3:=H2.out.quiet hm3
 obtain ⟨pc3,pf3⟩:=(hs3.own_ 0 rfl).both
 have H3:=Lib.hid hs3
 clear hm3 hs3 pc2 pf2 H2
 go_wp2_with fail
 go_ret
 exact ⟨rfl,H3.out.mod⟩
def wholeI (W0 H0:Int) (n0:Nat) (W1 H1:Int) (n1:Nat) (W2 H2:Int) (n2:Nat):Bool:=decide (rightI W0 H0 n0 = true ∧ rightI W1 H1 n1 = true ∧ rightI W2 H2 n2 = true ∧ W0 % 16 = 0 ∧ H0 % 16 = 0 ∧ W1 = W0 / 2 ∧ H1 = H0 / 2 ∧ W2 = W0 / 2 ∧ H2 = H0 / 2)
theorem pWhole_all (w : World) (x0 y0 x1 y1 x2 y2 : Nat) (hx0 : x0 ≤ 4096) (hy0 : y0 ≤ 4096) (A0 A1 A2 : Option Addr) (n0 c0 n1 c1 n2 c2 : Nat) (h0r : rightI (x0 : Int) (y0 : Int) n0 = true) (h1r : rightI (x1 : Int) (y1 : Int) n1 = true) (h2r : rightI (x2 : Int) (y2 : Int) n2 = true) :
    Calls Tryz.prog 43 #[.agg #[.int .i64 (x0 : Int), .int .i64 (y0 : Int), .slice A0 n0 c0, .int .i64 (x1 : Int), .int .i64 (y1 : Int), .slice A1 n1 c1, .int .i64 (x2 : Int), .int .i64 (y2 : Int), .slice A2 n2 c2]] w fun e w' => e = .returned (.bool (decide (x0 % 16 = 0 ∧ y0 % 16 = 0 ∧ x1 = x0 / 2 ∧ y1 = y0 / 2 ∧ x2 = x0 / 2 ∧ y2 = y0 / 2))) ∧ Mod (fun _ => False) w w' := by
  obtain ⟨p, hp⟩ : ∃ p, p = x0 / 2 := ⟨_, rfl⟩
  obtain ⟨q, hq⟩ : ∃ q, q = y0 / 2 := ⟨_, rfl⟩
  rw [← hp, ← hq]
  have v1 : (x0 : Int) / 2 = (p : Int) := by omega
  have v2 : (y0 : Int) / 2 = (q : Int) := by omega
  obtain ⟨B, hB⟩ : ∃ B, B = decide (x0 % 16 = 0 ∧ y0 % 16 = 0 ∧ x1 = p ∧ y1 = q ∧ x2 = p ∧ y2 = q) := ⟨_, rfl⟩
  rw [← hB]
  have HB := Lib.hid hB
  have HV := Lib.hid (And.intro v1 v2)
  clear hB v1 v2 hp hq
  have h0 := Lib.hid ((Sat.nil (fun _ => False) w).alloc 40 #[.int .i64 (x0 : Int), .int .i64 (y0 : Int), .slice A0 n0 c0, .int .i64 (x1 : Int), .int .i64 (y1 : Int), .slice A1 n1 c1, .int .i64 (x2 : Int), .int .i64 (y2 : Int), .slice A2 n2 c2] rfl)
  have R0 := fun w => pRightI w (x0 : Int) (y0 : Int) A0 n0 c0
  have R1 := fun w => pRightI w (x1 : Int) (y1 : Int) A1 n1 c1
  have R2 := fun w => pRightI w (x2 : Int) (y2 : Int) A2 n2 c2
  have HT0 := Lib.hid h0r
  have HT1 := Lib.hid h1r
  have HT2 := Lib.hid h2r
  clear h0r h1r h2r
  go_enter Tryz.func43, Tryz.ntmps43
  go_wp2_with fail
  refine (R0 _).mono ?_
  rintro e w1 ⟨rfl, hm1⟩
  rw [HT0.out]
  have hs1 := Sat.after hm1 h0.out
  obtain ⟨pc1, pf1⟩ := (hs1.own_ 0 rfl).both
  have H1 := Lib.hid hs1
  clear hm1 hs1
  go_wp2_with fail
  refine (R1 _).mono ?_
  rintro e w2 ⟨rfl, hm2⟩
  rw [HT1.out]
  have hs2 := H1.out.quiet hm2
  obtain ⟨pc2, pf2⟩ := (hs2.own_ 0 rfl).both
  have H2 := Lib.hid hs2
  clear hm2 hs2 pc1 pf1 H1
  go_wp2_with fail
  refine (R2 _).mono ?_
  rintro e w3 ⟨rfl, hm3⟩
  rw [HT2.out]
  have hs3 := H2.out.quiet hm3
  obtain ⟨pc3, pf3⟩ := (hs3.own_ 0 rfl).both
  have H3 := Lib.hid hs3
  clear hm3 hs3 pc2 pf2 H2
  obtain ⟨v1, v2⟩ := HV.out
  go_wp2_with fail
  all_goals
    go_ret
    refine ⟨congrArg (fun z => Ending.returned (.bool z)) ?_, H3.out.mod⟩
    rw [HB.out]
    first
    | exact (decide_eq_true (by omega)).symm
    | exact (decide_eq_false (by omega)).symm
    | (by_cases hz : y2 = q
       · rw [decide_eq_true (by omega), hz]
         simp
       · rw [decide_eq_false (by omega)]
         simp
         omega)
theorem pWholeI (w:World) (W0 H0 W1 H1 W2 H2:Int) (A0 A1 A2:Option Addr) (n0 c0 n1 c1 n2 c2:Nat):Calls Tryz.prog 43 #[.agg #[.int .i64 W0,.int .i64 H0,.slice A0 n0 c0,.int .i64 W1,.int .i64 H1,.slice A1 n1 c1,.int .i64 W2,.int .i64 H2,.slice A2 n2 c2]] w fun e w'=>e = .returned (.bool (wholeI W0 H0 n0 W1 H1 n1 W2 H2 n2)) ∧ Mod (fun _=>False) w w':=by
 unfold wholeI
 by_cases r0:rightI W0 H0 n0 = true
 ·by_cases r1:rightI W1 H1 n1 = true
  ·by_cases r2:rightI W2 H2 n2 = true
   ·have hs0:=r0
    have hs1:=r1
    have hs2:=r2
    unfold rightI at hs0 hs1 hs2
    rw [Bool.and_eq_true] at hs0 hs1 hs2
    obtain ⟨x0,y0,rfl,rfl,hab0⟩:=sidesI_nat hs0.1
    obtain ⟨x1,y1,rfl,rfl,hab1⟩:=sidesI_nat hs1.1
    obtain ⟨x2,y2,rfl,rfl,hab2⟩:=sidesI_nat hs2.1
    obtain ⟨_,_,a1,_,a2,_⟩:=area_le hab0
    have hE:decide (rightI (x0:Int) (y0:Int) n0 = true ∧ rightI (x1:Int) (y1:Int) n1 = true ∧ rightI (x2:Int) (y2:Int) n2 = true ∧ (x0:Int) % 16 = 0 ∧ (y0:Int) % 16 = 0 ∧ (x1:Int) = (x0:Int) / 2 ∧ (y1:Int) = (y0:Int) / 2 ∧ (x2:Int) = (x0:Int) / 2 ∧ (y2:Int) = (y0:Int) / 2) = decide (x0 % 16 = 0 ∧ y0 % 16 = 0 ∧ x1 = x0 / 2 ∧ y1 = y0 / 2 ∧ x2 = x0 / 2 ∧ y2 = y0 / 2):=by
     apply decide_eq_decide.2
     constructor
     ·rintro ⟨_,_,_,h1,h2,h3,h4,h5,h6⟩
      omega
     ·rintro ⟨h1,h2,h3,h4,h5,h6⟩
      exact ⟨r0,r1,r2,by omega,by omega,by omega,by omega,by omega,by omega⟩
    rw [hE]
    exact pWhole_all w x0 y0 x1 y1 x2 y2 a1 a2 A0 A1 A2 n0 c0 n1 c1 n2 c2 r0 r1 r2
   ·rw [decide_eq_false (fun h=>r2 h.2.2.1)]
    exact pWhole_no2 w W0 H0 W1 H1 W2 H2 A0 A1 A2 n0 c0 n1 c1 n2 c2 r0 r1 (by simpa using r2)
  ·rw [decide_eq_false (fun h=>r1 h.2.1)]
   exact pWhole_no1 w W0 H0 W1 H1 W2 H2 A0 A1 A2 n0 c0 n1 c1 n2 c2 r0 (by simpa using r1)
 ·rw [decide_eq_false (fun h=>r0 h.1)]
  exact pWhole_no0 w W0 H0 W1 H1 W2 H2 A0 A1 A2 n0 c0 n1 c1 n2 c2 (by simpa using r0)
def NoFr (er:Int):Ending:=.returned (.tuple #[.slice none 0 0,.agg noFrame.toArray,.int .i64 er])
theorem encFrame_bad (w:World) (g:Nat) (W H G q tg nu:Int) (al:List Value) (hx:Blk w g 92 (encV W H G q tg nu al)) (X0 Y0 X1 Y1 X2 Y2:Int) (A0 A1 A2:Option Addr) (n0 c0 n1 c1 n2 c2:Nat)
  (hbad:(wholeI X0 Y0 n0 X1 Y1 n1 X2 Y2 n2 && (decide (X0 = W) && decide (Y0 = H))) = false) :
  Calls Tryz.prog 16 #[.pointer (some ⟨g,0,none⟩),.agg #[.int .i64 X0,.int .i64 Y0,.slice A0 n0 c0,.int .i64 X1,.int .i64 Y1,.slice A1 n1 c1,.int .i64 X2,.int .i64 Y2,.slice A2 n2 c2]] w fun e w'=>e = NoFr 61 ∧ Mod (fun _=>False) w w':=by
 have hcase:wholeI X0 Y0 n0 X1 Y1 n1 X2 Y2 n2 = false ∨ (wholeI X0 Y0 n0 X1 Y1 n1 X2 Y2 n2 = true ∧ X0 ≠ W) ∨ (wholeI X0 Y0 n0 X1 Y1 n1 X2 Y2 n2 = true ∧ X0 = W ∧ Y0 ≠ H):=by
  cases hw:wholeI X0 Y0 n0 X1 Y1 n1 X2 Y2 n2 with
  | false=>exact .inl rfl
  | true=>
   rw [hw] at hbad
   simp only [Bool.true_and,Bool.and_eq_false_iff,decide_eq_false_iff_not] at hbad
   by_cases e:X0 = W
   ·rcases hbad with h | h
    ·exact absurd e h
    ·exact .inr (.inr ⟨rfl,e,h⟩)
   ·exact .inr (.inl ⟨rfl,e⟩)
 clear hbad
 obtain ⟨b,hb⟩:∃ b,b = wholeI X0 Y0 n0 X1 Y1 n1 X2 Y2 n2:=⟨_,rfl⟩
 rw [← hb] at hcase
 have h0:=(((Sat.nil (fun _=>False) w).alloc 40 #[.int .i64 X0,.int .i64 Y0,.slice A0 n0 c0,.int .i64 X1,.int .i64 Y1,.slice A1 n1 c1,.int .i64 X2,.int .i64 Y2,.slice A2 n2 c2] rfl).alloc (g:=w.heap.size + 1) 40 #[.int .i64 0,.int .i64 0,.slice none 0 0,.int .i64 0,.int .i64 0,.slice none 0 0,.int .i64 0,.int .i64 0,.slice none 0 0] (by simp)).alloc (g:=w.heap.size + 2) 23 #[.int .i64 W,.int .i64 H,.int .i64 G] (by simp)
 obtain ⟨bc,bf⟩:=hx.both
 have hxl:=hx.lt
 have x0:w.cell? ⟨g,0,none⟩ = some (.int .i64 W):=bc 0
 have x1:w.cell? ⟨g,1,none⟩ = some (.int .i64 H):=bc 1
 have x2:w.cell? ⟨g,2,none⟩ = some (.int .i64 G):=bc 2
 have HB:=Lib.hid hb
 have HS0:=Lib.hid h0
 clear hb h0 hx bc bf
 go_enter Tryz.func16,Tryz.ntmps16
 go_upto_region 4 with (fail)
 have hS1:=HS0.out
 generalize (((w.alloc (.cells #[.int .i64 X0,.int .i64 Y0,.slice A0 n0 c0,.int .i64 X1,.int .i64 Y1,.slice A1 n1 c1,.int .i64 X2,.int .i64 Y2,.slice A2 n2 c2] 40)).alloc (.cells #[.int .i64 0,.int .i64 0,.slice none 0 0,.int .i64 0,.int .i64 0,.slice none 0 0,.int .i64 0,.int .i64 0,.slice none 0 0] 40)).alloc (.cells #[.int .i64 W,.int .i64 H,.int .i64 G] 23)) = w1 at hS1 ⊢
 have hq:=hS1.own_ 2 rfl
 dsimp only at hq
 obtain ⟨f0,ff⟩:=hq.both
 have fl:=hq.lt
 clear x0 x1 x2 hq
 have HS1:=Lib.hid hS1
 clear hS1 HS0
 go_wp2_with fail
 refine (pWholeI _ X0 Y0 X1 Y1 X2 Y2 A0 A1 A2 n0 c0 n1 c1 n2 c2).mono ?_
 rintro e w2 ⟨rfl,hm2⟩
 rw [← HB.out]
 have hS2:=Sat.after hm2 HS1.out
 clear f0 ff fl hm2 HS1
 have hq:=hS2.own_ 2 rfl
 dsimp only at hq
 obtain ⟨f0,ff⟩:=hq.both
 have fl:=hq.lt
 have hq0:=hS2.own_ 0 rfl
 dsimp only at hq0
 obtain ⟨s0,sf⟩:=hq0.both
 have sl:=hq0.lt
 have hq1:=hS2.own_ 1 rfl
 dsimp only at hq1
 obtain ⟨z0,zf⟩:=hq1.both
 have zl:=hq1.lt
 have fw:w2.cell? ⟨w.heap.size,0,none⟩ = some (.int .i64 X0):=f0 0
 have fh:w2.cell? ⟨w.heap.size,1,none⟩ = some (.int .i64 Y0):=f0 1
 have sw:w2.cell? ⟨w.heap.size + 1 + 1,0,none⟩ = some (.int .i64 W):=s0 0
 have sh:w2.cell? ⟨w.heap.size + 1 + 1,1,none⟩ = some (.int .i64 H):=s0 1
 have sl':w.heap.size + 1 + 1 < w2.heap.size:=sl
 have sf':∀ i,w2.frozen? ⟨w.heap.size + 1 + 1,i,none⟩ = false:=sf
 have zl':w.heap.size + 1 < w2.heap.size:=zl
 have HS2:=Lib.hid (And.intro hS2 hq1)
 clear hS2 f0 s0 sl sf zl hq hq0 hq1
 rcases hcase with rfl | ⟨rfl,h1⟩ | ⟨rfl,h1,h2⟩
 ·go_wp2_with fail
  have h9:=fr_lay9 HS2.out.2 (.int .i64 0) (.int .i64 0) (.slice none 0 0) (.int .i64 0) (.int .i64 0) (.slice none 0 0) (.int .i64 0) (.int .i64 0) (.slice none 0 0)
  refine bodyPost_ret (v:=.tuple #[.slice none 0 0,.agg noFrame.toArray,.int .i64 61]) (by simp [results,Tryz.results16,go_sem,z0,noFrame]) rfl ⟨rfl,HS2.out.1.mod.into h9.2 (fun i e=>.inr (by omega))⟩
 ·have t1:(X0 != W) = true:=by simpa using h1
  have HH:=Lib.hid h1
  clear h1
  go_wp2_with fail
  have h9:=fr_lay9 HS2.out.2 (.int .i64 0) (.int .i64 0) (.slice none 0 0) (.int .i64 0) (.int .i64 0) (.slice none 0 0) (.int .i64 0) (.int .i64 0) (.slice none 0 0)
  refine bodyPost_ret (v:=.tuple #[.slice none 0 0,.agg noFrame.toArray,.int .i64 61]) (by simp [results,Tryz.results16,go_sem,z0,noFrame]) rfl ⟨rfl,HS2.out.1.mod.into h9.2 (fun i e=>.inr (by omega))⟩
 ·have t1:(X0 != W) = false:=by simpa using h1
  have t2:(Y0 != H) = true:=by simpa using h2
  have HH:=Lib.hid (And.intro h1 h2)
  clear h1 h2
  go_wp2_with fail
  have h9:=fr_lay9 HS2.out.2 (.int .i64 0) (.int .i64 0) (.slice none 0 0) (.int .i64 0) (.int .i64 0) (.slice none 0 0) (.int .i64 0) (.int .i64 0) (.slice none 0 0)
  refine bodyPost_ret (v:=.tuple #[.slice none 0 0,.agg noFrame.toArray,.int .i64 61]) (by simp [results,Tryz.results16,go_sem,z0,noFrame]) rfl ⟨rfl,HS2.out.1.mod.into h9.2 (fun i e=>.inr (by omega))⟩
structure FrX where
 W0:Int
 H0:Int
 A0:Option Addr
 n0:Nat
 c0:Nat
 W1:Int
 H1:Int
 A1:Option Addr
 n1:Nat
 c1:Nat
 W2:Int
 H2:Int
 A2:Option Addr
 n2:Nat
 c2:Nat
 p0:List UInt8
 p1:List UInt8
 p2:List UInt8
def FrX.cells (f:FrX):List Value:=[.int .i64 f.W0,.int .i64 f.H0,.slice f.A0 f.n0 f.c0,.int .i64 f.W1,.int .i64 f.H1,.slice f.A1 f.n1 f.c1,.int .i64 f.W2,.int .i64 f.H2,.slice f.A2 f.n2 f.c2]
def FrX.zero:FrX:=⟨0,0,none,0,0,0,0,none,0,0,0,0,none,0,0,[],[],[]⟩
structure FrX.In (f:FrX) (w:World):Prop where
 b0:BytesIn w f.A0 f.n0 f.c0 f.p0
 b1:BytesIn w f.A1 f.n1 f.c1 f.p1
 b2:BytesIn w f.A2 f.n2 f.c2 f.p2
 k0:f.n0 ≤ f.c0
 k1:f.n1 ≤ f.c1
 k2:f.n2 ≤ f.c2
 m0:f.n0 ≤ 9223372036854775807
 m1:f.n1 ≤ 9223372036854775807
 m2:f.n2 ≤ 9223372036854775807
theorem FrX.In.quiet {f:FrX} {w w':World} (h:f.In w) (hm:Mod (fun _=>False) w w'):f.In w':=⟨h.b0.quiet hm,h.b1.quiet hm,h.b2.quiet hm,h.k0,h.k1,h.k2,h.m0,h.m1,h.m2⟩
theorem bytes_none (w:World):BytesIn w none 0 0 []:=⟨rfl,fun _=>rfl,Src.nil,fun h=>absurd h (by omega)⟩
structure FrsIn (w:World) (A:Option Addr) (n:Nat) (fs:List FrX):Prop where
 len:fs.length = n
 at_:∀ i,i < n → ∃ b o,A = some ⟨b,o,none⟩ ∧ b < w.heap.size ∧ (∀ (j:Nat) (v:Value),(fs.getD i FrX.zero).cells[j]? = some v → w.cell? ⟨b,o + i * 9 + j,none⟩ = some v) ∧ (fs.getD i FrX.zero).In w
theorem FrsIn.quiet {w w':World} {A:Option Addr} {n:Nat} {fs:List FrX} (h:FrsIn w A n fs) (hm:Mod (fun _=>False) w w'):FrsIn w' A n fs:=
 ⟨h.len,fun i hi=>by
  obtain ⟨b,o,h1,h2,h3,h4⟩:=h.at_ i hi
  exact ⟨b,o,h1,Nat.lt_of_lt_of_le h2 hm.size,fun j v hv=>(World.cell?_of_block (hm.block b h2 (fun h=>h))).trans (h3 j v hv),h4.quiet hm⟩⟩
def FrX.fitsB (f:FrX):Bool:=decide (f.n0 ≤ 10000 ∧ f.n1 ≤ 10000 ∧ f.n2 ≤ 10000)
theorem lawFits (w:World) (W H:Int) (A:Option Addr) (n c:Nat) (hn:n ≤ 9223372036854775807):Calls Tryz.prog 62 #[.agg #[.int .i64 W,.int .i64 H,.slice A n c]] w fun e w'=>e = .returned (.bool (decide (n ≤ 10000))) ∧ Mod (fun _=>False) w w':=by
 have HM:=Lib.hid (((Mod.refl (fun _=>False) w).alloc (.cells #[.int .i64 W,.int .i64 H,.slice A n c] 38)))
 by_cases h:n ≤ 10000
 ·have d:decide ((n:Int) ≤ 10000) = true:=decide_eq_true (by omega)
  have e:decide (n ≤ 10000) = true:=decide_eq_true h
  go_enter Tryz.func62,Tryz.ntmps62
  go_wp2_with fail
  go_ret
  exact ⟨by rw [e];rfl,HM.out⟩
 ·have d:decide ((n:Int) ≤ 10000) = false:=decide_eq_false (by omega)
  have e:decide (n ≤ 10000) = false:=decide_eq_false h
  go_enter Tryz.func62,Tryz.ntmps62
  go_wp2_with fail
  go_ret
  exact ⟨by rw [e];rfl,HM.out⟩
theorem lawFitsFrame (w:World) (f:FrX) (h:f.In w):Calls Tryz.prog 21 #[.agg f.cells.toArray] w fun e w'=>e = .returned (.bool f.fitsB) ∧ Mod (fun _=>False) w w':=by
 obtain ⟨W0,H0,A0,n0,c0,W1,H1,A1,n1,c1,W2,H2,A2,n2,c2,p0,p1,p2⟩:=f
 have hs:=(Sat.nil (fun _=>False) w).alloc 40 #[.int .i64 W0,.int .i64 H0,.slice A0 n0 c0,.int .i64 W1,.int .i64 H1,.slice A1 n1 c1,.int .i64 W2,.int .i64 H2,.slice A2 n2 c2] rfl
 have K0:=fun w=>lawFits w W0 H0 A0 n0 c0 h.m0
 have K1:=fun w=>lawFits w W1 H1 A1 n1 c1 h.m1
 have K2:=fun w=>lawFits w W2 H2 A2 n2 c2 h.m2
 obtain ⟨t0,ht0⟩:∃ t,t = decide (n0 ≤ 10000):=⟨_,rfl⟩
 obtain ⟨t1,ht1⟩:∃ t,t = decide (n1 ≤ 10000):=⟨_,rfl⟩
 obtain ⟨t2,ht2⟩:∃ t,t = decide (n2 ≤ 10000):=⟨_,rfl⟩
 have hF:FrX.fitsB ⟨W0,H0,A0,n0,c0,W1,H1,A1,n1,c1,W2,H2,A2,n2,c2,p0,p1,p2⟩ = (t0 && (t1 && t2)):=by
  unfold FrX.fitsB
  dsimp only
  rw [ht0,ht1,ht2,Bool.eq_iff_iff]
  simp
 rw [hF]
 rw [← ht0] at K0
 rw [← ht1] at K1
 rw [← ht2] at K2
 unfold FrX.cells
 dsimp only
 have HS:=Lib.hid hs
 have HK:=Lib.hid (And.intro K0 (And.intro K1 K2))
 clear hs K0 K1 K2 ht0 ht1 ht2 hF h
 go_enter Tryz.func21,Tryz.ntmps21
 go_wp2_with fail
 refine (HK.out.1 _).mono ?_
 rintro e w1 ⟨rfl,hm1⟩
 have hs1:=Sat.after hm1 HS.out
 obtain ⟨pc,pf⟩:=(hs1.own_ 0 rfl).both
 have H1:=Lib.hid hs1
 clear hm1 hs1
 go_wp2_with fail
 refine (HK.out.2.1 _).mono ?_
 rintro e w2 ⟨rfl,hm2⟩
 have hs2:=H1.out.quiet hm2
 obtain ⟨pc2,pf2⟩:=(hs2.own_ 0 rfl).both
 have H2:=Lib.hid hs2
 clear hm2 hs2 pc pf H1
 go_wp2_with fail
 refine (HK.out.2.2 _).mono ?_
 rintro e w3 ⟨rfl,hm3⟩
 have H3:=Lib.hid (H2.out.mod.trans hm3)
 clear hm3 pc2 pf2 H2
 cases t0 <;> cases t1 <;> cases t2
 all_goals
  go_wp2_with fail
  go_ret
  exact ⟨rfl,H3.out⟩
theorem fr_put9 {w:World} {p:Nat} {x0 x1 x2 x3 x4 x5 x6 x7 x8:Value} (h:Blk w p 40 #[x0,x1,x2,x3,x4,x5,x6,x7,x8]) (a b c d e f g i j:Value) :
  Blk (((((((((w.setCell ⟨p,0,none⟩ a).setCell ⟨p,1,none⟩ b).setCell ⟨p,2,none⟩ c).setCell ⟨p,3,none⟩ d).setCell ⟨p,4,none⟩ e).setCell ⟨p,5,none⟩ f).setCell ⟨p,6,none⟩ g).setCell ⟨p,7,none⟩ i).setCell ⟨p,8,none⟩ j) p 40 #[a,b,c,d,e,f,g,i,j] ∧
  Mod (· = p) w (((((((((w.setCell ⟨p,0,none⟩ a).setCell ⟨p,1,none⟩ b).setCell ⟨p,2,none⟩ c).setCell ⟨p,3,none⟩ d).setCell ⟨p,4,none⟩ e).setCell ⟨p,5,none⟩ f).setCell ⟨p,6,none⟩ g).setCell ⟨p,7,none⟩ i).setCell ⟨p,8,none⟩ j):=by
 refine ⟨?_,(((((((((Mod.refl (· = p) w).setCell (.inl rfl) a).setCell (.inl rfl) b).setCell (.inl rfl) c).setCell (.inl rfl) d).setCell (.inl rfl) e).setCell (.inl rfl) f).setCell (.inl rfl) g).setCell (.inl rfl) i).setCell (.inl rfl) j⟩
 have z:=((((((((h.set_ 0 a).set_ 1 b).set_ 2 c).set_ 3 d).set_ 4 e).set_ 5 f).set_ 6 g).set_ 7 i).set_ 8 j
 rwa [show (((((((((#[x0,x1,x2,x3,x4,x5,x6,x7,x8].setIfInBounds 0 a).setIfInBounds 1 b).setIfInBounds 2 c).setIfInBounds 3 d).setIfInBounds 4 e).setIfInBounds 5 f).setIfInBounds 6 g).setIfInBounds 7 i).setIfInBounds 8 j) = #[a,b,c,d,e,f,g,i,j] by simp] at z
def noPix:Pix:=⟨[],[],[]⟩
def mkDim (W H:Int):Dim:=⟨W.toNat,H.toNat,W.toNat / 2,H.toNat / 2,W.toNat * H.toNat,W.toNat / 2 * (H.toNat / 2)⟩
theorem mkDim_ok {W H G:Int} (h:seqRight W H G = true):(mkDim W H).Ok ∧ ((mkDim W H).W:Int) = W ∧ ((mkDim W H).H:Int) = H:=by
 unfold seqRight at h
 rw [decide_eq_true_eq] at h
 refine ⟨⟨?_,?_,?_,?_,?_,rfl,rfl⟩,?_,?_⟩
 ·unfold sidesB
  rw [decide_eq_true_eq]
  simp only [mkDim]
  omega
 all_goals (simp only [mkDim];omega)
def FrX.goodB (f:FrX) (d:Dim):Bool:=wholeI f.W0 f.H0 f.n0 f.W1 f.H1 f.n1 f.W2 f.H2 f.n2 && (decide (f.W0 = (d.W:Int)) && decide (f.H0 = (d.H:Int)))
def FrX.pix (f:FrX):Pix:=⟨f.p0,f.p1,f.p2⟩
theorem FrX.good {f:FrX} {d:Dim} (hd:d.Ok) (h:f.goodB d = true):f.cells = flV d f.A0 f.A1 f.A2 f.c0 f.c1 f.c2 ∧ f.n0 = d.nY ∧ f.n1 = d.nC ∧ f.n2 = d.nC:=by
 obtain ⟨X0,Y0,A0,n0,c0,X1,Y1,A1,n1,c1,X2,Y2,A2,n2,c2,p0,p1,p2⟩:=f
 unfold FrX.goodB at h
 dsimp only at h
 simp only [Bool.and_eq_true,decide_eq_true_eq] at h
 obtain ⟨hw,rfl,rfl⟩:=h
 unfold wholeI at hw
 rw [decide_eq_true_eq] at hw
 obtain ⟨r0,r1,r2,_,_,e1,e2,e3,e4⟩:=hw
 unfold rightI at r0 r1 r2
 simp only [Bool.and_eq_true,decide_eq_true_eq] at r0 r1 r2
 have a1:=hd.w2
 have a2:=hd.h2
 have f1:X1 = (d.W2:Int):=by omega
 have f2:Y1 = (d.H2:Int):=by omega
 have f3:X2 = (d.W2:Int):=by omega
 have f4:Y2 = (d.H2:Int):=by omega
 subst f1 f2 f3 f4
 have g0:n0 = d.nY:=by have:=r0.2;rw [hd.ny];have z:((d.W * d.H:Nat):Int) = (d.W:Int) * (d.H:Int):=Int.natCast_mul _ _;omega
 have g1:n1 = d.nC:=by have:=r1.2;rw [hd.nc];have z:((d.W2 * d.H2:Nat):Int) = (d.W2:Int) * (d.H2:Int):=Int.natCast_mul _ _;omega
 have g2:n2 = d.nC:=by have:=r2.2;rw [hd.nc];have z:((d.W2 * d.H2:Nat):Int) = (d.W2:Int) * (d.H2:Int):=Int.natCast_mul _ _;omega
 subst g0 g1
 refine ⟨?_,rfl,rfl,g2⟩
 unfold FrX.cells flV
 dsimp only
 rw [g2]
theorem FrX.frIn {f:FrX} {d:Dim} {w:World} (hd:d.Ok) (h:f.goodB d = true) (hin:f.In w):FrIn w d (flV d f.A0 f.A1 f.A2 f.c0 f.c1 f.c2) f.pix:=by
 obtain ⟨_,h0,h1,h2⟩:=FrX.good hd h
 refine ⟨rfl,fun p hp=>?_⟩
 have h3:p = 0 ∨ p = 1 ∨ p = 2:=by omega
 have b0:=hin.b0
 have b1:=hin.b1
 have b2:=hin.b2
 have k0:=hin.k0
 have k1:=hin.k1
 have k2:=hin.k2
 rw [h0] at b0 k0
 rw [h1] at b1 k1
 rw [h2] at b2 k2
 rcases h3 with rfl | rfl | rfl
 ·exact ⟨_,_,rfl,rfl,rfl,b0,k0⟩
 ·exact ⟨_,_,rfl,rfl,rfl,b1,k1⟩
 ·exact ⟨_,_,rfl,rfl,rfl,b2,k2⟩
def EncAt (w:World) (g:Nat) (d:Dim) (G q tg nu:Nat) (ahd:Pix):Prop:=
 ∃ al,Blk w g 92 (encV (d.W:Int) (d.H:Int) (G:Int) (q:Int) (tg:Int) (nu:Int) al) ∧ ((al = zeroFr ∧ nu = 0) ∨ ∃ ay au av,al = frameV d ay au av ∧ (nu ≠ 0 → FrameAt w d ay au av ahd))
theorem EncAt.mod {w w':World} {S:Nat → Prop} {g:Nat} {d:Dim} {G q tg nu:Nat} {ahd:Pix} (h:EncAt w g d G q tg nu ahd) (hm:Mod S w w') (hg:¬ S g) (hS:∀ j,S j → ∃ t cs,Blk w j t cs ∧ t ≠ 5):EncAt w' g d G q tg nu ahd:=by
 obtain ⟨al,hb,hc⟩:=h
 refine ⟨al,hb.keep hm hg,?_⟩
 rcases hc with hc | ⟨ay,au,av,rfl,hf⟩
 ·exact .inl hc
 ·have ne:∀ {j cs},Blk w j 5 cs → ¬ S j:=fun hb hj=>by
   obtain ⟨t,cs,hb2,ht⟩:=hS _ hj
   exact hb2.ne_ hb ht rfl
  exact .inr ⟨ay,au,av,rfl,fun hn=>(hf hn).mod hm (ne (hf hn).by_) (ne (hf hn).bu) (ne (hf hn).bv)⟩
theorem EncAt.quiet {w w':World} {g:Nat} {d:Dim} {G q tg nu:Nat} {ahd:Pix} (h:EncAt w g d G q tg nu ahd) (hm:Mod (fun _=>False) w w'):EncAt w' g d G q tg nu ahd:=h.mod hm (fun h=>h) (fun _ h=>h.elim)
theorem EncAt.lt {w:World} {g:Nat} {d:Dim} {G q tg nu:Nat} {ahd:Pix} (h:EncAt w g d G q tg nu ahd):g < w.heap.size:=by
 obtain ⟨al,hb,_⟩:=h
 exact hb.lt
theorem EncAt.q {w:World} {g:Nat} {d:Dim} {G q tg nu:Nat} {ahd:Pix} (h:EncAt w g d G q tg nu ahd):Calls Tryz.prog 19 #[.pointer (some ⟨g,0,none⟩)] w fun e w'=>e = .returned (.int .i64 (q:Int)) ∧ w = w':=by
 obtain ⟨al,hb,_⟩:=h
 exact encQ w g _ _ _ _ _ _ _ hb
theorem EncAt.number {w:World} {g:Nat} {d:Dim} {G q tg nu:Nat} {ahd:Pix} (h:EncAt w g d G q tg nu ahd):Calls Tryz.prog 20 #[.pointer (some ⟨g,0,none⟩)] w fun e w'=>e = .returned (.int .i64 (nu:Int)) ∧ w = w':=by
 obtain ⟨al,hb,_⟩:=h
 exact encNumber w g _ _ _ _ _ _ _ hb
def EncPost (w:World) (g:Nat) (d:Dim) (G q tg nu:Nat) (ahd:Pix) (f:FrX) (e:Ending) (w':World):Prop:=
 (f.goodB d = false ∧ e = NoFr 61 ∧ Mod (fun _=>False) w w') ∨
 (f.goodB d = true ∧ ∃ v p,e = .returned (.tuple #[v,p,.int .i64 0]) ∧ Bytes w' w.heap.size v (eframe d f.pix ahd nu q).1 ∧ FrameMade w d (eframe d f.pix ahd nu q).2 p w' ∧
  EncAt w' g d G (newQ q tg G (eframe d f.pix ahd nu q).1.length) tg (newN nu G) (eframe d f.pix ahd nu q).2 ∧ Mod (· = g) w w')
theorem encFrameAt {w:World} {g:Nat} {d:Dim} {G q tg nu:Nat} {ahd:Pix} (h:EncAt w g d G q tg nu ahd) (he:EnvP w) (hd:d.Ok) (hW:d.W ≤ 64) (hH:d.H ≤ 64) (hG:1 ≤ G ∧ G ≤ 64) (hq:q ≤ 31) (ht:tg ≤ 1048576) (hnu:nu < G) (f:FrX) (hf:f.In w) :
  Calls Tryz.prog 16 #[.pointer (some ⟨g,0,none⟩),.agg f.cells.toArray] w (EncPost w g d G q tg nu ahd f):=by
 obtain ⟨al,hb,hc⟩:=h
 cases hgd:f.goodB d with
 | false=>exact (encFrame_bad w g _ _ _ _ _ _ al hb f.W0 f.H0 f.W1 f.H1 f.W2 f.H2 f.A0 f.A1 f.A2 f.n0 f.c0 f.n1 f.c1 f.n2 f.c2 hgd).mono (fun e w' k=>.inl ⟨hgd,k⟩)
 | true=>
  obtain ⟨hcl,_,_,_⟩:=FrX.good hd hgd
  have hfi:=FrX.frIn hd hgd hf
  have hwh:∀ w',Mod (fun _=>False) w w' → Calls Tryz.prog 43 #[.agg (flV d f.A0 f.A1 f.A2 f.c0 f.c1 f.c2).toArray] w' fun e w''=>e = .returned (.bool true) ∧ Mod (fun _=>False) w' w'':=by
   intro w' _
   rw [← hcl]
   refine (pWholeI w' f.W0 f.H0 f.W1 f.H1 f.W2 f.H2 f.A0 f.A1 f.A2 f.n0 f.c0 f.n1 f.c1 f.n2 f.c2).mono ?_
   rintro e w'' ⟨rfl,hm⟩
   unfold FrX.goodB at hgd
   rw [Bool.and_eq_true] at hgd
   rw [hgd.1]
   exact ⟨rfl,hm⟩
  rw [hcl]
  have hpost:∀ e w',EFrPost w g G q tg nu d (eframe d f.pix ahd nu q) e w' → EncPost w g d G q tg nu ahd f e w':=by
   rintro e w' ⟨v,p,ay,au,av,he,h1,h2,h3,h4,_,_,h5⟩
   exact .inr ⟨hgd,v,p,he,h1,h2,⟨_,h3,.inr ⟨ay,au,av,rfl,fun _=>h4⟩⟩,h5⟩
  rcases hc with ⟨hal,h0⟩ | ⟨ay,au,av,hal,hfa⟩
  ·exact (encFrame w g G q tg nu d hd hW hH 0 0 0 0 0 0 none none none 0 0 0 0 0 0 al hal hG hq ht hnu hb he ahd (fun h=>absurd h0 h) f.A0 f.A1 f.A2 f.c0 f.c1 f.c2 f.pix hfi hwh).mono hpost
  ·refine (encFrame w g G q tg nu d hd hW hH (d.W:Int) (d.H:Int) (d.W2:Int) (d.H2:Int) (d.W2:Int) (d.H2:Int) (some ⟨ay,0,none⟩) (some ⟨au,0,none⟩) (some ⟨av,0,none⟩) d.nY d.nY d.nC d.nC d.nC d.nC al hal hG hq ht hnu hb he ahd (fun h=>?_) f.A0 f.A1 f.A2 f.c0 f.c1 f.c2 f.pix hfi hwh).mono hpost
   rw [hal]
   exact FrameAt.frIn hd (hfa h)
def EncMade (w:World) (W H G q tg:Int) (e:Ending) (w':World):Prop:=
 Mod (fun _=>False) w w' ∧ ((seqRight W H G = false ∧ e = .returned (.tuple #[.pointer none,.int .i64 121])) ∨ (seqRight W H G = true ∧ encArgs q tg = false ∧ e = .returned (.tuple #[.pointer none,.int .i64 1])) ∨
  ∃ (d:Dim) (G' q' tg' g:Nat),seqRight W H G = true ∧ encArgs q tg = true ∧ d.Ok ∧ W = (d.W:Int) ∧ H = (d.H:Int) ∧ G = (G':Int) ∧ (1 ≤ G' ∧ G' ≤ 64) ∧ q = (q':Int) ∧ q' ≤ 31 ∧ tg = (tg':Int) ∧ tg' ≤ 1048576 ∧ e = .returned (.tuple #[.pointer (some ⟨g,0,none⟩),.int .i64 0]) ∧ (∀ ahd,EncAt w' g d G' q' tg' 0 ahd) ∧ w.heap.size ≤ g)
theorem encNew' (w:World) (W H G q tg:Int):Calls Tryz.prog 14 #[.agg #[.int .i64 W,.int .i64 H,.int .i64 G],.int .i64 q,.int .i64 tg] w (EncMade w W H G q tg):=by
 refine (encNew w W H G q tg).mono ?_
 rintro e w' ⟨hm,h | h | ⟨g,hs,ha,rfl,hb,hg⟩⟩
 ·exact ⟨hm,.inl h⟩
 ·exact ⟨hm,.inr (.inl h)⟩
 ·obtain ⟨hd,hW,hH⟩:=mkDim_ok hs
  have ha2:=of_decide_eq_true ha
  have hs2:=of_decide_eq_true hs
  refine ⟨hm,.inr (.inr ⟨mkDim W H,G.toNat,q.toNat,tg.toNat,g,hs,ha,hd,hW.symm,hH.symm,by omega,by omega,by omega,by omega,by omega,by omega,rfl,fun _=>⟨zeroFr,?_,.inl ⟨rfl,rfl⟩⟩,hg⟩)⟩
  rw [hW,hH,Int.toNat_of_nonneg (by omega),Int.toNat_of_nonneg (by omega),Int.toNat_of_nonneg (by omega)]
  exact hb
def d16:Dim:=⟨16,16,8,8,256,64⟩
theorem d16_ok:d16.Ok:=⟨by decide,by decide,by decide,by decide,by decide,by decide,by decide⟩
def grey:Pix:=blankPix d16 128
def alikeB (a b:Pix):Bool:=decide (a.Y = b.Y ∧ a.U = b.U ∧ a.V = b.V)
theorem alike_eq {a b:Pix} (h:alikeB a b = true):a = b:=by
 obtain ⟨h1,h2,h3⟩:=of_decide_eq_true h
 cases a
 cases b
 simp_all
def codeB (e:Pix × Es) (c:List UInt8):Bool:=decide (e.2.code = c) && alikeB e.1 grey
theorem code_eq {e:Pix × Es} {c:List UInt8} (h:codeB e c = true):e.2.code = c ∧ e.1 = grey:=by
 unfold codeB at h
 rw [Bool.and_eq_true] at h
 exact ⟨of_decide_eq_true h.1,alike_eq h.2⟩
theorem al_key:codeB (ecode d16 grey grey true 9) [0,0,0,0,0,0] = true:=by decide +kernel
theorem al_next:codeB (ecode d16 grey grey false 9) [0,0,0,0] = true:=by decide +kernel
theorem al_smooth:alikeB (smPix 9 d16 grey) grey = true:=by decide +kernel
theorem hdrG_key:hdrB true 0 9 = [210]:=by decide +kernel
theorem hdrG_next:hdrB false 1 9 = [36,128]:=by decide +kernel
theorem fr_key:eframe d16 grey grey 0 9 = ([210,0,0,0,0,0,0],grey):=by
 obtain ⟨h1,h2⟩:=code_eq al_key
 have e:((0:Nat) == 0) = true:=rfl
 unfold eframe
 rw [e,show ((9:Nat):Int) = 9 from rfl,h1,h2,alike_eq al_smooth,hdrG_key]
 rfl
theorem fr_next:eframe d16 grey grey 1 9 = ([36,128,0,0,0,0],grey):=by
 obtain ⟨h1,h2⟩:=code_eq al_next
 have e:((1:Nat) == 0) = false:=rfl
 unfold eframe
 rw [e,show ((9:Nat):Int) = 9 from rfl,h1,h2,alike_eq al_smooth,hdrG_next]
 rfl
theorem pAlike (w:World) (W H:Int) (A B:Option Addr) (n c m k:Nat) (l:List UInt8) (ha:BytesIn w A n c l) (hb:BytesIn w B m k l) :
  Calls Tryz.prog 82 #[.agg #[.int .i64 W,.int .i64 H,.slice A n c],.agg #[.int .i64 W,.int .i64 H,.slice B m k]] w fun e w'=>e = .returned (.bool true) ∧ Mod (fun _=>False) w w':=by
 have M:=(((Mod.refl (fun _=>False) w).alloc (.cells #[.int .i64 W,.int .i64 H,.slice A n c] 38)).alloc (.cells #[.int .i64 W,.int .i64 H,.slice B m k] 38))
 have ha':=ha.quiet M
 have hb':=hb.quiet M
 have s1:=str_src _ A n c l ha'.1 ha'.2.2.1
 have s2:=str_src _ B m k l hb'.1 hb'.2.2.1
 have HM:=Lib.hid M
 clear M ha' hb' ha hb
 go_enter Tryz.func82,Tryz.ntmps82
 go_wp2_with fail
 go_ret
 exact ⟨rfl,HM.out⟩
theorem pAlike' (w:World) (W H:Int) (A B:Option Addr) (n c m k:Nat) (h:∃ l,BytesIn w A n c l ∧ BytesIn w B m k l) :
  Calls Tryz.prog 82 #[.agg #[.int .i64 W,.int .i64 H,.slice A n c],.agg #[.int .i64 W,.int .i64 H,.slice B m k]] w fun e w'=>e = .returned (.bool true) ∧ Mod (fun _=>False) w w':=by
 obtain ⟨l,h1,h2⟩:=h
 exact pAlike w W H A B n c m k l h1 h2
theorem both_quiet {w w':World} {A B:Option Addr} {n c m k:Nat} (h:∃ l,BytesIn w A n c l ∧ BytesIn w B m k l) (hm:Mod (fun _=>False) w w'):∃ l,BytesIn w' A n c l ∧ BytesIn w' B m k l:=by
 obtain ⟨l,h1,h2⟩:=h
 exact ⟨l,h1.quiet hm,h2.quiet hm⟩
theorem pSame (w:World) (W H W1 H1 W2 H2:Int) (A B A1 B1 A2 B2:Option Addr) (n c m k n1 c1 m1 k1 n2 c2 m2 k2:Nat)
  (h:∃ l,BytesIn w A n c l ∧ BytesIn w B m k l) (h1:∃ l,BytesIn w A1 n1 c1 l ∧ BytesIn w B1 m1 k1 l) (h2:∃ l,BytesIn w A2 n2 c2 l ∧ BytesIn w B2 m2 k2 l) :
  Calls Tryz.prog 38 #[.agg #[.int .i64 W,.int .i64 H,.slice A n c,.int .i64 W1,.int .i64 H1,.slice A1 n1 c1,.int .i64 W2,.int .i64 H2,.slice A2 n2 c2],.agg #[.int .i64 W,.int .i64 H,.slice B m k,.int .i64 W1,.int .i64 H1,.slice B1 m1 k1,.int .i64 W2,.int .i64 H2,.slice B2 m2 k2]] w fun e w'=>e = .returned (.bool true) ∧ Mod (fun _=>False) w w':=by
 have HS0:=((Sat.nil (fun _=>False) w).alloc 40 #[.int .i64 W,.int .i64 H,.slice A n c,.int .i64 W1,.int .i64 H1,.slice A1 n1 c1,.int .i64 W2,.int .i64 H2,.slice A2 n2 c2] rfl).alloc (g:=w.heap.size + 1) 40 #[.int .i64 W,.int .i64 H,.slice B m k,.int .i64 W1,.int .i64 H1,.slice B1 m1 k1,.int .i64 W2,.int .i64 H2,.slice B2 m2 k2] (by simp)
 have E0:=Lib.hid (And.intro HS0 (And.intro h (And.intro h1 h2)))
 clear HS0 h h1 h2
 go_enter Tryz.func38,Tryz.ntmps38
 go_wp2_with fail
 refine (pAlike' _ W H A B n c m k (both_quiet E0.out.2.1 E0.out.1.mod)).mono ?_
 rintro e w1 ⟨rfl,hm⟩
 have HS1:=Sat.after hm E0.out.1
 obtain ⟨pc,pf⟩:=(HS1.own_ 1 rfl).both
 obtain ⟨qc,qf⟩:=(HS1.own_ 0 rfl).both
 have E1:=Lib.hid HS1
 clear HS1 hm
 go_wp2_with fail
 refine (pAlike' _ W1 H1 A1 B1 n1 c1 m1 k1 (both_quiet E0.out.2.2.1 E1.out.mod)).mono ?_
 rintro e w2 ⟨rfl,hm⟩
 have HS2:=Sat.after hm E1.out
 clear pc pf qc qf
 obtain ⟨pc,pf⟩:=(HS2.own_ 1 rfl).both
 obtain ⟨qc,qf⟩:=(HS2.own_ 0 rfl).both
 have E2:=Lib.hid HS2
 clear HS2 hm
 go_wp2_with fail
 refine (pAlike' _ W2 H2 A2 B2 n2 c2 m2 k2 (both_quiet E0.out.2.2.2 E2.out.mod)).mono ?_
 rintro e w3 ⟨rfl,hm⟩
 have E3:=Lib.hid (E2.out.quiet hm).mod
 clear hm pc pf qc qf
 go_wp2_with fail
 go_ret
 exact ⟨rfl,E3.out⟩
theorem new16 (w:World):Calls Tryz.prog 14 #[.agg #[.int .i64 16,.int .i64 16,.int .i64 2],.int .i64 9,.int .i64 0] w fun e w'=>∃ g,e = .returned (.tuple #[.pointer (some ⟨g,0,none⟩),.int .i64 0]) ∧ EncAt w' g d16 2 9 0 0 grey ∧ w.heap.size ≤ g ∧ Mod (fun _=>False) w w':=by
 refine (encNew w 16 16 2 9 0).mono ?_
 rintro e w' ⟨hm,⟨h,_⟩ | ⟨_,h,_⟩ | ⟨g,hs,ha,rfl,hb,hg⟩⟩
 ·exact absurd h (by decide)
 ·exact absurd h (by decide)
 ·exact ⟨g,rfl,⟨zeroFr,hb,.inl ⟨rfl,rfl⟩⟩,hg,hm⟩
theorem blank16 (w:World):Calls Tryz.prog 41 #[.int .i64 16,.int .i64 16,.int .u8 128] w fun e w'=>∃ gy gu gv,e = .returned (.tuple #[.agg #[.int .i64 16,.int .i64 16,.slice (some ⟨gy,0,none⟩) 256 256,.int .i64 8,.int .i64 8,.slice (some ⟨gu,0,none⟩) 64 64,.int .i64 8,.int .i64 8,.slice (some ⟨gv,0,none⟩) 64 64],.int .i64 0]) ∧ FrameAt w' d16 gy gu gv grey ∧ (w.heap.size ≤ gy ∧ w.heap.size ≤ gu ∧ w.heap.size ≤ gv) ∧ Mod (fun _=>False) w w':=by
 refine (pBlank w d16 d16_ok 128).mono ?_
 rintro e w' ⟨p,rfl,⟨gy,gu,gv,rfl,hf,h1,h2,h3⟩,hm⟩
 exact ⟨gy,gu,gv,rfl,hf,⟨h1,h2,h3⟩,hm⟩
def GreyPost (w:World) (g nu' n:Nat) (b:List UInt8) (e:Ending) (w':World):Prop:=
 ∃ A c p0 p1 p2,e = .returned (.tuple #[.slice A n c,.agg #[.int .i64 16,.int .i64 16,.slice (some ⟨p0,0,none⟩) 256 256,.int .i64 8,.int .i64 8,.slice (some ⟨p1,0,none⟩) 64 64,.int .i64 8,.int .i64 8,.slice (some ⟨p2,0,none⟩) 64 64],.int .i64 0]) ∧ Bytes w' w.heap.size (.slice A n c) b ∧ FrameAt w' d16 p0 p1 p2 grey ∧ EncAt w' g d16 2 9 0 nu' grey ∧ Mod (· = g) w w'
theorem grey_in {w:World} {gy gu gv:Nat} (hf:FrameAt w d16 gy gu gv grey):(FrX.mk 16 16 (some ⟨gy,0,none⟩) 256 256 8 8 (some ⟨gu,0,none⟩) 64 64 8 8 (some ⟨gv,0,none⟩) 64 64 grey.Y grey.U grey.V).In w:=
 ⟨blkIn hf.by_ hf.ly d16_ok.nyle,blkIn hf.bu hf.lu d16_ok.ncle,blkIn hf.bv hf.lv d16_ok.ncle,Nat.le_refl _,Nat.le_refl _,Nat.le_refl _,(by decide:256 ≤ 9223372036854775807),(by decide:64 ≤ 9223372036854775807),(by decide:64 ≤ 9223372036854775807)⟩
theorem encGrey (w:World) (g nu nu' n:Nat) (b:List UInt8) (hnu:nu < 2) (hnn:newN nu 2 = nu') (hfr:eframe d16 grey grey nu 9 = (b,grey)) (hn:b.length = n) (h:EncAt w g d16 2 9 0 nu grey) (he:EnvP w) (gy gu gv:Nat) (hf:FrameAt w d16 gy gu gv grey) :
  Calls Tryz.prog 16 #[.pointer (some ⟨g,0,none⟩),.agg #[.int .i64 16,.int .i64 16,.slice (some ⟨gy,0,none⟩) 256 256,.int .i64 8,.int .i64 8,.slice (some ⟨gu,0,none⟩) 64 64,.int .i64 8,.int .i64 8,.slice (some ⟨gv,0,none⟩) 64 64]] w (GreyPost w g nu' n b):=by
 refine (encFrameAt h he d16_ok (by decide) (by decide) (by decide) (by decide) (by decide) hnu (FrX.mk 16 16 (some ⟨gy,0,none⟩) 256 256 8 8 (some ⟨gu,0,none⟩) 64 64 8 8 (some ⟨gv,0,none⟩) 64 64 grey.Y grey.U grey.V) (grey_in hf)).mono ?_
 rintro e w' (⟨hb,_⟩ | ⟨_,v,p,rfl,hB,⟨p0,p1,p2,rfl,hfp,_⟩,hE,hm⟩)
 ·exact absurd (show true = false from hb) (by decide)
 ·have hp:FrX.pix (FrX.mk 16 16 (some ⟨gy,0,none⟩) 256 256 8 8 (some ⟨gu,0,none⟩) 64 64 8 8 (some ⟨gv,0,none⟩) 64 64 grey.Y grey.U grey.V) = grey:=rfl
  rw [hp,hfr] at hB hfp hE
  rw [hnn] at hE
  dsimp only at hB hfp hE
  obtain ⟨A,c,rfl⟩:=own_shape hB
  rw [hn] at hB ⊢
  exact ⟨A,c,p0,p1,p2,rfl,hB,hfp,hE,hm⟩
theorem same16 (w:World) (p0 p1 p2 gy gu gv:Nat) (ha:FrameAt w d16 p0 p1 p2 grey) (hb:FrameAt w d16 gy gu gv grey):Calls Tryz.prog 38 #[.agg #[.int .i64 16,.int .i64 16,.slice (some ⟨p0,0,none⟩) 256 256,.int .i64 8,.int .i64 8,.slice (some ⟨p1,0,none⟩) 64 64,.int .i64 8,.int .i64 8,.slice (some ⟨p2,0,none⟩) 64 64],.agg #[.int .i64 16,.int .i64 16,.slice (some ⟨gy,0,none⟩) 256 256,.int .i64 8,.int .i64 8,.slice (some ⟨gu,0,none⟩) 64 64,.int .i64 8,.int .i64 8,.slice (some ⟨gv,0,none⟩) 64 64]] w fun e w'=>e = .returned (.bool true) ∧ Mod (fun _=>False) w w':=
 pSame w 16 16 8 8 8 8 _ _ _ _ _ _ 256 256 256 256 64 64 64 64 64 64 64 64 ⟨grey.Y,blkIn ha.by_ ha.ly d16_ok.nyle,blkIn hb.by_ hb.ly d16_ok.nyle⟩ ⟨grey.U,blkIn ha.bu ha.lu d16_ok.ncle,blkIn hb.bu hb.lu d16_ok.ncle⟩ ⟨grey.V,blkIn ha.bv ha.lv d16_ok.ncle,blkIn hb.bv hb.lv d16_ok.ncle⟩
theorem EncAt.apart {w:World} {g:Nat} {d:Dim} {G q tg nu:Nat} {ahd:Pix} (h:EncAt w g d G q tg nu ahd) {j:Nat} {t:TypeId} {cs:Array Value} (hb:Blk w j t cs) (ht:t ≠ 92):j ≠ g:=by
 obtain ⟨al,hb2,_⟩:=h
 exact hb.ne_ hb2 ht
theorem EncAt.fr {w w':World} {g:Nat} {d d':Dim} {G q tg nu:Nat} {ahd f:Pix} {gy gu gv:Nat} (h:EncAt w g d G q tg nu ahd) (hf:FrameAt w d' gy gu gv f) (hm:Mod (· = g) w w'):FrameAt w' d' gy gu gv f:=
 hf.mod hm (h.apart hf.by_ (by decide)) (h.apart hf.bu (by decide)) (h.apart hf.bv (by decide))
theorem alive14 (w : World) (he : EnvP w) : Calls Tryz.prog 13 #[] w fun e w' => e = .returned (.bool true) ∧ Mod (fun _ => False) w w' := by
  have HE0 := Lib.hid he
  clear he
  go_enter Tryz.func13, Tryz.ntmps13
  go_wp2_with fail
  refine (new16 _).mono ?_
  rintro e w1 ⟨g, rfl, hE, lg, hm1⟩
  have hM1 := ((Mod.refl (fun _ => False) w).alloc (.cells #[.int .i64 16, .int .i64 16, .int .i64 2] 23)).trans hm1
  have lg' : w.heap.size ≤ g := by have z : (w.alloc (.cells #[.int .i64 16, .int .i64 16, .int .i64 2] 23)).heap.size = w.heap.size + 1 := by simp
                                   omega
  have H1 := Lib.hid (And.intro hM1 (And.intro hE lg'))
  clear hM1 hE lg lg' hm1
  go_wp2_with fail
  refine (blank16 _).mono ?_
  rintro e w2 ⟨gy, gu, gv, rfl, hfa, hl, hm2⟩
  have H2 := Lib.hid (And.intro (H1.out.1.trans hm2) (And.intro (H1.out.2.1.quiet hm2) hfa))
  clear hfa hl hm2
  go_upto_region 6 with (fail)
  have hb := Blk.new w2 40 #[.int .i64 16, .int .i64 16, .slice (some ⟨gy, 0, none⟩) 256 256, .int .i64 8, .int .i64 8, .slice (some ⟨gu, 0, none⟩) 64 64, .int .i64 8, .int .i64 8, .slice (some ⟨gv, 0, none⟩) 64 64]
  have hma : Mod (fun _ => False) w2 (w2.alloc (.cells #[.int .i64 16, .int .i64 16, .slice (some ⟨gy, 0, none⟩) 256 256, .int .i64 8, .int .i64 8, .slice (some ⟨gu, 0, none⟩) 64 64, .int .i64 8, .int .i64 8, .slice (some ⟨gv, 0, none⟩) 64 64] 40)) := (Mod.refl _ w2).alloc _
  obtain ⟨fb, hfb⟩ : ∃ fb, fb = w2.heap.size := ⟨_, rfl⟩
  rw [← hfb] at hb ⊢
  generalize w2.alloc (.cells #[.int .i64 16, .int .i64 16, .slice (some ⟨gy, 0, none⟩) 256 256, .int .i64 8, .int .i64 8, .slice (some ⟨gu, 0, none⟩) 64 64, .int .i64 8, .int .i64 8, .slice (some ⟨gv, 0, none⟩) 64 64] 40) = w3 at hb hma ⊢
  obtain ⟨fc, ff⟩ := hb.both
  have fl := hb.lt
  have H3 := Lib.hid (And.intro (H2.out.1.trans hma) (And.intro (H2.out.2.1.quiet hma) (And.intro (H2.out.2.2.quiet hma) hb)))
  clear hb hma hfb H2
  go_wp2_with fail
  refine (encGrey _ g 0 1 7 [210, 0, 0, 0, 0, 0, 0] (by decide) rfl fr_key rfl H3.out.2.1 (HE0.out.quiet H3.out.1) gy gu gv H3.out.2.2.1).mono ?_
  rintro e w4 ⟨A, c, p0, p1, p2, rfl, hin, hfp, hE4, hm4⟩
  have hb4 := H3.out.2.2.2.keep hm4 (H3.out.2.1.apart H3.out.2.2.2 (by decide))
  have H4 := Lib.hid (And.intro (H3.out.1.into hm4 (fun i e => .inr (by have := H1.out.2.2; omega))) (And.intro hE4 (And.intro (H3.out.2.1.fr H3.out.2.2.1 hm4) (And.intro hb4 (And.intro hfp (And.intro hin H3.out.2.1.lt))))))
  clear hm4 hE4 hb4 hfp hin fc ff fl H3
  go_upto_region 7 with (fail)
  have hb := Blk.new w4 40 #[.int .i64 16, .int .i64 16, .slice (some ⟨p0, 0, none⟩) 256 256, .int .i64 8, .int .i64 8, .slice (some ⟨p1, 0, none⟩) 64 64, .int .i64 8, .int .i64 8, .slice (some ⟨p2, 0, none⟩) 64 64]
  have hma : Mod (fun _ => False) w4 (w4.alloc (.cells #[.int .i64 16, .int .i64 16, .slice (some ⟨p0, 0, none⟩) 256 256, .int .i64 8, .int .i64 8, .slice (some ⟨p1, 0, none⟩) 64 64, .int .i64 8, .int .i64 8, .slice (some ⟨p2, 0, none⟩) 64 64] 40)) := (Mod.refl _ w4).alloc _
  obtain ⟨pb, hpb⟩ : ∃ pb, pb = w4.heap.size := ⟨_, rfl⟩
  rw [← hpb] at hb ⊢
  generalize w4.alloc (.cells #[.int .i64 16, .int .i64 16, .slice (some ⟨p0, 0, none⟩) 256 256, .int .i64 8, .int .i64 8, .slice (some ⟨p1, 0, none⟩) 64 64, .int .i64 8, .int .i64 8, .slice (some ⟨p2, 0, none⟩) 64 64] 40) = w5 at hb hma ⊢
  have hb5 := H4.out.2.2.2.1.keep hma (fun h => h)
  obtain ⟨fc, ff⟩ := hb5.both
  have fl := hb5.lt
  have H5 := Lib.hid (And.intro (H4.out.1.trans hma) (And.intro (H4.out.2.1.quiet hma) (And.intro (H4.out.2.2.1.quiet hma) (And.intro hb5 (And.intro (H4.out.2.2.2.2.1.quiet hma) (And.intro (H4.out.2.2.2.2.2.1.quiet hma) (And.intro hb H4.out.2.2.2.2.2.2)))))))
  clear hb hma hpb hb5 H4
  go_wp2_with fail
  refine (encGrey _ g 1 0 6 [36, 128, 0, 0, 0, 0] (by decide) rfl fr_next rfl H5.out.2.1 (HE0.out.quiet H5.out.1) gy gu gv H5.out.2.2.1).mono ?_
  rintro e w6 ⟨B, k, r0, r1, r2, rfl, hin6, hfr, hE6, hm6⟩
  have hb6 := H5.out.2.2.2.1.keep hm6 (H5.out.2.1.apart H5.out.2.2.2.1 (by decide))
  have hp6 := H5.out.2.2.2.2.2.2.1.keep hm6 (H5.out.2.1.apart H5.out.2.2.2.2.2.2.1 (by decide))
  have H6 := Lib.hid (And.intro (H5.out.1.into hm6 (fun i e => .inr (by have := H1.out.2.2; omega))) (And.intro hE6 (And.intro (H5.out.2.1.fr H5.out.2.2.1 hm6) (And.intro hb6 (And.intro (H5.out.2.1.fr H5.out.2.2.2.2.1 hm6) (And.intro hp6 hfr))))))
  have hB6 := H5.out.2.2.2.2.2.1.mod hm6 (fun j hj e => by have z1 := (H5.out.2.2.2.2.2.1.lt j hj).1; have z2 := H5.out.2.2.2.2.2.2.2; omega)
  have hin := hB6.in_
  clear hm6 hb6 hp6 fc ff fl hB6 hE6 hfr hin6 H5
  go_upto_region 8 with (fail)
  have hb := Blk.new w6 40 #[.int .i64 16, .int .i64 16, .slice (some ⟨r0, 0, none⟩) 256 256, .int .i64 8, .int .i64 8, .slice (some ⟨r1, 0, none⟩) 64 64, .int .i64 8, .int .i64 8, .slice (some ⟨r2, 0, none⟩) 64 64]
  have hma : Mod (fun _ => False) w6 (w6.alloc (.cells #[.int .i64 16, .int .i64 16, .slice (some ⟨r0, 0, none⟩) 256 256, .int .i64 8, .int .i64 8, .slice (some ⟨r1, 0, none⟩) 64 64, .int .i64 8, .int .i64 8, .slice (some ⟨r2, 0, none⟩) 64 64] 40)) := (Mod.refl _ w6).alloc _
  obtain ⟨rb, hrb⟩ : ∃ rb, rb = w6.heap.size := ⟨_, rfl⟩
  rw [← hrb] at hb ⊢
  generalize w6.alloc (.cells #[.int .i64 16, .int .i64 16, .slice (some ⟨r0, 0, none⟩) 256 256, .int .i64 8, .int .i64 8, .slice (some ⟨r1, 0, none⟩) 64 64, .int .i64 8, .int .i64 8, .slice (some ⟨r2, 0, none⟩) 64 64] 40) = w7 at hb hma ⊢
  have hb7 := H6.out.2.2.2.1.keep hma (fun h => h)
  have hp7 := H6.out.2.2.2.2.2.1.keep hma (fun h => h)
  obtain ⟨fc, ff⟩ := hb7.both
  obtain ⟨pc, pf⟩ := hp7.both
  have fl := hb7.lt
  have pl := hp7.lt
  obtain ⟨ba, off, hA, hlt, hcell⟩ := (hin.quiet hma).place (by decide)
  subst hA
  have c0 : w7.cell? ⟨ba, off, none⟩ = some (.int .u8 210) := hcell 0 (by decide)
  have H7 := Lib.hid (And.intro (H6.out.1.trans hma) (And.intro (H6.out.2.1.quiet hma) (And.intro (H6.out.2.2.1.quiet hma) (And.intro hb7 (And.intro (H6.out.2.2.2.2.1.quiet hma) (And.intro (H6.out.2.2.2.2.2.2.quiet hma) hb))))))
  clear hb hma hrb hb7 hp7 hcell hin H6
  go_wp2_with fail
  refine (same16 _ p0 p1 p2 gy gu gv H7.out.2.2.2.2.1 H7.out.2.2.1).mono ?_
  rintro e w8 ⟨rfl, hm8⟩
  have hb8 := H7.out.2.2.2.1.keep hm8 (fun h => h)
  have hr8 := H7.out.2.2.2.2.2.2.keep hm8 (fun h => h)
  clear fc ff fl pc pf pl c0 hlt
  obtain ⟨fc, ff⟩ := hb8.both
  obtain ⟨qc, qf⟩ := hr8.both
  have fl := hb8.lt
  have ql := hr8.lt
  have H8 := Lib.hid (And.intro (H7.out.1.trans hm8) (And.intro (H7.out.2.1.quiet hm8) (And.intro (H7.out.2.2.1.quiet hm8) (H7.out.2.2.2.2.2.1.quiet hm8))))
  clear hb8 hr8 hm8 H7
  go_wp2_with fail
  refine (same16 _ r0 r1 r2 gy gu gv H8.out.2.2.2 H8.out.2.2.1).mono ?_
  rintro e w9 ⟨rfl, hm9⟩
  have H9 := Lib.hid (And.intro (H8.out.1.trans hm9) (H8.out.2.1.quiet hm9))
  clear hm9 fc ff fl qc qf ql H8
  go_wp2_with fail
  refine H9.out.2.number.mono ?_
  rintro e w10 ⟨rfl, rfl⟩
  go_wp2_with fail
  refine H9.out.2.q.mono ?_
  rintro e w11 ⟨rfl, rfl⟩
  go_wp2_with fail
  go_ret
  exact ⟨rfl, H9.out.1⟩
end Go.Proofs.YtmkopcojnibhlaaGreatDoor

