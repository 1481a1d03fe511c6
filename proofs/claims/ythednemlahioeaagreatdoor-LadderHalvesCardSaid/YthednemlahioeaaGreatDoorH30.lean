/-
  plane.Right, plane.Whole of anything.
-/
import Derived.Test.YthednemlahioeaaGreatDoorH9
import Derived.Test.YthednemlahioeaaGreatDoorH26
import Derived.Test.YthednemlahioeaaGreatDoorH1
import Derived.Test.YthednemlahioeaaGreatDoorH13
namespace Go.Proofs.YthednemlahioeaaGreatDoor
open Go.RowKit
set_option maxRecDepth 100000
set_option maxHeartbeats 8000000
def sidesI (W H:Int):Bool:=decide (1 ≤ W ∧ W ≤ 4096 ∧ 1 ≤ H ∧ H ≤ 4096)
def rightI (W H:Int) (n:Nat):Bool:=sidesI W H && decide ((n:Int) = W * H)
theorem pSidesI (w:World) (W H:Int):Calls Tryz.prog 89 #[.int .i64 W,.int .i64 H] w fun e w'=>e = .returned (.bool (sidesI W H)) ∧ w = w':=by
 unfold sidesI
 by_cases h1:1 ≤ W
 ·have d1:decide (1 ≤ W) = true:=decide_eq_true h1
  by_cases h2:W ≤ 4096
  ·have d2:decide (W ≤ 4096) = true:=decide_eq_true h2
   by_cases h3:1 ≤ H
   ·have d3:decide (1 ≤ H) = true:=decide_eq_true h3
    by_cases h4:H ≤ 4096
    ·have d4:decide (H ≤ 4096) = true:=decide_eq_true h4
     rw [decide_eq_true (show 1 ≤ W ∧ W ≤ 4096 ∧ 1 ≤ H ∧ H ≤ 4096 from ⟨h1,h2,h3,h4⟩)]
     go_enter Tryz.func89,Tryz.ntmps89
     go_wp2_with fail
     go_ret
     exact ⟨rfl,rfl⟩
    ·have d4:decide (H ≤ 4096) = false:=decide_eq_false h4
     rw [decide_eq_false (show ¬ (1 ≤ W ∧ W ≤ 4096 ∧ 1 ≤ H ∧ H ≤ 4096) by omega)]
     go_enter Tryz.func89,Tryz.ntmps89
     go_wp2_with fail
     go_ret
     exact ⟨rfl,rfl⟩
   ·have d3:decide (1 ≤ H) = false:=decide_eq_false h3
    rw [decide_eq_false (show ¬ (1 ≤ W ∧ W ≤ 4096 ∧ 1 ≤ H ∧ H ≤ 4096) by omega)]
    go_enter Tryz.func89,Tryz.ntmps89
    go_wp2_with fail
    go_ret
    exact ⟨rfl,rfl⟩
  ·have d2:decide (W ≤ 4096) = false:=decide_eq_false h2
   rw [decide_eq_false (show ¬ (1 ≤ W ∧ W ≤ 4096 ∧ 1 ≤ H ∧ H ≤ 4096) by omega)]
   go_enter Tryz.func89,Tryz.ntmps89
   go_wp2_with fail
   go_ret
   exact ⟨rfl,rfl⟩
 ·have d1:decide (1 ≤ W) = false:=decide_eq_false h1
  rw [decide_eq_false (show ¬ (1 ≤ W ∧ W ≤ 4096 ∧ 1 ≤ H ∧ H ≤ 4096) by omega)]
  go_enter Tryz.func89,Tryz.ntmps89
  go_wp2_with fail
  go_ret
  exact ⟨rfl,rfl⟩
theorem sidesI_nat {W H:Int} (h:sidesI W H = true):∃ a b:Nat,W = (a:Int) ∧ H = (b:Int) ∧ sidesB a b = true:=by
 have:=of_decide_eq_true h
 exact ⟨W.toNat,H.toNat,by omega,by omega,decide_eq_true (by omega)⟩
theorem pRightI (w:World) (W H:Int) (A:Option Addr) (n c:Nat):Calls Tryz.prog 109 #[.agg #[.int .i64 W,.int .i64 H,.slice A n c]] w fun e w'=>e = .returned (.bool (rightI W H n)) ∧ Mod (fun _=>False) w w':=by
 by_cases hs:sidesI W H = true
 ·obtain ⟨a,b,rfl,rfl,hab⟩:=sidesI_nat hs
  have ha:=area_le hab
  obtain ⟨m,hm⟩:∃ m,m = a * b:=⟨_,rfl⟩
  rw [← hm] at ha
  have e1:wrap64 ((a:Int) * (b:Int)) = (m:Int):=by
   rw [show (a:Int) * (b:Int) = (m:Int) by rw [hm];simp]
   exact IntWalk.wrap64_in _ ⟨by omega,by omega⟩
  have HE:=Lib.hid e1
  have hS:=pSidesI (w.alloc (.cells #[.int .i64 (a:Int),.int .i64 (b:Int),.slice A n c] 56)) (a:Int) (b:Int)
  rw [hs] at hS
  have HS:=Lib.hid hS
  have hrr:rightI (a:Int) (b:Int) n = decide (n = m):=by
   unfold rightI
   rw [hs,Bool.true_and,show (a:Int) * (b:Int) = (m:Int) by rw [hm];simp]
   exact decide_eq_decide.2 (by omega)
  rw [hrr]
  clear hm e1 hS hs hab hrr
  by_cases hnm:n = m
  ·have d1:((n:Int) == (m:Int)) = true:=by simp;omega
   rw [decide_eq_true hnm]
   have HN:=Lib.hid hnm
   clear hnm
   go_enter Tryz.func109,Tryz.ntmps109
   go_wp2_with fail
   refine HS.out.mono ?_
   rintro e w1 ⟨rfl,rfl⟩
   have e1:=HE.out
   go_wp2_with fail
   go_ret
   exact ⟨by rw [e1] at *;simp [HN.out],(Mod.refl _ _).alloc _⟩
  ·have d1:((n:Int) == (m:Int)) = false:=by simp;omega
   rw [decide_eq_false hnm]
   go_enter Tryz.func109,Tryz.ntmps109
   go_wp2_with fail
   refine HS.out.mono ?_
   rintro e w1 ⟨rfl,rfl⟩
   have e1:=HE.out
   go_wp2_with fail
   go_ret
   exact ⟨rfl,(Mod.refl _ _).alloc _⟩
 ·have hs':sidesI W H = false:=by simpa using hs
  have hS:=pSidesI (w.alloc (.cells #[.int .i64 W,.int .i64 H,.slice A n c] 56)) W H
  rw [hs'] at hS
  have HS:=Lib.hid hS
  have hrr:rightI W H n = false:=by unfold rightI;rw [hs'];rfl
  rw [hrr]
  clear hS hs hs' hrr
  go_enter Tryz.func109,Tryz.ntmps109
  go_wp2_with fail
  refine HS.out.mono ?_
  rintro e w1 ⟨rfl,rfl⟩
  go_wp2_with fail
  go_ret
  exact ⟨rfl,(Mod.refl _ _).alloc _⟩
theorem pWhole_no0 (w:World) (W0 H0 W1 H1 W2 H2:Int) (A0 A1 A2:Option Addr) (n0 c0 n1 c1 n2 c2:Nat) (h0r:rightI W0 H0 n0 = false):Calls Tryz.prog 60 #[.agg #[.int .i64 W0,.int .i64 H0,.slice A0 n0 c0,.int .i64 W1,.int .i64 H1,.slice A1 n1 c1,.int .i64 W2,.int .i64 H2,.slice A2 n2 c2]] w fun e w'=>e = .returned (.bool false) ∧ Mod (fun _=>False) w w':=by
 have h0:=Lib.hid ((Sat.nil (fun _=>False) w).alloc 58 #[.int .i64 W0,.int .i64 H0,.slice A0 n0 c0,.int .i64 W1,.int .i64 H1,.slice A1 n1 c1,.int .i64 W2,.int .i64 H2,.slice A2 n2 c2] rfl)
 have R0:=fun w=>pRightI w W0 H0 A0 n0 c0
 have HT0:=Lib.hid h0r
 clear h0r
 go_enter Tryz.func60,Tryz.ntmps60
 go_wp2_with fail
 refine (R0 _).mono ?_
 rintro e w1 ⟨rfl,hm1⟩
 rw [HT0.out]
 have hs1:=Sat.after hm1 h0.out
 obtain ⟨pc1,pf1⟩:=(hs1.own_ 0 rfl).both
 have H1:=Lib.hid hs1
 clear hm1 hs1
 go_wp2_with fail
 go_ret
 exact ⟨rfl,H1.out.mod⟩
theorem pWhole_no1 (w:World) (W0 H0 W1 H1 W2 H2:Int) (A0 A1 A2:Option Addr) (n0 c0 n1 c1 n2 c2:Nat) (h0r:rightI W0 H0 n0 = true) (h1r:rightI W1 H1 n1 = false):Calls Tryz.prog 60 #[.agg #[.int .i64 W0,.int .i64 H0,.slice A0 n0 c0,.int .i64 W1,.int .i64 H1,.slice A1 n1 c1,.int .i64 W2,.int .i64 H2,.slice A2 n2 c2]] w fun e w'=>e = .returned (.bool false) ∧ Mod (fun _=>False) w w':=by
 have h0:=Lib.hid ((Sat.nil (fun _=>False) w).alloc 58 #[.int .i64 W0,.int .i64 H0,.slice A0 n0 c0,.int .i64 W1,.int .i64 H1,.slice A1 n1 c1,.int .i64 W2,.int .i64 H2,.slice A2 n2 c2] rfl)
 have R0:=fun w=>pRightI w W0 H0 A0 n0 c0
 have R1:=fun w=>pRightI w W1 H1 A1 n1 c1
 have HT0:=Lib.hid h0r
 have HT1:=Lib.hid h1r
 clear h0r h1r
 go_enter Tryz.func60,Tryz.ntmps60
 go_wp2_with fail
 refine (R0 _).mono ?_
 rintro e w1 ⟨rfl,hm1⟩
 rw [HT0.out]
 have hs1:=Sat.after hm1 h0.out
 obtain ⟨pc1,pf1⟩:=(hs1.own_ 0 rfl).both
 have H1:=Lib.hid hs1
 clear hm1 hs1
 go_wp2_with fail
 refine (R1 _).mono ?_
 rintro e w2 ⟨rfl,hm2⟩
 rw [HT1.out]
 have hs2:=H1.out.quiet hm2
 obtain ⟨pc2,pf2⟩:=(hs2.own_ 0 rfl).both
 have H2:=Lib.hid hs2
 clear hm2 hs2 pc1 pf1 H1
 go_wp2_with fail
 go_ret
 exact ⟨rfl,H2.out.mod⟩
theorem pWhole_no2 (w:World) (W0 H0 W1 H1 W2 H2:Int) (A0 A1 A2:Option Addr) (n0 c0 n1 c1 n2 c2:Nat) (h0r:rightI W0 H0 n0 = true) (h1r:rightI W1 H1 n1 = true) (h2r:rightI W2 H2 n2 = false):Calls Tryz.prog 60 #[.agg #[.int .i64 W0,.int .i64 H0,.slice A0 n0 c0,.int .i64 W1,.int .i64 H1,.slice A1 n1 c1,.int .i64 W2,.int .i64 H2,.slice A2 n2 c2]] w fun e w'=>e = .returned (.bool false) ∧ Mod (fun _=>False) w w':=by
 have h0:=Lib.hid ((Sat.nil (fun _=>False) w).alloc 58 #[.int .i64 W0,.int .i64 H0,.slice A0 n0 c0,.int .i64 W1,.int .i64 H1,.slice A1 n1 c1,.int .i64 W2,.int .i64 H2,.slice A2 n2 c2] rfl)
 have R0:=fun w=>pRightI w W0 H0 A0 n0 c0
 have R1:=fun w=>pRightI w W1 H1 A1 n1 c1
 have R2:=fun w=>pRightI w W2 H2 A2 n2 c2
 have HT0:=Lib.hid h0r
 have HT1:=Lib.hid h1r
 have HT2:=Lib.hid h2r
 clear h0r h1r h2r
 go_enter Tryz.func60,Tryz.ntmps60
 go_wp2_with fail
 refine (R0 _).mono ?_
 rintro e w1 ⟨rfl,hm1⟩
 rw [HT0.out]
 have hs1:=Sat.after hm1 h0.out
 obtain ⟨pc1,pf1⟩:=(hs1.own_ 0 rfl).both
 have H1:=Lib.hid hs1
 clear hm1 hs1
 go_wp2_with fail
 refine (R1 _).mono ?_
 rintro e w2 ⟨rfl,hm2⟩
 rw [HT1.out]
 have hs2:=H1.out.quiet hm2
 obtain ⟨pc2,pf2⟩:=(hs2.own_ 0 rfl).both
 have H2:=Lib.hid hs2
 clear hm2 hs2 pc1 pf1 H1
 go_wp2_with fail
 refine (R2 _).mono ?_
 rintro e w3 ⟨rfl,hm3⟩
 rw [HT2.out]
 have hs3:=H2.out.quiet hm3
 obtain ⟨pc3,pf3⟩:=(hs3.own_ 0 rfl).both
 have H3:=Lib.hid hs3
 clear hm3 hs3 pc2 pf2 H2
 go_wp2_with fail
 go_ret
 exact ⟨rfl,H3.out.mod⟩
def wholeI (W0 H0:Int) (n0:Nat) (W1 H1:Int) (n1:Nat) (W2 H2:Int) (n2:Nat):Bool:=decide (rightI W0 H0 n0 = true ∧ rightI W1 H1 n1 = true ∧ rightI W2 H2 n2 = true ∧ W0 % 16 = 0 ∧ H0 % 16 = 0 ∧ W1 = W0 / 2 ∧ H1 = H0 / 2 ∧ W2 = W0 / 2 ∧ H2 = H0 / 2)
theorem pWhole_all (w : World) (x0 y0 x1 y1 x2 y2 : Nat) (hx0 : x0 ≤ 4096) (hy0 : y0 ≤ 4096) (A0 A1 A2 : Option Addr) (n0 c0 n1 c1 n2 c2 : Nat) (h0r : rightI (x0 : Int) (y0 : Int) n0 = true) (h1r : rightI (x1 : Int) (y1 : Int) n1 = true) (h2r : rightI (x2 : Int) (y2 : Int) n2 = true) :
    Calls Tryz.prog 60 #[.agg #[.int .i64 (x0 : Int), .int .i64 (y0 : Int), .slice A0 n0 c0, .int .i64 (x1 : Int), .int .i64 (y1 : Int), .slice A1 n1 c1, .int .i64 (x2 : Int), .int .i64 (y2 : Int), .slice A2 n2 c2]] w fun e w' => e = .returned (.bool (decide (x0 % 16 = 0 ∧ y0 % 16 = 0 ∧ x1 = x0 / 2 ∧ y1 = y0 / 2 ∧ x2 = x0 / 2 ∧ y2 = y0 / 2))) ∧ Mod (fun _ => False) w w' := by
  obtain ⟨p, hp⟩ : ∃ p, p = x0 / 2 := ⟨_, rfl⟩
  obtain ⟨q, hq⟩ : ∃ q, q = y0 / 2 := ⟨_, rfl⟩
  rw [← hp, ← hq]
  have v1 : (x0 : Int) / 2 = (p : Int) := by omega
  have v2 : (y0 : Int) / 2 = (q : Int) := by omega
  obtain ⟨B, hB⟩ : ∃ B, B = decide (x0 % 16 = 0 ∧ y0 % 16 = 0 ∧ x1 = p ∧ y1 = q ∧ x2 = p ∧ y2 = q) := ⟨_, rfl⟩
  rw [← hB]
  have HB := Lib.hid hB
  have HV := Lib.hid (And.intro v1 v2)
  clear hB v1 v2 hp hq
  have h0 := Lib.hid ((Sat.nil (fun _ => False) w).alloc 58 #[.int .i64 (x0 : Int), .int .i64 (y0 : Int), .slice A0 n0 c0, .int .i64 (x1 : Int), .int .i64 (y1 : Int), .slice A1 n1 c1, .int .i64 (x2 : Int), .int .i64 (y2 : Int), .slice A2 n2 c2] rfl)
  have R0 := fun w => pRightI w (x0 : Int) (y0 : Int) A0 n0 c0
  have R1 := fun w => pRightI w (x1 : Int) (y1 : Int) A1 n1 c1
  have R2 := fun w => pRightI w (x2 : Int) (y2 : Int) A2 n2 c2
  have HT0 := Lib.hid h0r
  have HT1 := Lib.hid h1r
  have HT2 := Lib.hid h2r
  clear h0r h1r h2r
  go_enter Tryz.func60, Tryz.ntmps60
  go_wp2_with fail
  refine (R0 _).mono ?_
  rintro e w1 ⟨rfl, hm1⟩
  rw [HT0.out]
  have hs1 := Sat.after hm1 h0.out
  obtain ⟨pc1, pf1⟩ := (hs1.own_ 0 rfl).both
  have H1 := Lib.hid hs1
  clear hm1 hs1
  go_wp2_with fail
  refine (R1 _).mono ?_
  rintro e w2 ⟨rfl, hm2⟩
  rw [HT1.out]
  have hs2 := H1.out.quiet hm2
  obtain ⟨pc2, pf2⟩ := (hs2.own_ 0 rfl).both
  have H2 := Lib.hid hs2
  clear hm2 hs2 pc1 pf1 H1
  go_wp2_with fail
  refine (R2 _).mono ?_
  rintro e w3 ⟨rfl, hm3⟩
  rw [HT2.out]
  have hs3 := H2.out.quiet hm3
  obtain ⟨pc3, pf3⟩ := (hs3.own_ 0 rfl).both
  have H3 := Lib.hid hs3
  clear hm3 hs3 pc2 pf2 H2
  obtain ⟨v1, v2⟩ := HV.out
  go_wp2_with fail
  all_goals
    go_ret
    refine ⟨congrArg (fun z => Ending.returned (.bool z)) ?_, H3.out.mod⟩
    rw [HB.out]
    first
    | exact (decide_eq_true (by omega)).symm
    | exact (decide_eq_false (by omega)).symm
    | (by_cases hz : y2 = q
       · rw [decide_eq_true (by omega), hz]
         simp
       · rw [decide_eq_false (by omega)]
         simp
         omega)
theorem pWholeI (w:World) (W0 H0 W1 H1 W2 H2:Int) (A0 A1 A2:Option Addr) (n0 c0 n1 c1 n2 c2:Nat):Calls Tryz.prog 60 #[.agg #[.int .i64 W0,.int .i64 H0,.slice A0 n0 c0,.int .i64 W1,.int .i64 H1,.slice A1 n1 c1,.int .i64 W2,.int .i64 H2,.slice A2 n2 c2]] w fun e w'=>e = .returned (.bool (wholeI W0 H0 n0 W1 H1 n1 W2 H2 n2)) ∧ Mod (fun _=>False) w w':=by
 unfold wholeI
 by_cases r0:rightI W0 H0 n0 = true
 ·by_cases r1:rightI W1 H1 n1 = true
  ·by_cases r2:rightI W2 H2 n2 = true
   ·have hs0:=r0
    have hs1:=r1
    have hs2:=r2
    unfold rightI at hs0 hs1 hs2
    rw [Bool.and_eq_true] at hs0 hs1 hs2
    obtain ⟨x0,y0,rfl,rfl,hab0⟩:=sidesI_nat hs0.1
    obtain ⟨x1,y1,rfl,rfl,hab1⟩:=sidesI_nat hs1.1
    obtain ⟨x2,y2,rfl,rfl,hab2⟩:=sidesI_nat hs2.1
    obtain ⟨_,_,a1,_,a2,_⟩:=area_le hab0
    have hE:decide (rightI (x0:Int) (y0:Int) n0 = true ∧ rightI (x1:Int) (y1:Int) n1 = true ∧ rightI (x2:Int) (y2:Int) n2 = true ∧ (x0:Int) % 16 = 0 ∧ (y0:Int) % 16 = 0 ∧ (x1:Int) = (x0:Int) / 2 ∧ (y1:Int) = (y0:Int) / 2 ∧ (x2:Int) = (x0:Int) / 2 ∧ (y2:Int) = (y0:Int) / 2) = decide (x0 % 16 = 0 ∧ y0 % 16 = 0 ∧ x1 = x0 / 2 ∧ y1 = y0 / 2 ∧ x2 = x0 / 2 ∧ y2 = y0 / 2):=by
     apply decide_eq_decide.2
     constructor
     ·rintro ⟨_,_,_,h1,h2,h3,h4,h5,h6⟩
      omega
     ·rintro ⟨h1,h2,h3,h4,h5,h6⟩
      exact ⟨r0,r1,r2,by omega,by omega,by omega,by omega,by omega,by omega⟩
    rw [hE]
    exact pWhole_all w x0 y0 x1 y1 x2 y2 a1 a2 A0 A1 A2 n0 c0 n1 c1 n2 c2 r0 r1 r2
   ·rw [decide_eq_false (fun h=>r2 h.2.2.1)]
    exact pWhole_no2 w W0 H0 W1 H1 W2 H2 A0 A1 A2 n0 c0 n1 c1 n2 c2 r0 r1 (by simpa using r2)
  ·rw [decide_eq_false (fun h=>r1 h.2.1)]
   exact pWhole_no1 w W0 H0 W1 H1 W2 H2 A0 A1 A2 n0 c0 n1 c1 n2 c2 r0 (by simpa using r1)
 ·rw [decide_eq_false (fun h=>r0 h.1)]
  exact pWhole_no0 w W0 H0 W1 H1 W2 H2 A0 A1 A2 n0 c0 n1 c1 n2 c2 (by simpa using r0)
def NoFr (er:Int):Ending:=.returned (.tuple #[.slice none 0 0,.agg noFrame.toArray,.int .i64 er])
theorem encFrame_bad (w:World) (g:Nat) (W H G q tg nu:Int) (al:List Value) (hx:Blk w g 250 (encV W H G q tg nu al)) (X0 Y0 X1 Y1 X2 Y2:Int) (A0 A1 A2:Option Addr) (n0 c0 n1 c1 n2 c2:Nat)
  (hbad:(wholeI X0 Y0 n0 X1 Y1 n1 X2 Y2 n2 && (decide (X0 = W) && decide (Y0 = H))) = false) :
  Calls Tryz.prog 97 #[.pointer (some ⟨g,0,none⟩),.agg #[.int .i64 X0,.int .i64 Y0,.slice A0 n0 c0,.int .i64 X1,.int .i64 Y1,.slice A1 n1 c1,.int .i64 X2,.int .i64 Y2,.slice A2 n2 c2]] w fun e w'=>e = NoFr 61 ∧ Mod (fun _=>False) w w':=by
 have hcase:wholeI X0 Y0 n0 X1 Y1 n1 X2 Y2 n2 = false ∨ (wholeI X0 Y0 n0 X1 Y1 n1 X2 Y2 n2 = true ∧ X0 ≠ W) ∨ (wholeI X0 Y0 n0 X1 Y1 n1 X2 Y2 n2 = true ∧ X0 = W ∧ Y0 ≠ H):=by
  cases hw:wholeI X0 Y0 n0 X1 Y1 n1 X2 Y2 n2 with
  | false=>exact .inl rfl
  | true=>
   rw [hw] at hbad
   simp only [Bool.true_and,Bool.and_eq_false_iff,decide_eq_false_iff_not] at hbad
   by_cases e:X0 = W
   ·rcases hbad with h | h
    ·exact absurd e h
    ·exact .inr (.inr ⟨rfl,e,h⟩)
   ·exact .inr (.inl ⟨rfl,e⟩)
 clear hbad
 obtain ⟨b,hb⟩:∃ b,b = wholeI X0 Y0 n0 X1 Y1 n1 X2 Y2 n2:=⟨_,rfl⟩
 rw [← hb] at hcase
 have h0:=(((Sat.nil (fun _=>False) w).alloc 58 #[.int .i64 X0,.int .i64 Y0,.slice A0 n0 c0,.int .i64 X1,.int .i64 Y1,.slice A1 n1 c1,.int .i64 X2,.int .i64 Y2,.slice A2 n2 c2] rfl).alloc (g:=w.heap.size + 1) 58 #[.int .i64 0,.int .i64 0,.slice none 0 0,.int .i64 0,.int .i64 0,.slice none 0 0,.int .i64 0,.int .i64 0,.slice none 0 0] (by simp)).alloc (g:=w.heap.size + 2) 40 #[.int .i64 W,.int .i64 H,.int .i64 G] (by simp)
 obtain ⟨bc,bf⟩:=hx.both
 have hxl:=hx.lt
 have x0:w.cell? ⟨g,0,none⟩ = some (.int .i64 W):=bc 0
 have x1:w.cell? ⟨g,1,none⟩ = some (.int .i64 H):=bc 1
 have x2:w.cell? ⟨g,2,none⟩ = some (.int .i64 G):=bc 2
 have HB:=Lib.hid hb
 have HS0:=Lib.hid h0
 clear hb h0 hx bc bf
 go_enter Tryz.func97,Tryz.ntmps97
 go_upto_region 4 with (fail)
 have hS1:=HS0.out
 generalize (((w.alloc (.cells #[.int .i64 X0,.int .i64 Y0,.slice A0 n0 c0,.int .i64 X1,.int .i64 Y1,.slice A1 n1 c1,.int .i64 X2,.int .i64 Y2,.slice A2 n2 c2] 58)).alloc (.cells #[.int .i64 0,.int .i64 0,.slice none 0 0,.int .i64 0,.int .i64 0,.slice none 0 0,.int .i64 0,.int .i64 0,.slice none 0 0] 58)).alloc (.cells #[.int .i64 W,.int .i64 H,.int .i64 G] 40)) = w1 at hS1 ⊢
 have hq:=hS1.own_ 2 rfl
 dsimp only at hq
 obtain ⟨f0,ff⟩:=hq.both
 have fl:=hq.lt
 clear x0 x1 x2 hq
 have HS1:=Lib.hid hS1
 clear hS1 HS0
 go_wp2_with fail
 refine (pWholeI _ X0 Y0 X1 Y1 X2 Y2 A0 A1 A2 n0 c0 n1 c1 n2 c2).mono ?_
 rintro e w2 ⟨rfl,hm2⟩
 rw [← HB.out]
 have hS2:=Sat.after hm2 HS1.out
 clear f0 ff fl hm2 HS1
 have hq:=hS2.own_ 2 rfl
 dsimp only at hq
 obtain ⟨f0,ff⟩:=hq.both
 have fl:=hq.lt
 have hq0:=hS2.own_ 0 rfl
 dsimp only at hq0
 obtain ⟨s0,sf⟩:=hq0.both
 have sl:=hq0.lt
 have hq1:=hS2.own_ 1 rfl
 dsimp only at hq1
 obtain ⟨z0,zf⟩:=hq1.both
 have zl:=hq1.lt
 have fw:w2.cell? ⟨w.heap.size,0,none⟩ = some (.int .i64 X0):=f0 0
 have fh:w2.cell? ⟨w.heap.size,1,none⟩ = some (.int .i64 Y0):=f0 1
 have sw:w2.cell? ⟨w.heap.size + 1 + 1,0,none⟩ = some (.int .i64 W):=s0 0
 have sh:w2.cell? ⟨w.heap.size + 1 + 1,1,none⟩ = some (.int .i64 H):=s0 1
 have sl':w.heap.size + 1 + 1 < w2.heap.size:=sl
 have sf':∀ i,w2.frozen? ⟨w.heap.size + 1 + 1,i,none⟩ = false:=sf
 have zl':w.heap.size + 1 < w2.heap.size:=zl
 have HS2:=Lib.hid (And.intro hS2 hq1)
 clear hS2 f0 s0 sl sf zl hq hq0 hq1
 rcases hcase with rfl | ⟨rfl,h1⟩ | ⟨rfl,h1,h2⟩
 ·go_wp2_with fail
  have h9:=fr_lay9 HS2.out.2 (.int .i64 0) (.int .i64 0) (.slice none 0 0) (.int .i64 0) (.int .i64 0) (.slice none 0 0) (.int .i64 0) (.int .i64 0) (.slice none 0 0)
  refine bodyPost_ret (v:=.tuple #[.slice none 0 0,.agg noFrame.toArray,.int .i64 61]) (by simp [results,Tryz.results97,go_sem,z0,noFrame]) rfl ⟨rfl,HS2.out.1.mod.into h9.2 (fun i e=>.inr (by omega))⟩
 ·have t1:(X0 != W) = true:=by simpa using h1
  have HH:=Lib.hid h1
  clear h1
  go_wp2_with fail
  have h9:=fr_lay9 HS2.out.2 (.int .i64 0) (.int .i64 0) (.slice none 0 0) (.int .i64 0) (.int .i64 0) (.slice none 0 0) (.int .i64 0) (.int .i64 0) (.slice none 0 0)
  refine bodyPost_ret (v:=.tuple #[.slice none 0 0,.agg noFrame.toArray,.int .i64 61]) (by simp [results,Tryz.results97,go_sem,z0,noFrame]) rfl ⟨rfl,HS2.out.1.mod.into h9.2 (fun i e=>.inr (by omega))⟩
 ·have t1:(X0 != W) = false:=by simpa using h1
  have t2:(Y0 != H) = true:=by simpa using h2
  have HH:=Lib.hid (And.intro h1 h2)
  clear h1 h2
  go_wp2_with fail
  have h9:=fr_lay9 HS2.out.2 (.int .i64 0) (.int .i64 0) (.slice none 0 0) (.int .i64 0) (.int .i64 0) (.slice none 0 0) (.int .i64 0) (.int .i64 0) (.slice none 0 0)
  refine bodyPost_ret (v:=.tuple #[.slice none 0 0,.agg noFrame.toArray,.int .i64 61]) (by simp [results,Tryz.results97,go_sem,z0,noFrame]) rfl ⟨rfl,HS2.out.1.mod.into h9.2 (fun i e=>.inr (by omega))⟩
structure FrX where
 W0:Int
 H0:Int
 A0:Option Addr
 n0:Nat
 c0:Nat
 W1:Int
 H1:Int
 A1:Option Addr
 n1:Nat
 c1:Nat
 W2:Int
 H2:Int
 A2:Option Addr
 n2:Nat
 c2:Nat
 p0:List UInt8
 p1:List UInt8
 p2:List UInt8
def FrX.cells (f:FrX):List Value:=[.int .i64 f.W0,.int .i64 f.H0,.slice f.A0 f.n0 f.c0,.int .i64 f.W1,.int .i64 f.H1,.slice f.A1 f.n1 f.c1,.int .i64 f.W2,.int .i64 f.H2,.slice f.A2 f.n2 f.c2]
def FrX.zero:FrX:=⟨0,0,none,0,0,0,0,none,0,0,0,0,none,0,0,[],[],[]⟩
structure FrX.In (f:FrX) (w:World):Prop where
 b0:BytesIn w f.A0 f.n0 f.c0 f.p0
 b1:BytesIn w f.A1 f.n1 f.c1 f.p1
 b2:BytesIn w f.A2 f.n2 f.c2 f.p2
 k0:f.n0 ≤ f.c0
 k1:f.n1 ≤ f.c1
 k2:f.n2 ≤ f.c2
 m0:f.n0 ≤ 9223372036854775807
 m1:f.n1 ≤ 9223372036854775807
 m2:f.n2 ≤ 9223372036854775807
theorem FrX.In.quiet {f:FrX} {w w':World} (h:f.In w) (hm:Mod (fun _=>False) w w'):f.In w':=⟨h.b0.quiet hm,h.b1.quiet hm,h.b2.quiet hm,h.k0,h.k1,h.k2,h.m0,h.m1,h.m2⟩
theorem bytes_none (w:World):BytesIn w none 0 0 []:=⟨rfl,fun _=>rfl,Src.nil,fun h=>absurd h (by omega)⟩
theorem FrX.zero_in (w:World):FrX.zero.In w:=⟨bytes_none w,bytes_none w,bytes_none w,Nat.le_refl _,Nat.le_refl _,Nat.le_refl _,by decide,by decide,by decide⟩
structure FrsIn (w:World) (A:Option Addr) (n:Nat) (fs:List FrX):Prop where
 len:fs.length = n
 at_:∀ i,i < n → ∃ b o,A = some ⟨b,o,none⟩ ∧ b < w.heap.size ∧ (∀ (j:Nat) (v:Value),(fs.getD i FrX.zero).cells[j]? = some v → w.cell? ⟨b,o + i * 9 + j,none⟩ = some v) ∧ (fs.getD i FrX.zero).In w
theorem FrsIn.quiet {w w':World} {A:Option Addr} {n:Nat} {fs:List FrX} (h:FrsIn w A n fs) (hm:Mod (fun _=>False) w w'):FrsIn w' A n fs:=
 ⟨h.len,fun i hi=>by
  obtain ⟨b,o,h1,h2,h3,h4⟩:=h.at_ i hi
  exact ⟨b,o,h1,Nat.lt_of_lt_of_le h2 hm.size,fun j v hv=>(World.cell?_of_block (hm.block b h2 (fun h=>h))).trans (h3 j v hv),h4.quiet hm⟩⟩
def FrX.fitsB (f:FrX):Bool:=decide (f.n0 ≤ 10000 ∧ f.n1 ≤ 10000 ∧ f.n2 ≤ 10000)
theorem lawFits (w:World) (W H:Int) (A:Option Addr) (n c:Nat) (hn:n ≤ 9223372036854775807):Calls Tryz.prog 94 #[.agg #[.int .i64 W,.int .i64 H,.slice A n c]] w fun e w'=>e = .returned (.bool (decide (n ≤ 10000))) ∧ Mod (fun _=>False) w w':=by
 have HM:=Lib.hid (((Mod.refl (fun _=>False) w).alloc (.cells #[.int .i64 W,.int .i64 H,.slice A n c] 56)))
 by_cases h:n ≤ 10000
 ·have d:decide ((n:Int) ≤ 10000) = true:=decide_eq_true (by omega)
  have e:decide (n ≤ 10000) = true:=decide_eq_true h
  go_enter Tryz.func94,Tryz.ntmps94
  go_wp2_with fail
  go_ret
  exact ⟨by rw [e];rfl,HM.out⟩
 ·have d:decide ((n:Int) ≤ 10000) = false:=decide_eq_false (by omega)
  have e:decide (n ≤ 10000) = false:=decide_eq_false h
  go_enter Tryz.func94,Tryz.ntmps94
  go_wp2_with fail
  go_ret
  exact ⟨by rw [e];rfl,HM.out⟩
theorem lawFitsFrame (w:World) (f:FrX) (h:f.In w):Calls Tryz.prog 52 #[.agg f.cells.toArray] w fun e w'=>e = .returned (.bool f.fitsB) ∧ Mod (fun _=>False) w w':=by
 obtain ⟨W0,H0,A0,n0,c0,W1,H1,A1,n1,c1,W2,H2,A2,n2,c2,p0,p1,p2⟩:=f
 have hs:=(Sat.nil (fun _=>False) w).alloc 58 #[.int .i64 W0,.int .i64 H0,.slice A0 n0 c0,.int .i64 W1,.int .i64 H1,.slice A1 n1 c1,.int .i64 W2,.int .i64 H2,.slice A2 n2 c2] rfl
 have K0:=fun w=>lawFits w W0 H0 A0 n0 c0 h.m0
 have K1:=fun w=>lawFits w W1 H1 A1 n1 c1 h.m1
 have K2:=fun w=>lawFits w W2 H2 A2 n2 c2 h.m2
 obtain ⟨t0,ht0⟩:∃ t,t = decide (n0 ≤ 10000):=⟨_,rfl⟩
 obtain ⟨t1,ht1⟩:∃ t,t = decide (n1 ≤ 10000):=⟨_,rfl⟩
 obtain ⟨t2,ht2⟩:∃ t,t = decide (n2 ≤ 10000):=⟨_,rfl⟩
 have hF:FrX.fitsB ⟨W0,H0,A0,n0,c0,W1,H1,A1,n1,c1,W2,H2,A2,n2,c2,p0,p1,p2⟩ = (t0 && (t1 && t2)):=by
  unfold FrX.fitsB
  dsimp only
  rw [ht0,ht1,ht2,Bool.eq_iff_iff]
  simp
 rw [hF]
 rw [← ht0] at K0
 rw [← ht1] at K1
 rw [← ht2] at K2
 unfold FrX.cells
 dsimp only
 have HS:=Lib.hid hs
 have HK:=Lib.hid (And.intro K0 (And.intro K1 K2))
 clear hs K0 K1 K2 ht0 ht1 ht2 hF h
 go_enter Tryz.func52,Tryz.ntmps52
 go_wp2_with fail
 refine (HK.out.1 _).mono ?_
 rintro e w1 ⟨rfl,hm1⟩
 have hs1:=Sat.after hm1 HS.out
 obtain ⟨pc,pf⟩:=(hs1.own_ 0 rfl).both
 have H1:=Lib.hid hs1
 clear hm1 hs1
 go_wp2_with fail
 refine (HK.out.2.1 _).mono ?_
 rintro e w2 ⟨rfl,hm2⟩
 have hs2:=H1.out.quiet hm2
 obtain ⟨pc2,pf2⟩:=(hs2.own_ 0 rfl).both
 have H2:=Lib.hid hs2
 clear hm2 hs2 pc pf H1
 go_wp2_with fail
 refine (HK.out.2.2 _).mono ?_
 rintro e w3 ⟨rfl,hm3⟩
 have H3:=Lib.hid (H2.out.mod.trans hm3)
 clear hm3 pc2 pf2 H2
 cases t0 <;> cases t1 <;> cases t2
 all_goals
  go_wp2_with fail
  go_ret
  exact ⟨rfl,H3.out⟩
end Go.Proofs.YthednemlahioeaaGreatDoor

