/-
  The reference's side, Right and Whole, of anything. Written by gen_gwhole.py.
-/
import Derived.Test.YtmkopcojnibhlaaGreatDoorP22
import Derived.Test.YtmkopcojnibhlaaGreatDoorP23
import Derived.Test.YtmkopcojnibhlaaGreatDoorP30
import Derived.Test.YtmkopcojnibhlaaGreatDoorP20
import Derived.Test.YtmkopcojnibhlaaGreatDoorP25
import Derived.Test.YtmkopcojnibhlaaGreatDoorP18
import Derived.Test.YtmkopcojnibhlaaGreatDoorP31
import Derived.Test.YtmkopcojnibhlaaGreatDoorP36
import Derived.Test.YtmkopcojnibhlaaGreatDoorP29
namespace Go.Proofs.YtmkopcojnibhlaaGreatDoor
open Go.RowKit
set_option maxRecDepth 100000
set_option maxHeartbeats 8000000
theorem reSide (w:World) (n:Int):Calls Tryz.prog 152 #[.int .i64 n] w fun e w'=>e = .returned (.bool (decide (1 ≤ n ∧ n ≤ 4096))) ∧ w = w':=by
 by_cases h1:1 ≤ n
 ·have d1:decide (1 ≤ n) = true:=decide_eq_true h1
  by_cases h2:n ≤ 4096
  ·have d2:decide (n ≤ 4096) = true:=decide_eq_true h2
   have HR:Hid (decide (1 ≤ n ∧ n ≤ 4096) = true):=decide_eq_true ⟨h1,h2⟩
   go_enter Tryz.func152,Tryz.ntmps152
   go_wp2_with fail
   go_ret
   exact ⟨by first | rfl | (rw [HR.out];rfl),rfl⟩
  ·have d2:decide (n ≤ 4096) = false:=decide_eq_false h2
   have HR:Hid (decide (1 ≤ n ∧ n ≤ 4096) = false):=decide_eq_false (fun h=>h2 h.2)
   go_enter Tryz.func152,Tryz.ntmps152
   go_wp2_with fail
   go_ret
   exact ⟨by first | rfl | (rw [HR.out];rfl),rfl⟩
 ·have d1:decide (1 ≤ n) = false:=decide_eq_false h1
  have HR:Hid (decide (1 ≤ n ∧ n ≤ 4096) = false):=decide_eq_false (fun h=>h1 h.1)
  go_enter Tryz.func152,Tryz.ntmps152
  go_wp2_with fail
  go_ret
  exact ⟨by first | rfl | (rw [HR.out];rfl),rfl⟩
theorem rightI_pos {W H:Int} {n:Nat} (h:rightI W H n = true):(1 ≤ W ∧ W ≤ 4096) ∧ (1 ≤ H ∧ H ≤ 4096):=by
 unfold rightI sidesI at h
 simp only [Bool.and_eq_true,decide_eq_true_eq] at h
 omega
theorem reRight (w:World) (W H:Int) (A:Option Addr) (n c:Nat):Calls Tryz.prog 94 #[.agg #[.int .i64 W,.int .i64 H,.slice A n c]] w fun e w'=>e = .returned (.bool (rightI W H n)) ∧ Mod (fun _=>False) w w':=by
 by_cases h1:1 ≤ W ∧ W ≤ 4096
 ·have d1:decide (1 ≤ W ∧ W ≤ 4096) = true:=decide_eq_true h1
  by_cases h2:1 ≤ H ∧ H ≤ 4096
  ·have d2:decide (1 ≤ H ∧ H ≤ 4096) = true:=decide_eq_true h2
   obtain ⟨p,hp⟩:∃ p,p = W * H:=⟨_,rfl⟩
   have hp1:0 ≤ p ∧ p ≤ 16777216:=by
    rw [hp]
    exact ⟨Int.mul_nonneg (by omega) (by omega),by
     have:=Int.mul_le_mul h1.2 h2.2 (by omega) (by omega:(0:Int) ≤ 4096)
     omega⟩
   have hw:wrap64 (W * H) = p:=by rw [← hp];exact IntWalk.wrap64_in _ ⟨by omega,by omega⟩
   have hw2:IntKind.i64.wrap (W * H) = p:=by rw [← hp];exact IntWalk.i64_in _ ⟨by omega,by omega⟩
   have HW:=Lib.hid (And.intro hw hw2)
   have hr:rightI W H n = decide ((n:Int) = p):=by unfold rightI sidesI;rw [decide_eq_true (show 1 ≤ W ∧ W ≤ 4096 ∧ 1 ≤ H ∧ H ≤ 4096 from ⟨h1.1,h1.2,h2.1,h2.2⟩),hp];rfl
   have HR:=Lib.hid hr
   clear hr hp hw hw2 h1 h2 hp1
   by_cases hn:(n:Int) = p
   ·have b1:((n:Int) == p) = true:=by simpa using hn
    have HN:=Lib.hid hn
    clear hn
    go_enter Tryz.func94,Tryz.ntmps94
    go_wp2_with fail
    refine (reSide _ W).mono ?_
    rintro e w1 ⟨rfl,rfl⟩
    rw [d1]
    go_wp2_with fail
    refine (reSide _ H).mono ?_
    rintro e w1 ⟨rfl,rfl⟩
    rw [d2]
    obtain ⟨hw,hw2⟩:=HW.out
    go_wp2_with fail
    go_ret
    exact ⟨by rw [HR.out,decide_eq_true HN.out];rfl,(Mod.refl _ _).alloc _⟩
   ·have b1:((n:Int) == p) = false:=by simpa using hn
    have HN:=Lib.hid hn
    clear hn
    go_enter Tryz.func94,Tryz.ntmps94
    go_wp2_with fail
    refine (reSide _ W).mono ?_
    rintro e w1 ⟨rfl,rfl⟩
    rw [d1]
    go_wp2_with fail
    refine (reSide _ H).mono ?_
    rintro e w1 ⟨rfl,rfl⟩
    rw [d2]
    obtain ⟨hw,hw2⟩:=HW.out
    go_wp2_with fail
    go_ret
    exact ⟨by rw [HR.out,decide_eq_false HN.out];rfl,(Mod.refl _ _).alloc _⟩
  ·have d2:decide (1 ≤ H ∧ H ≤ 4096) = false:=decide_eq_false h2
   have hr:rightI W H n = false:=by unfold rightI sidesI;rw [decide_eq_false (fun h=>h2 ⟨h.2.2.1,h.2.2.2⟩)];rfl
   have HR:=Lib.hid hr
   clear hr h1 h2
   go_enter Tryz.func94,Tryz.ntmps94
   go_wp2_with fail
   refine (reSide _ W).mono ?_
   rintro e w1 ⟨rfl,rfl⟩
   rw [d1]
   go_wp2_with fail
   refine (reSide _ H).mono ?_
   rintro e w1 ⟨rfl,rfl⟩
   rw [d2]
   go_wp2_with fail
   go_ret
   exact ⟨by rw [HR.out];rfl,(Mod.refl _ _).alloc _⟩
 ·have d1:decide (1 ≤ W ∧ W ≤ 4096) = false:=decide_eq_false h1
  have hr:rightI W H n = false:=by unfold rightI sidesI;rw [decide_eq_false (fun h=>h1 ⟨h.1,h.2.1⟩)];rfl
  have HR:=Lib.hid hr
  clear hr h1
  go_enter Tryz.func94,Tryz.ntmps94
  go_wp2_with fail
  refine (reSide _ W).mono ?_
  rintro e w1 ⟨rfl,rfl⟩
  rw [d1]
  go_wp2_with fail
  refine (reSide _ H).mono ?_
  rintro e w1 ⟨rfl,rfl⟩
  go_wp2_with fail
  go_ret
  exact ⟨by rw [HR.out];rfl,(Mod.refl _ _).alloc _⟩
theorem reWhole (w:World) (W0 H0 W1 H1 W2 H2:Int) (A0 A1 A2:Option Addr) (n0 c0 n1 c1 n2 c2:Nat):Calls Tryz.prog 53 #[.agg #[.int .i64 W0,.int .i64 H0,.slice A0 n0 c0,.int .i64 W1,.int .i64 H1,.slice A1 n1 c1,.int .i64 W2,.int .i64 H2,.slice A2 n2 c2]] w fun e w'=>e = .returned (.bool (wholeI W0 H0 n0 W1 H1 n1 W2 H2 n2)) ∧ Mod (fun _=>False) w w':=by
 have HS0:=Lib.hid ((Sat.nil (fun _=>False) w).alloc 40 #[.int .i64 W0,.int .i64 H0,.slice A0 n0 c0,.int .i64 W1,.int .i64 H1,.slice A1 n1 c1,.int .i64 W2,.int .i64 H2,.slice A2 n2 c2] rfl)
 by_cases r0:rightI W0 H0 n0 = true
 ·have f0:rightI W0 H0 n0 = true:=by simpa using r0
  obtain ⟨x0,y0⟩:=rightI_pos r0
  by_cases r1:rightI W1 H1 n1 = true
  ·have f1:rightI W1 H1 n1 = true:=by simpa using r1
   obtain ⟨x1,y1⟩:=rightI_pos r1
   by_cases r2:rightI W2 H2 n2 = true
   ·have f2:rightI W2 H2 n2 = true:=by simpa using r2
    obtain ⟨x2,y2⟩:=rightI_pos r2
    by_cases m0:W0 % 16 = 0
    ·have m00:(W0 % 16 == 0) = true:=by simpa using m0
     have m01:(W0.tmod 16 == 0) = true:=by rw [Int.tmod_eq_emod_of_nonneg (by omega)];simpa using m0
     by_cases m1:H0 % 16 = 0
     ·have m10:(H0 % 16 == 0) = true:=by simpa using m1
      have m11:(H0.tmod 16 == 0) = true:=by rw [Int.tmod_eq_emod_of_nonneg (by omega)];simpa using m1
      by_cases q0:W1 = W0 / 2
      ·have q00:(W1 == W0 / 2) = true:=by simpa using q0
       have q01:(W1 == W0.tdiv 2) = true:=by rw [Int.tdiv_eq_ediv_of_nonneg (by omega)];simpa using q0
       by_cases q1:H1 = H0 / 2
       ·have q10:(H1 == H0 / 2) = true:=by simpa using q1
        have q11:(H1 == H0.tdiv 2) = true:=by rw [Int.tdiv_eq_ediv_of_nonneg (by omega)];simpa using q1
        by_cases q2:W2 = W1
        ·have q20:(W2 == W1) = true:=by simpa using q2
         by_cases q3:H2 = H1
         ·have q30:(H2 == H1) = true:=by simpa using q3
          have hr:wholeI W0 H0 n0 W1 H1 n1 W2 H2 n2 = true:=by unfold wholeI;exact decide_eq_true ⟨r0,r1,r2,m0,m1,q0,q1,by omega,by omega⟩
          have HR:=Lib.hid hr
          clear hr
          clear m0
          clear m1
          clear q0
          clear q1
          clear q2
          clear q3
          go_enter Tryz.func53,Tryz.ntmps53
          go_wp2_with fail
          refine (reRight _ W0 H0 A0 n0 c0).mono ?_
          rintro e w1 ⟨rfl,hm1⟩
          rw [f0]
          have HS1:=Lib.hid (HS0.out.quiet hm1)
          obtain ⟨pc,pf⟩:=(HS1.out.own_ 0 rfl).both
          dsimp only at pc
          clear hm1
          go_wp2_with fail
          clear pc pf
          refine (reRight _ W1 H1 A1 n1 c1).mono ?_
          rintro e w2 ⟨rfl,hm2⟩
          rw [f1]
          have HS2:=Lib.hid (HS1.out.quiet hm2)
          obtain ⟨pc,pf⟩:=(HS2.out.own_ 0 rfl).both
          dsimp only at pc
          clear hm2
          go_wp2_with fail
          clear pc pf
          refine (reRight _ W2 H2 A2 n2 c2).mono ?_
          rintro e w3 ⟨rfl,hm3⟩
          rw [f2]
          have HS3:=Lib.hid (HS2.out.quiet hm3)
          obtain ⟨pc,pf⟩:=(HS3.out.own_ 0 rfl).both
          dsimp only at pc
          clear hm3
          go_wp2_with fail
          go_ret
          exact ⟨by rw [HR.out];rfl,HS3.out.mod⟩
         ·have q30:(H2 == H1) = false:=by simpa using q3
          have hr:wholeI W0 H0 n0 W1 H1 n1 W2 H2 n2 = false:=by unfold wholeI;exact decide_eq_false (fun h=>by obtain ⟨h0,h1,h2,h3,h4,h5,h6,h7,h8⟩:=h;first | exact absurd h0 (by assumption) | exact absurd h1 (by assumption) | exact absurd h2 (by assumption) | omega)
          have HR:=Lib.hid hr
          clear hr
          clear m0
          clear m1
          clear q0
          clear q1
          clear q2
          clear q3
          go_enter Tryz.func53,Tryz.ntmps53
          go_wp2_with fail
          refine (reRight _ W0 H0 A0 n0 c0).mono ?_
          rintro e w1 ⟨rfl,hm1⟩
          rw [f0]
          have HS1:=Lib.hid (HS0.out.quiet hm1)
          obtain ⟨pc,pf⟩:=(HS1.out.own_ 0 rfl).both
          dsimp only at pc
          clear hm1
          go_wp2_with fail
          clear pc pf
          refine (reRight _ W1 H1 A1 n1 c1).mono ?_
          rintro e w2 ⟨rfl,hm2⟩
          rw [f1]
          have HS2:=Lib.hid (HS1.out.quiet hm2)
          obtain ⟨pc,pf⟩:=(HS2.out.own_ 0 rfl).both
          dsimp only at pc
          clear hm2
          go_wp2_with fail
          clear pc pf
          refine (reRight _ W2 H2 A2 n2 c2).mono ?_
          rintro e w3 ⟨rfl,hm3⟩
          rw [f2]
          have HS3:=Lib.hid (HS2.out.quiet hm3)
          obtain ⟨pc,pf⟩:=(HS3.out.own_ 0 rfl).both
          dsimp only at pc
          clear hm3
          go_wp2_with fail
          go_ret
          exact ⟨by rw [HR.out];rfl,HS3.out.mod⟩
        ·have q20:(W2 == W1) = false:=by simpa using q2
         have hr:wholeI W0 H0 n0 W1 H1 n1 W2 H2 n2 = false:=by unfold wholeI;exact decide_eq_false (fun h=>by obtain ⟨h0,h1,h2,h3,h4,h5,h6,h7,h8⟩:=h;first | exact absurd h0 (by assumption) | exact absurd h1 (by assumption) | exact absurd h2 (by assumption) | omega)
         have HR:=Lib.hid hr
         clear hr
         clear m0
         clear m1
         clear q0
         clear q1
         clear q2
         go_enter Tryz.func53,Tryz.ntmps53
         go_wp2_with fail
         refine (reRight _ W0 H0 A0 n0 c0).mono ?_
         rintro e w1 ⟨rfl,hm1⟩
         rw [f0]
         have HS1:=Lib.hid (HS0.out.quiet hm1)
         obtain ⟨pc,pf⟩:=(HS1.out.own_ 0 rfl).both
         dsimp only at pc
         clear hm1
         go_wp2_with fail
         clear pc pf
         refine (reRight _ W1 H1 A1 n1 c1).mono ?_
         rintro e w2 ⟨rfl,hm2⟩
         rw [f1]
         have HS2:=Lib.hid (HS1.out.quiet hm2)
         obtain ⟨pc,pf⟩:=(HS2.out.own_ 0 rfl).both
         dsimp only at pc
         clear hm2
         go_wp2_with fail
         clear pc pf
         refine (reRight _ W2 H2 A2 n2 c2).mono ?_
         rintro e w3 ⟨rfl,hm3⟩
         rw [f2]
         have HS3:=Lib.hid (HS2.out.quiet hm3)
         obtain ⟨pc,pf⟩:=(HS3.out.own_ 0 rfl).both
         dsimp only at pc
         clear hm3
         go_wp2_with fail
         go_ret
         exact ⟨by rw [HR.out];rfl,HS3.out.mod⟩
       ·have q10:(H1 == H0 / 2) = false:=by simpa using q1
        have q11:(H1 == H0.tdiv 2) = false:=by rw [Int.tdiv_eq_ediv_of_nonneg (by omega)];simpa using q1
        have hr:wholeI W0 H0 n0 W1 H1 n1 W2 H2 n2 = false:=by unfold wholeI;exact decide_eq_false (fun h=>by obtain ⟨h0,h1,h2,h3,h4,h5,h6,h7,h8⟩:=h;first | exact absurd h0 (by assumption) | exact absurd h1 (by assumption) | exact absurd h2 (by assumption) | omega)
        have HR:=Lib.hid hr
        clear hr
        clear m0
        clear m1
        clear q0
        clear q1
        go_enter Tryz.func53,Tryz.ntmps53
        go_wp2_with fail
        refine (reRight _ W0 H0 A0 n0 c0).mono ?_
        rintro e w1 ⟨rfl,hm1⟩
        rw [f0]
        have HS1:=Lib.hid (HS0.out.quiet hm1)
        obtain ⟨pc,pf⟩:=(HS1.out.own_ 0 rfl).both
        dsimp only at pc
        clear hm1
        go_wp2_with fail
        clear pc pf
        refine (reRight _ W1 H1 A1 n1 c1).mono ?_
        rintro e w2 ⟨rfl,hm2⟩
        rw [f1]
        have HS2:=Lib.hid (HS1.out.quiet hm2)
        obtain ⟨pc,pf⟩:=(HS2.out.own_ 0 rfl).both
        dsimp only at pc
        clear hm2
        go_wp2_with fail
        clear pc pf
        refine (reRight _ W2 H2 A2 n2 c2).mono ?_
        rintro e w3 ⟨rfl,hm3⟩
        rw [f2]
        have HS3:=Lib.hid (HS2.out.quiet hm3)
        obtain ⟨pc,pf⟩:=(HS3.out.own_ 0 rfl).both
        dsimp only at pc
        clear hm3
        go_wp2_with fail
        go_ret
        exact ⟨by rw [HR.out];rfl,HS3.out.mod⟩
      ·have q00:(W1 == W0 / 2) = false:=by simpa using q0
       have q01:(W1 == W0.tdiv 2) = false:=by rw [Int.tdiv_eq_ediv_of_nonneg (by omega)];simpa using q0
       have hr:wholeI W0 H0 n0 W1 H1 n1 W2 H2 n2 = false:=by unfold wholeI;exact decide_eq_false (fun h=>by obtain ⟨h0,h1,h2,h3,h4,h5,h6,h7,h8⟩:=h;first | exact absurd h0 (by assumption) | exact absurd h1 (by assumption) | exact absurd h2 (by assumption) | omega)
       have HR:=Lib.hid hr
       clear hr
       clear m0
       clear m1
       clear q0
       go_enter Tryz.func53,Tryz.ntmps53
       go_wp2_with fail
       refine (reRight _ W0 H0 A0 n0 c0).mono ?_
       rintro e w1 ⟨rfl,hm1⟩
       rw [f0]
       have HS1:=Lib.hid (HS0.out.quiet hm1)
       obtain ⟨pc,pf⟩:=(HS1.out.own_ 0 rfl).both
       dsimp only at pc
       clear hm1
       go_wp2_with fail
       clear pc pf
       refine (reRight _ W1 H1 A1 n1 c1).mono ?_
       rintro e w2 ⟨rfl,hm2⟩
       rw [f1]
       have HS2:=Lib.hid (HS1.out.quiet hm2)
       obtain ⟨pc,pf⟩:=(HS2.out.own_ 0 rfl).both
       dsimp only at pc
       clear hm2
       go_wp2_with fail
       clear pc pf
       refine (reRight _ W2 H2 A2 n2 c2).mono ?_
       rintro e w3 ⟨rfl,hm3⟩
       rw [f2]
       have HS3:=Lib.hid (HS2.out.quiet hm3)
       obtain ⟨pc,pf⟩:=(HS3.out.own_ 0 rfl).both
       dsimp only at pc
       clear hm3
       go_wp2_with fail
       go_ret
       exact ⟨by rw [HR.out];rfl,HS3.out.mod⟩
     ·have m10:(H0 % 16 == 0) = false:=by simpa using m1
      have m11:(H0.tmod 16 == 0) = false:=by rw [Int.tmod_eq_emod_of_nonneg (by omega)];simpa using m1
      have hr:wholeI W0 H0 n0 W1 H1 n1 W2 H2 n2 = false:=by unfold wholeI;exact decide_eq_false (fun h=>by obtain ⟨h0,h1,h2,h3,h4,h5,h6,h7,h8⟩:=h;first | exact absurd h0 (by assumption) | exact absurd h1 (by assumption) | exact absurd h2 (by assumption) | omega)
      have HR:=Lib.hid hr
      clear hr
      clear m0
      clear m1
      go_enter Tryz.func53,Tryz.ntmps53
      go_wp2_with fail
      refine (reRight _ W0 H0 A0 n0 c0).mono ?_
      rintro e w1 ⟨rfl,hm1⟩
      rw [f0]
      have HS1:=Lib.hid (HS0.out.quiet hm1)
      obtain ⟨pc,pf⟩:=(HS1.out.own_ 0 rfl).both
      dsimp only at pc
      clear hm1
      go_wp2_with fail
      clear pc pf
      refine (reRight _ W1 H1 A1 n1 c1).mono ?_
      rintro e w2 ⟨rfl,hm2⟩
      rw [f1]
      have HS2:=Lib.hid (HS1.out.quiet hm2)
      obtain ⟨pc,pf⟩:=(HS2.out.own_ 0 rfl).both
      dsimp only at pc
      clear hm2
      go_wp2_with fail
      clear pc pf
      refine (reRight _ W2 H2 A2 n2 c2).mono ?_
      rintro e w3 ⟨rfl,hm3⟩
      rw [f2]
      have HS3:=Lib.hid (HS2.out.quiet hm3)
      obtain ⟨pc,pf⟩:=(HS3.out.own_ 0 rfl).both
      dsimp only at pc
      clear hm3
      go_wp2_with fail
      go_ret
      exact ⟨by rw [HR.out];rfl,HS3.out.mod⟩
    ·have m00:(W0 % 16 == 0) = false:=by simpa using m0
     have m01:(W0.tmod 16 == 0) = false:=by rw [Int.tmod_eq_emod_of_nonneg (by omega)];simpa using m0
     have hr:wholeI W0 H0 n0 W1 H1 n1 W2 H2 n2 = false:=by unfold wholeI;exact decide_eq_false (fun h=>by obtain ⟨h0,h1,h2,h3,h4,h5,h6,h7,h8⟩:=h;first | exact absurd h0 (by assumption) | exact absurd h1 (by assumption) | exact absurd h2 (by assumption) | omega)
     have HR:=Lib.hid hr
     clear hr
     clear m0
     go_enter Tryz.func53,Tryz.ntmps53
     go_wp2_with fail
     refine (reRight _ W0 H0 A0 n0 c0).mono ?_
     rintro e w1 ⟨rfl,hm1⟩
     rw [f0]
     have HS1:=Lib.hid (HS0.out.quiet hm1)
     obtain ⟨pc,pf⟩:=(HS1.out.own_ 0 rfl).both
     dsimp only at pc
     clear hm1
     go_wp2_with fail
     clear pc pf
     refine (reRight _ W1 H1 A1 n1 c1).mono ?_
     rintro e w2 ⟨rfl,hm2⟩
     rw [f1]
     have HS2:=Lib.hid (HS1.out.quiet hm2)
     obtain ⟨pc,pf⟩:=(HS2.out.own_ 0 rfl).both
     dsimp only at pc
     clear hm2
     go_wp2_with fail
     clear pc pf
     refine (reRight _ W2 H2 A2 n2 c2).mono ?_
     rintro e w3 ⟨rfl,hm3⟩
     rw [f2]
     have HS3:=Lib.hid (HS2.out.quiet hm3)
     obtain ⟨pc,pf⟩:=(HS3.out.own_ 0 rfl).both
     dsimp only at pc
     clear hm3
     go_wp2_with fail
     go_ret
     exact ⟨by rw [HR.out];rfl,HS3.out.mod⟩
   ·have f2:rightI W2 H2 n2 = false:=by simpa using r2
    have hr:wholeI W0 H0 n0 W1 H1 n1 W2 H2 n2 = false:=by unfold wholeI;exact decide_eq_false (fun h=>by obtain ⟨h0,h1,h2,h3,h4,h5,h6,h7,h8⟩:=h;first | exact absurd h0 (by assumption) | exact absurd h1 (by assumption) | exact absurd h2 (by assumption) | omega)
    have HR:=Lib.hid hr
    clear hr
    go_enter Tryz.func53,Tryz.ntmps53
    go_wp2_with fail
    refine (reRight _ W0 H0 A0 n0 c0).mono ?_
    rintro e w1 ⟨rfl,hm1⟩
    rw [f0]
    have HS1:=Lib.hid (HS0.out.quiet hm1)
    obtain ⟨pc,pf⟩:=(HS1.out.own_ 0 rfl).both
    dsimp only at pc
    clear hm1
    go_wp2_with fail
    clear pc pf
    refine (reRight _ W1 H1 A1 n1 c1).mono ?_
    rintro e w2 ⟨rfl,hm2⟩
    rw [f1]
    have HS2:=Lib.hid (HS1.out.quiet hm2)
    obtain ⟨pc,pf⟩:=(HS2.out.own_ 0 rfl).both
    dsimp only at pc
    clear hm2
    go_wp2_with fail
    clear pc pf
    refine (reRight _ W2 H2 A2 n2 c2).mono ?_
    rintro e w3 ⟨rfl,hm3⟩
    rw [f2]
    have HS3:=Lib.hid (HS2.out.quiet hm3)
    obtain ⟨pc,pf⟩:=(HS3.out.own_ 0 rfl).both
    dsimp only at pc
    clear hm3
    go_wp2_with fail
    go_ret
    exact ⟨by rw [HR.out];rfl,HS3.out.mod⟩
  ·have f1:rightI W1 H1 n1 = false:=by simpa using r1
   have hr:wholeI W0 H0 n0 W1 H1 n1 W2 H2 n2 = false:=by unfold wholeI;exact decide_eq_false (fun h=>by obtain ⟨h0,h1,h2,h3,h4,h5,h6,h7,h8⟩:=h;first | exact absurd h0 (by assumption) | exact absurd h1 (by assumption) | exact absurd h2 (by assumption) | omega)
   have HR:=Lib.hid hr
   clear hr
   go_enter Tryz.func53,Tryz.ntmps53
   go_wp2_with fail
   refine (reRight _ W0 H0 A0 n0 c0).mono ?_
   rintro e w1 ⟨rfl,hm1⟩
   rw [f0]
   have HS1:=Lib.hid (HS0.out.quiet hm1)
   obtain ⟨pc,pf⟩:=(HS1.out.own_ 0 rfl).both
   dsimp only at pc
   clear hm1
   go_wp2_with fail
   clear pc pf
   refine (reRight _ W1 H1 A1 n1 c1).mono ?_
   rintro e w2 ⟨rfl,hm2⟩
   rw [f1]
   have HS2:=Lib.hid (HS1.out.quiet hm2)
   obtain ⟨pc,pf⟩:=(HS2.out.own_ 0 rfl).both
   dsimp only at pc
   clear hm2
   go_wp2_with fail
   clear pc pf
   refine (reRight _ W2 H2 A2 n2 c2).mono ?_
   rintro e w3 ⟨rfl,hm3⟩
   have HS3:=Lib.hid (HS2.out.quiet hm3)
   obtain ⟨pc,pf⟩:=(HS3.out.own_ 0 rfl).both
   dsimp only at pc
   clear hm3
   go_wp2_with fail
   go_ret
   exact ⟨by rw [HR.out];rfl,HS3.out.mod⟩
 ·have f0:rightI W0 H0 n0 = false:=by simpa using r0
  have hr:wholeI W0 H0 n0 W1 H1 n1 W2 H2 n2 = false:=by unfold wholeI;exact decide_eq_false (fun h=>by obtain ⟨h0,h1,h2,h3,h4,h5,h6,h7,h8⟩:=h;first | exact absurd h0 (by assumption) | exact absurd h1 (by assumption) | exact absurd h2 (by assumption) | omega)
  have HR:=Lib.hid hr
  clear hr
  go_enter Tryz.func53,Tryz.ntmps53
  go_wp2_with fail
  refine (reRight _ W0 H0 A0 n0 c0).mono ?_
  rintro e w1 ⟨rfl,hm1⟩
  rw [f0]
  have HS1:=Lib.hid (HS0.out.quiet hm1)
  obtain ⟨pc,pf⟩:=(HS1.out.own_ 0 rfl).both
  dsimp only at pc
  clear hm1
  go_wp2_with fail
  clear pc pf
  refine (reRight _ W1 H1 A1 n1 c1).mono ?_
  rintro e w2 ⟨rfl,hm2⟩
  have HS2:=Lib.hid (HS1.out.quiet hm2)
  obtain ⟨pc,pf⟩:=(HS2.out.own_ 0 rfl).both
  dsimp only at pc
  clear hm2
  go_wp2_with fail
  clear pc pf
  refine (reRight _ W2 H2 A2 n2 c2).mono ?_
  rintro e w3 ⟨rfl,hm3⟩
  have HS3:=Lib.hid (HS2.out.quiet hm3)
  obtain ⟨pc,pf⟩:=(HS3.out.own_ 0 rfl).both
  dsimp only at pc
  clear hm3
  go_wp2_with fail
  go_ret
  exact ⟨by rw [HR.out];rfl,HS3.out.mod⟩
def ReNewPost (w:World) (W H G q tg:Int) (e:Ending) (w':World):Prop:=
 Mod (fun _=>False) w w' ∧ ((seqRight W H G = false ∧ e = .returned (.tuple #[.pointer none,.int .i64 121])) ∨ (seqRight W H G = true ∧ encArgs q tg = false ∧ e = .returned (.tuple #[.pointer none,.int .i64 1])) ∨
  ∃ g,seqRight W H G = true ∧ encArgs q tg = true ∧ e = .returned (.tuple #[.pointer (some ⟨g,0,none⟩),.int .i64 0]) ∧ Blk w' g 46 (rencV W H G q tg 0 zeroFr) ∧ w.heap.size ≤ g)
theorem reNew14 (w:World) (W H G q tg:Int):Calls Tryz.prog 15 #[.agg #[.int .i64 W,.int .i64 H,.int .i64 G],.int .i64 q,.int .i64 tg] w (ReNewPost w W H G q tg):=by
 have hM:Mod (fun _=>False) w (w.alloc (.cells #[.int .i64 W,.int .i64 H,.int .i64 G] 23)):=(Mod.refl _ _).alloc _
 have hb:=Blk.new w 23 #[.int .i64 W,.int .i64 H,.int .i64 G]
 have H0:=Lib.hid (And.intro hM hb)
 clear hM hb
 cases hr:seqRight W H G with
 | false=>
  have HR:=Lib.hid hr
  clear hr
  go_enter Tryz.func15,Tryz.ntmps15
  go_wp2_with fail
  refine (refRightA _ W H G).mono ?_
  rintro e w1 ⟨rfl,hm⟩
  rw [HR.out]
  have H1:=Lib.hid (H0.out.1.trans hm)
  clear hm
  go_wp2_with fail
  go_ret2
  exact ⟨H1.out,.inl ⟨HR.out,rfl⟩⟩
 | true=>
  have HR:=Lib.hid hr
  clear hr
  by_cases ha:encArgs q tg = true
  ·have ha2:=of_decide_eq_true ha
   have d1:decide (q < 0) = false:=decide_eq_false (by omega)
   have d2:decide (31 < q) = false:=decide_eq_false (by omega)
   have d3:decide (tg < 0) = false:=decide_eq_false (by omega)
   have d4:decide (1048576 < tg) = false:=decide_eq_false (by omega)
   have HA:=Lib.hid ha
   clear ha ha2
   go_enter Tryz.func15,Tryz.ntmps15
   go_wp2_with fail
   refine (refRightA _ W H G).mono ?_
   rintro e w1 ⟨rfl,hm⟩
   rw [HR.out]
   have hb1:=H0.out.2.keep hm (fun h=>h)
   obtain ⟨bc,bf⟩:=hb1.both
   have H1:=Lib.hid (H0.out.1.trans hm)
   clear hm hb1
   go_wp2_with fail
   go_ret2
   exact ⟨H1.out.alloc _,.inr (.inr ⟨_,HR.out,HA.out,rfl,Blk.new _ _ _,H1.out.size⟩)⟩
  ·have ha2:¬ ((0 ≤ q ∧ q ≤ 31) ∧ 0 ≤ tg ∧ tg ≤ 1048576):=fun h=>ha (decide_eq_true h)
   have hcase:q < 0 ∨ (0 ≤ q ∧ 31 < q) ∨ (0 ≤ q ∧ q ≤ 31 ∧ tg < 0) ∨ (0 ≤ q ∧ q ≤ 31 ∧ 0 ≤ tg ∧ 1048576 < tg):=by omega
   have HA:=Lib.hid (show encArgs q tg = false by simpa using ha)
   clear ha ha2
   rcases hcase with h | ⟨h,h2⟩ | ⟨h,h2,h3⟩ | ⟨h,h2,h3,h4⟩
   all_goals
    have d1:decide (q < 0) = decide (q < 0):=rfl
    go_enter Tryz.func15,Tryz.ntmps15
    go_wp2_with fail
    refine (refRightA _ W H G).mono ?_
    rintro e w1 ⟨rfl,hm⟩
    rw [HR.out]
    have H1:=Lib.hid (H0.out.1.trans hm)
    clear hm
    go_wp2_with fail
    go_ret2
    exact ⟨H1.out,.inr (.inl ⟨HR.out,HA.out,rfl⟩)⟩
theorem reright_bd {W H G:Int} (hr:seqRight W H G = true):(16 ≤ W ∧ W ≤ 4096 ∧ W % 16 = 0) ∧ (16 ≤ H ∧ H ≤ 4096 ∧ H % 16 = 0) ∧ 1 ≤ G ∧ G ≤ 64:=by
 unfold seqRight at hr
 rwa [decide_eq_true_eq] at hr
theorem reFits (w:World) (W H G:Int) (hr:seqRight W H G = true) (K:Bool) (n q:Nat) (hK:K = decide (n = 0)) (hn:(n:Int) < G) (hq:q ≤ 31) :
  Calls Tryz.prog 95 #[.agg #[.bool K,.int .i64 (n:Int),.int .i64 (q:Int)],.agg #[.int .i64 W,.int .i64 H,.int .i64 G]] w fun e w'=>e = .returned (.bool true) ∧ Mod (fun _=>False) w w':=by
 obtain ⟨⟨a1,a2,a3⟩,⟨a4,a5,a6⟩,a7,a8⟩:=reright_bd hr
 have h0:=((Sat.nil (fun _=>False) w).alloc 82 #[.bool K,.int .i64 (n:Int),.int .i64 (q:Int)] rfl).alloc (g:=w.heap.size + 1) 23 #[.int .i64 W,.int .i64 H,.int .i64 G] (by simp)
 have t1:decide ((n:Int) < G) = true:=decide_eq_true hn
 have t2:decide ((q:Int) ≤ 31) = true:=decide_eq_true (by omega)
 have t3:decide ((0:Int) ≤ (n:Int)) = true:=decide_eq_true (by omega)
 have t4:decide ((0:Int) ≤ (q:Int)) = true:=decide_eq_true (by omega)
 have t5:(K == ((n:Int) == 0)) = true:=by
  rw [hK,beq_iff_eq]
  by_cases e:n = 0
  ·subst e;rfl
  ·rw [decide_eq_false e];symm;rw [beq_eq_false_iff_ne];omega
 have H0:=Lib.hid (And.intro h0 hr)
 clear h0 hr hK
 go_enter Tryz.func95,Tryz.ntmps95
 go_wp2_with fail
 refine (refRightA _ W H G).mono ?_
 rintro e w1 ⟨rfl,hm1⟩
 rw [H0.out.2]
 have HS:=H0.out.1.quiet hm1
 obtain ⟨pc,pf⟩:=(HS.own_ 1 rfl).both
 obtain ⟨qc,qf⟩:=(HS.own_ 0 rfl).both
 have H1:=Lib.hid HS
 clear HS hm1 a3 a6
 go_wp2_with fail
 go_ret
 exact ⟨rfl,H1.out.mod⟩
theorem reHeader (w:World) (W H G:Int) (hr:seqRight W H G = true) (K:Bool) (n q:Nat) (hK:K = decide (n = 0)) (hn:(n:Int) < G) (hq:q ≤ 31) :
  Calls Tryz.prog 54 #[.agg #[.bool K,.int .i64 (n:Int),.int .i64 (q:Int)],.agg #[.int .i64 W,.int .i64 H,.int .i64 G]] w fun e w'=>∃ v,e = .returned (.tuple #[v,.int .i64 0]) ∧ Bytes w' w.heap.size v (hdrB K n q) ∧ Mod (fun _=>False) w w':=by
 obtain ⟨_,_,a7,a8⟩:=reright_bd hr
 have h0:=((Sat.nil (fun _=>False) w).alloc 82 #[.bool K,.int .i64 (n:Int),.int .i64 (q:Int)] rfl).alloc (g:=w.heap.size + 1) 23 #[.int .i64 W,.int .i64 H,.int .i64 G] (by simp)
 have hB:hdrB K n q = packL ([if K = true then 1 else 0] ++ codeL n ++ digitsL q 5):=by cases K <;> rfl
 have hn64:n ≤ 64:=by omega
 have hcl:=codeL_len (x:=n) (by omega)
 have H0:=Lib.hid (And.intro h0 (And.intro (And.intro hr (And.intro hK hn)) hB))
 clear h0 hr hB hn hK
 go_enter Tryz.func54,Tryz.ntmps54
 go_wp2_with fail
 refine (reFits _ W H G H0.out.2.1.1 K n q H0.out.2.1.2.1 H0.out.2.1.2.2 hq).mono ?_
 rintro e w1 ⟨rfl,hm1⟩
 have HS:=H0.out.1.quiet hm1
 obtain ⟨pc,pf⟩:=(HS.own_ 1 rfl).both
 have hG:GrowS w w1 _ (.slice none 0 0) []:=⟨World.ownsRow_nil _ _ _ _,HS⟩
 have HA:=Lib.hid (And.intro hG hG.2.mod.size)
 clear HS hm1 hG
 cases K
 ·go_upto_region 8 with (at_builtin;have _t:=HA;refine wpList_app_u8 _ rfl (.tmp 18) (.tmp 19) rfl w.heap.size (.slice none 0 0) [] 0 rfl rfl HA.out.1.1 HA.out.2 (by simp) ?_;intro v2 w2 hown2 hM2 _ _;have HO:=Lib.hid (HA.out.1.app (by intro e he;simp at he;rcases he with rfl | rfl <;> (dsimp only;decide)) hown2 hM2);clear hown2 hM2)
  clear pc pf HA
  obtain ⟨pc,pf⟩:=(HO.out.2.own_ 1 rfl).both
  go_wp2_with fail
  refine (refCode w2 n (by omega)).mono ?_
  rintro e w3 ⟨s3,rfl,hs3,hm3⟩
  obtain ⟨A3,d3,hv3⟩:=own_shape hs3
  obtain ⟨c3,hc3⟩:∃ c3,c3 = (codeL n).length:=⟨_,rfl⟩
  rw [← hc3] at hv3
  subst hv3
  have HX:=Lib.hid (And.intro (HO.out.quiet hm3) (And.intro hs3.in_ (And.intro (HO.out.quiet hm3).2.mod.size (Nat.le_trans (Nat.le_of_eq hc3) hcl))))
  clear hs3 hm3 hc3 pc pf HO
  go_upto_region 9 with (at_builtin;have _t:=HX;refine wpList_app_u8s _ rfl (.tmp 21) (.tmp 25) rfl w.heap.size v2 ([] ++ [0]) A3 c3 d3 (codeL n) rfl rfl HX.out.1.1 HX.out.2.1 HX.out.2.2.1 (by have:=HX.out.2.2.2;simp;omega) ?_;intro v4 w4 hown4 hM4 _ _;have HO:=Lib.hid (HX.out.1.app (by intro e he;simp at he;rcases he with rfl | rfl <;> (dsimp only;decide)) hown4 hM4);clear hown4 hM4)
  clear HX
  obtain ⟨pc,pf⟩:=(HO.out.2.own_ 1 rfl).both
  go_wp2_with fail
  refine (refDigits w4 q 5 (by omega) (by omega)).mono ?_
  rintro e w5 ⟨s5,rfl,hs5,hm5⟩
  obtain ⟨A5,d5,hv5⟩:=own_shape hs5
  rw [digitsL_length] at hv5
  subst hv5
  have HX:=Lib.hid (And.intro (HO.out.quiet hm5) (And.intro hs5.in_ (HO.out.quiet hm5).2.mod.size))
  clear hs5 hm5 pc pf HO
  go_upto_region 10 with (at_builtin;have _t:=HX;refine wpList_app_u8s _ rfl (.tmp 27) (.tmp 31) rfl w.heap.size v4 ([] ++ [0] ++ codeL n) A5 5 d5 (digitsL q 5) rfl rfl HX.out.1.1 HX.out.2.1 HX.out.2.2 (by simp;omega) ?_;intro v6 w6 hown6 hM6 _ _;have HO:=Lib.hid (HX.out.1.app (by intro e he;simp at he;rcases he with rfl | rfl <;> (dsimp only;decide)) hown6 hM6);clear hown6 hM6)
  clear HX
  obtain ⟨A6,d6,hv6⟩:=own_shape HO.out.1
  obtain ⟨m6,hm6⟩:∃ m6,m6 = ([] ++ [0] ++ codeL n ++ digitsL q 5).length:=⟨_,rfl⟩
  rw [← hm6] at hv6
  subst hv6
  have hpos:0 < m6:=by rw [hm6];simp
  have hle:m6 ≤ 1048576:=by rw [hm6];simp [digitsL_length];omega
  clear hm6
  go_wp2_with fail
  refine (refPack w6 A6 m6 d6 _ (Bytes.in_ HO.out.1) hpos hle).mono ?_
  rintro e w9 ⟨s9,rfl,hs9,hm9⟩
  have HF:=Lib.hid (And.intro (hs9.down HO.out.2.mod.size) (HO.out.2.mod.trans hm9))
  clear hs9 hm9
  go_wp2_with fail
  go_ret2
  exact ⟨s9,rfl,by rw [H0.out.2.2];exact HF.out.1,HF.out.2⟩
 ·go_upto_region 8 with (at_builtin;have _t:=HA;refine wpList_app_u8 _ rfl (.tmp 15) (.tmp 16) rfl w.heap.size (.slice none 0 0) [] 1 rfl rfl HA.out.1.1 HA.out.2 (by simp) ?_;intro v2 w2 hown2 hM2 _ _;have HO:=Lib.hid (HA.out.1.app (by intro e he;simp at he;rcases he with rfl | rfl <;> (dsimp only;decide)) hown2 hM2);clear hown2 hM2)
  clear pc pf HA
  obtain ⟨pc,pf⟩:=(HO.out.2.own_ 1 rfl).both
  go_wp2_with fail
  refine (refCode w2 n (by omega)).mono ?_
  rintro e w3 ⟨s3,rfl,hs3,hm3⟩
  obtain ⟨A3,d3,hv3⟩:=own_shape hs3
  obtain ⟨c3,hc3⟩:∃ c3,c3 = (codeL n).length:=⟨_,rfl⟩
  rw [← hc3] at hv3
  subst hv3
  have HX:=Lib.hid (And.intro (HO.out.quiet hm3) (And.intro hs3.in_ (And.intro (HO.out.quiet hm3).2.mod.size (Nat.le_trans (Nat.le_of_eq hc3) hcl))))
  clear hs3 hm3 hc3 pc pf HO
  go_upto_region 9 with (at_builtin;have _t:=HX;refine wpList_app_u8s _ rfl (.tmp 21) (.tmp 25) rfl w.heap.size v2 ([] ++ [1]) A3 c3 d3 (codeL n) rfl rfl HX.out.1.1 HX.out.2.1 HX.out.2.2.1 (by have:=HX.out.2.2.2;simp;omega) ?_;intro v4 w4 hown4 hM4 _ _;have HO:=Lib.hid (HX.out.1.app (by intro e he;simp at he;rcases he with rfl | rfl <;> (dsimp only;decide)) hown4 hM4);clear hown4 hM4)
  clear HX
  obtain ⟨pc,pf⟩:=(HO.out.2.own_ 1 rfl).both
  go_wp2_with fail
  refine (refDigits w4 q 5 (by omega) (by omega)).mono ?_
  rintro e w5 ⟨s5,rfl,hs5,hm5⟩
  obtain ⟨A5,d5,hv5⟩:=own_shape hs5
  rw [digitsL_length] at hv5
  subst hv5
  have HX:=Lib.hid (And.intro (HO.out.quiet hm5) (And.intro hs5.in_ (HO.out.quiet hm5).2.mod.size))
  clear hs5 hm5 pc pf HO
  go_upto_region 10 with (at_builtin;have _t:=HX;refine wpList_app_u8s _ rfl (.tmp 27) (.tmp 31) rfl w.heap.size v4 ([] ++ [1] ++ codeL n) A5 5 d5 (digitsL q 5) rfl rfl HX.out.1.1 HX.out.2.1 HX.out.2.2 (by simp;omega) ?_;intro v6 w6 hown6 hM6 _ _;have HO:=Lib.hid (HX.out.1.app (by intro e he;simp at he;rcases he with rfl | rfl <;> (dsimp only;decide)) hown6 hM6);clear hown6 hM6)
  clear HX
  obtain ⟨A6,d6,hv6⟩:=own_shape HO.out.1
  obtain ⟨m6,hm6⟩:∃ m6,m6 = ([] ++ [1] ++ codeL n ++ digitsL q 5).length:=⟨_,rfl⟩
  rw [← hm6] at hv6
  subst hv6
  have hpos:0 < m6:=by rw [hm6];simp
  have hle:m6 ≤ 1048576:=by rw [hm6];simp [digitsL_length];omega
  clear hm6
  go_wp2_with fail
  refine (refPack w6 A6 m6 d6 _ (Bytes.in_ HO.out.1) hpos hle).mono ?_
  rintro e w9 ⟨s9,rfl,hs9,hm9⟩
  have HF:=Lib.hid (And.intro (hs9.down HO.out.2.mod.size) (HO.out.2.mod.trans hm9))
  clear hs9 hm9
  go_wp2_with fail
  go_ret2
  exact ⟨s9,rfl,by rw [H0.out.2.2];exact HF.out.1,HF.out.2⟩
def RByRel (w:World) (code:List UInt8) (v3 v4:Value) (wr:World):Prop:=∃ k:Nat,k ≤ code.length ∧ v4 = .int .i64 (k:Int) ∧ Bytes wr w.heap.size v3 (code.take k) ∧ Mod (fun _=>False) w wr
theorem reBytes (w:World) (g:Nat) (v:Value) (code:List UInt8) (wide:Nat) (h:REAt w g v code wide) (hl:code.length ≤ 1048575) :
  Calls Tryz.prog 59 #[.pointer (some ⟨g,0,none⟩)] w fun e w'=>∃ v',e = .returned v' ∧ Bytes w' w.heap.size v' code ∧ Mod (fun _=>False) w w':=by
 obtain ⟨r,k,rfl,hrg⟩:=h.shape
 have H:=Lib.hid h
 obtain ⟨n,hn⟩:∃ n,n = code.length:=⟨_,rfl⟩
 have HN:=Lib.hid hn
 rw [← hn] at hl
 clear h hn
 go_enter Tryz.func59,Tryz.ntmps59
 go_wp2_with fail
 go_loopw [3,4] (RByRel w code) (fun _ s _=>n - (intOf s).toNat)
 case atStart=>exact ⟨0,Nat.zero_le _,rfl,Bytes.nil _ _,Mod.refl _ _⟩
 case round=>
  rename World=>wr
  obtain ⟨i,hi,rfl,hv,hM⟩:=hrel
  have hb:=H.out.blk.keep hM (fun h=>h)
  rw [← HN.out] at hb hi
  have hcl:=hb.cell 0
  have g0:wr.cell? ⟨g,0,none⟩ = some (.slice (some ⟨r,0,none⟩) n k):=hcl
  by_cases hlt:i < n
  ·have d1:decide ((i:Int) < (n:Int)) = true:=decide_eq_true (by omega)
   have ho:=H.out.own.quiet hM
   rw [← HN.out] at ho
   have bcell:=ho.cell i (by rw [bI_length,← HN.out];exact hlt)
   rw [bI_getD] at bcell
   obtain ⟨x,hx⟩:∃ x,x = code.getD i 0:=⟨_,rfl⟩
   rw [← hx] at bcell
   have hx8:x.toNat < 256:=UInt8.toNat_lt _
   have hw8:IntKind.u8.wrap (x.toNat:Int) = (x.toNat:Int):=IntWalk.u8_in _ ⟨by omega,by omega⟩
   obtain ⟨A,c,rfl⟩:=own_shape hv
   have htk:code.take (i + 1) = code.take i ++ [x]:=by
    rw [hx,List.take_succ_eq_append_getElem (by rw [← HN.out];exact hlt),List.getD_eq_getElem?_getD,List.getElem?_eq_getElem (by rw [← HN.out];exact hlt)]
    rfl
   have hlen:(code.take i).length = i:=by rw [List.length_take];have:=HN.out;omega
   rw [hlen]
   rw [hlen] at hv
   have HV:=Lib.hid (And.intro hv (And.intro hM (And.intro htk hlen)))
   have hwl:w.heap.size ≤ wr.heap.size:=hM.size
   clear hv hM htk hlen hx hb hcl ho
   go_wp2_with (at_builtin;have _t:=HV;refine wpList_app_u8 _ rfl (.tmp 14) (.tmp 23) rfl w.heap.size (.slice A i c) (code.take i) x rfl rfl HV.out.1 hwl (by rw [HV.out.2.2.2];omega) ?_;intro v5 w5 hown5 hM5 hJ5 hF5;have HO:=Lib.hid (And.intro hown5 (hJ5 w (fun _=>False) (Nat.le_refl _) HV.out.2.1));clear hown5 hM5 hJ5 hF5)
   go_roundw
   case rel=>exact ⟨i + 1,by rw [← HN.out];omega,by go_num,by rw [HV.out.2.2.1];exact HO.out.1,HO.out.2⟩
   case measure=>simp [intOf];omega
  ·obtain rfl:i = n:=by omega
   have d1:decide ((i:Int) < (i:Int)) = false:=decide_eq_false (by omega)
   have HV:=Lib.hid (And.intro hv hM)
   clear hv hM hb hcl
   go_wp2_with fail
   go_ret
   exact ⟨_,rfl,by have:=HV.out.1;rwa [List.take_of_length_le (by rw [← HN.out];exact Nat.le_refl _)] at this,HV.out.2⟩
theorem list9_ {fr:List Value} (h:fr.length = 9):∃ x0 x1 x2 x3 x4 x5 x6 x7 x8,fr = [x0,x1,x2,x3,x4,x5,x6,x7,x8]:=by
 match fr,h with
 | [x0,x1,x2,x3,x4,x5,x6,x7,x8],_=>exact ⟨x0,x1,x2,x3,x4,x5,x6,x7,x8,rfl⟩
structure ReB (w wr:World) (fb res gb:Nat) (fv gv:Array Value) (B:Nat) (vo:Value) (hd:List UInt8):Prop where
 f_:Blk wr fb 40 fv
 r_:Blk wr res 40 zeroFr.toArray
 g_:Blk wr gb 40 gv
 o_:Bytes wr B vo hd
 mod:Mod (fun _=>False) w wr
section
variable {w wr w' : World} {fb res gb B : Nat} {fv gv : Array Value} {vo : Value} {hd : List UInt8}
theorem ReB.quiet (h:ReB w wr fb res gb fv gv B vo hd) (hm:Mod (fun _=>False) wr w'):ReB w w' fb res gb fv gv B vo hd:=
 ⟨h.f_.keep hm (fun h=>h),h.r_.keep hm (fun h=>h),h.g_.keep hm (fun h=>h),h.o_.quiet hm,h.mod.trans hm⟩
theorem ReB.step {wA:World} {bk cg B2:Nat} {v v':Value} {s s':Es} {d:Dim} {e0 j0 e1 j1 e2 j2 q0 r0 q1 r1 q2 r2:Nat} {f f':Pix} (hw:w.heap.size ≤ wA.heap.size) (hgb:wA.heap.size ≤ gb) (n1:fb ≠ gb) (n2:res ≠ gb)
  (h:RSq wA wr bk cg v s B2 d e0 j0 e1 j1 e2 j2 f) (hB:ReB w wr fb res gb fv #[.int .i64 (d.W:Int),.int .i64 (d.H:Int),.slice (some ⟨e0,0,none⟩) d.nY j0,.int .i64 (d.W2:Int),.int .i64 (d.H2:Int),.slice (some ⟨e1,0,none⟩) d.nC j1,.int .i64 (d.W2:Int),.int .i64 (d.H2:Int),.slice (some ⟨e2,0,none⟩) d.nC j2] B vo hd) (k:RSq wA w' bk cg v' s' B2 d q0 r0 q1 r1 q2 r2 f') (hm:Mod (Sq3 bk cg v) wr w') :
  RSq wA ((((((((((w').setCell ⟨gb,0,none⟩ (.int .i64 (d.W:Int))).setCell ⟨gb,1,none⟩ (.int .i64 (d.H:Int))).setCell ⟨gb,2,none⟩ (.slice (some ⟨q0,0,none⟩) d.nY r0)).setCell ⟨gb,3,none⟩ (.int .i64 (d.W2:Int))).setCell ⟨gb,4,none⟩ (.int .i64 (d.H2:Int))).setCell ⟨gb,5,none⟩ (.slice (some ⟨q1,0,none⟩) d.nC r1)).setCell ⟨gb,6,none⟩ (.int .i64 (d.W2:Int))).setCell ⟨gb,7,none⟩ (.int .i64 (d.H2:Int))).setCell ⟨gb,8,none⟩ (.slice (some ⟨q2,0,none⟩) d.nC r2)) bk cg v' s' B2 d q0 r0 q1 r1 q2 r2 f' ∧ ReB w ((((((((((w').setCell ⟨gb,0,none⟩ (.int .i64 (d.W:Int))).setCell ⟨gb,1,none⟩ (.int .i64 (d.H:Int))).setCell ⟨gb,2,none⟩ (.slice (some ⟨q0,0,none⟩) d.nY r0)).setCell ⟨gb,3,none⟩ (.int .i64 (d.W2:Int))).setCell ⟨gb,4,none⟩ (.int .i64 (d.H2:Int))).setCell ⟨gb,5,none⟩ (.slice (some ⟨q1,0,none⟩) d.nC r1)).setCell ⟨gb,6,none⟩ (.int .i64 (d.W2:Int))).setCell ⟨gb,7,none⟩ (.int .i64 (d.H2:Int))).setCell ⟨gb,8,none⟩ (.slice (some ⟨q2,0,none⟩) d.nC r2)) fb res gb fv (frV d q0 r0 q1 r1 q2 r2).toArray B vo hd:=by
 have off:∀ {X:Nat} {cs:Array Value},Blk wr X 40 cs → Blk w' X 40 cs:=fun hb=>hb.keep hm (h.eb.off hb (by decide) (by decide) (by decide))
 have hz:=off hB.g_
 have hp:=fr_put9 hz (.int .i64 (d.W:Int)) (.int .i64 (d.H:Int)) (.slice (some ⟨q0,0,none⟩) d.nY r0) (.int .i64 (d.W2:Int)) (.int .i64 (d.H2:Int)) (.slice (some ⟨q1,0,none⟩) d.nC r1) (.int .i64 (d.W2:Int)) (.int .i64 (d.H2:Int)) (.slice (some ⟨q2,0,none⟩) d.nC r2)
 refine ⟨k.box hz (by decide) (by decide) (by decide) (by decide) hgb hp.2,(off hB.f_).keep hp.2 n1,(off hB.r_).keep hp.2 n2,hp.1,(hB.o_.sq3 h.eb hm).mod hp.2 (fun j e hj=>?_),(hB.mod.into hm (fun j e=>.inr ?_)).into hp.2 (fun j e=>.inr ?_)⟩
 ·have e2:j = gb:=hj
  exact (hB.o_.sq3 h.eb hm).apart hz (by decide) (by rw [← e2];exact e)
 ·rcases e with e | e | e
  ·have:=h.ng;omega
  ·have:=h.nb;omega
  ·have:=h.nv j e;omega
 ·have e2:j = gb:=e
  omega
end
def ReRows (wA w:World) (B2 bk cg fb res gb:Nat) (d:Dim) (fr ahd:Pix) (K:Bool) (Q:Int) (fv:Array Value) (B:Nat) (vo:Value) (hd:List UInt8) (nh:Nat) (v15:Value) (wr:World):Prop:=
 ∃ (i X:Nat) (v:Value) (e0 j0 e1 j1 e2 j2:Nat),i ≤ nh ∧ X = 16 * i ∧ v15 = .int .i64 (X:Int) ∧ RSq wA wr bk cg v (erows d fr ahd K Q i (blankPix d 0,es0)).2 B2 d e0 j0 e1 j1 e2 j2 (erows d fr ahd K Q i (blankPix d 0,es0)).1 ∧ ReB w wr fb res gb fv (frV d e0 j0 e1 j1 e2 j2).toArray B vo hd
def ReRow (wA w:World) (B2 bk cg fb res gb:Nat) (d:Dim) (fr ahd:Pix) (K:Bool) (Q:Int) (fv:Array Value) (B:Nat) (vo:Value) (hd:List UInt8) (nw sy:Nat) (v16:Value) (wr:World):Prop:=
 ∃ (j X:Nat) (v:Value) (e0 j0 e1 j1 e2 j2:Nat),j ≤ nw ∧ X = 16 * j ∧ v16 = .int .i64 (X:Int) ∧ RSq wA wr bk cg v (erow d fr ahd K Q sy j (erows d fr ahd K Q sy (blankPix d 0,es0))).2 B2 d e0 j0 e1 j1 e2 j2 (erow d fr ahd K Q sy j (erows d fr ahd K Q sy (blankPix d 0,es0))).1 ∧ ReB w wr fb res gb fv (frV d e0 j0 e1 j1 e2 j2).toArray B vo hd
def ReFrPost (w:World) (g:Nat) (G q tg nu:Nat) (d:Dim) (r:List UInt8 × Pix) (e:Ending) (w':World):Prop:=
 ∃ v e0 j0 e1 j1 e2 j2,e = .returned (.tuple #[v,.agg (frV d e0 j0 e1 j1 e2 j2).toArray,.int .i64 0]) ∧ Bytes w' w.heap.size v r.1 ∧ FrB w' w.heap.size d e0 j0 e1 j1 e2 j2 r.2 ∧
  Blk w' g 46 (rencV (d.W:Int) (d.H:Int) (G:Int) ((newQ q tg G r.1.length:Nat):Int) (tg:Int) ((newN nu G:Nat):Int) (frV d e0 j0 e1 j1 e2 j2)) ∧ Mod (· = g) w w'
theorem reBlank0 (w:World) (d:Dim) (hd:d.Ok):Calls Tryz.prog 57 #[.int .i64 (d.W:Int),.int .i64 (d.H:Int),.int .u8 0] w (FBlankPost w d (blankPix d 0)):=fBlank w d hd 0
def ReBox (w:World) (d:Dim) (f:Pix) (v13 v14:Value) (wy:World):Prop:=
 v14 = .int .i64 0 ∧ ∃ gb e0 j0 e1 j1 e2 j2,v13 = .pointer (some ⟨gb,0,none⟩) ∧ Blk wy gb 40 (frV d e0 j0 e1 j1 e2 j2).toArray ∧ FrB wy w.heap.size d e0 j0 e1 j1 e2 j2 f ∧ w.heap.size ≤ gb ∧ Mod (fun _=>False) w wy
theorem frV_one (d:Dim) (e0 j0 e1 j1 e2 j2:Nat):∀ v ∈ frV d e0 j0 e1 j1 e2 j2,v.oneCell' = true:=by
 intro v hv
 simp only [frV,List.mem_cons,List.not_mem_nil,or_false] at hv
 rcases hv with rfl | rfl | rfl | rfl | rfl | rfl | rfl | rfl | rfl <;> rfl
theorem FrB.fb_down {w:World} {B B':Nat} {d:Dim} {b0 k0 b1 k1 b2 k2:Nat} {f:Pix} (h:FrB w B d b0 k0 b1 k1 b2 k2 f) (hB:B' ≤ B):FrB w B' d b0 k0 b1 k1 b2 k2 f:=⟨h.y.down hB,h.u.down hB,h.v.down hB,h.ly,h.lu,h.lv⟩
theorem FrB.below {S:Nat → Prop} {w w':World} {B:Nat} {d:Dim} {b0 k0 b1 k1 b2 k2:Nat} {f:Pix} (h:FrB w B d b0 k0 b1 k1 b2 k2 f) (hm:Mod S w w') (hS:∀ j,S j → j < B):FrB w' B d b0 k0 b1 k1 b2 k2 f:=by
 have go:∀ {b n k:Nat} {l:List UInt8},Bytes w B (.slice (some ⟨b,0,none⟩) n k) l → Bytes w' B (.slice (some ⟨b,0,none⟩) n k) l:=fun hb=>hb.mod hm (fun g e hg=>by
  have:=hS g hg
  have:=(World.ownsRow.lt hb g e).1
  omega)
 exact ⟨go h.y,go h.u,go h.v,h.ly,h.lu,h.lv⟩
end Go.Proofs.YtmkopcojnibhlaaGreatDoor

