/-
  The reference's Check.
-/
import Derived.Test.YthednemlahioeaaGreatDoorP35
namespace Go.Proofs.YthednemlahioeaaGreatDoor
open Go.RowKit
set_option maxRecDepth 100000
set_option maxHeartbeats 8000000
def RckRel2 (w:World) (rb:Nat) (rs:List Rg) (i:Nat) (v:Value) (wr:World):Prop:=∃ k:Nat,k ≤ i ∧ v = .int .i64 (k:Int) ∧ ((List.range k).all fun k=>decide ((rs.getD k Rg.zero).name ≠ (rs.getD i Rg.zero).name)) = true ∧ Blk wr rb 38 (rs.getD i Rg.zero).cells.toArray ∧ Mod (fun _=>False) w wr
theorem rCheck (w:World) (W H G:Int) (A:Option Addr) (n c:Nat) (rs:List Rg) (h:RgsIn w A n c rs) (hn:n ≤ 9223372036854775807) (hW:-1099511627776 ≤ W ∧ W ≤ 1099511627776) (hH:-1099511627776 ≤ H ∧ H ≤ 1099511627776) :
  Calls Tryz.prog 14 #[.int .i64 W,.int .i64 H,.int .i64 G,.slice A n c] w fun e w'=>e = .returned (.int .i64 (ladderE W H G rs)) ∧ Mod (fun _=>False) w w':=by
 have hlen:=h.len
 have HH:=Lib.hid h
 clear h
 by_cases h1:n < 1
 ·have d1:decide ((n:Int) < 1) = true:=decide_eq_true (by omega)
  have HN:=Lib.hid (ladderE_len (W:=W) (H:=H) (G:=G) (rs:=rs) (by omega))
  go_enter Tryz.func14,Tryz.ntmps14
  go_wp2_with fail
  go_ret
  exact ⟨by rw [HN.out];rfl,Mod.refl _ _⟩
 have d1:decide ((n:Int) < 1) = false:=decide_eq_false (by omega)
 by_cases h2:8 < n
 ·have d2:decide (8 < (n:Int)) = true:=decide_eq_true (by omega)
  have HN:=Lib.hid (ladderE_len (W:=W) (H:=H) (G:=G) (rs:=rs) (by omega))
  go_enter Tryz.func14,Tryz.ntmps14
  go_wp2_with fail
  go_ret
  exact ⟨by rw [HN.out];rfl,Mod.refl _ _⟩
 have d2:decide (8 < (n:Int)) = false:=decide_eq_false (by omega)
 have HLE:=Lib.hid hlen
 clear hlen
 go_enter Tryz.func14,Tryz.ntmps14
 go_wp2_with fail
 go_loopw [9] (LckRel w W H G rs n) (fun i _=>n - (intOf i).toNat)
 case atStart=>exact ⟨0,by omega,rfl,rfl,Mod.refl _ _⟩
 case round=>
  obtain ⟨i,hi,rfl,hok,hM⟩:=hrel
  rename World=>wr
  by_cases hlt:i < n
  ·have d3:decide ((i:Int) < (n:Int)) = true:=decide_eq_true (by omega)
   obtain ⟨b,o,rfl,hb,hcells⟩:=(HH.out.quiet hM).at_ i hlt
   have hnl:=HH.out.nm i
   have hno:rungB W H G (rs.getD i Rg.zero) = false → ladderE W H G rs = 151:=fun hf=>ladderE_no (i:=i + 1) (by rw [HLE.out];omega) (by rw [rungsB_succ,hf,Bool.false_and,Bool.and_false])
   obtain ⟨r,hr⟩:∃ r,r = rs.getD i Rg.zero:=⟨_,rfl⟩
   rw [← hr] at hcells hnl hno
   obtain ⟨nm,dn,qq,tg⟩:=r
   have k0:wr.cell? ⟨b,o + i * 4,none⟩ = some (.string (strOf nm)):=hcells 0 _ rfl
   have k1:wr.cell? ⟨b,o + i * 4 + 1,none⟩ = some (.int .i64 dn):=hcells 1 _ rfl
   have k2:wr.cell? ⟨b,o + i * 4 + 2,none⟩ = some (.int .i64 qq):=hcells 2 _ rfl
   have k3:wr.cell? ⟨b,o + i * 4 + 3,none⟩ = some (.int .i64 tg):=hcells 3 _ rfl
   have RN:=Lib.hid (fun w=>rName15 w nm hnl)
   have HK:=Lib.hid (And.intro hok (And.intro hM hr))
   clear hok hM hr hcells hb hnl
   cases hnb:nameB nm with
   | false=>
    have HNB:=Lib.hid hnb
    have hf:rungB W H G ⟨nm,dn,qq,tg⟩ = false:=by unfold rungB;dsimp only;rw [hnb,Bool.false_and]
    have HB:=Lib.hid (hno hf)
    clear hnb hno hf
    go_wp2_with fail
    refine (RN.out _).mono ?_
    rintro e w1 ⟨rfl,rfl⟩
    rw [HNB.out]
    go_wp2_with fail
    go_ret
    exact ⟨by rw [HB.out];rfl,HK.out.2.1.alloc _⟩
   | true=>
    have HNB:=Lib.hid hnb
    clear hnb
    by_cases b0:dn < 0
    ·have e0:decide (dn < 0) = true:=decide_eq_true b0
     have ha:rungArgsB ⟨nm,dn,qq,tg⟩ = false:=by unfold rungArgsB;exact decide_eq_false (by dsimp only;omega)
     have hf:rungB W H G ⟨nm,dn,qq,tg⟩ = false:=by unfold rungB;rw [ha,Bool.false_and,Bool.and_false]
     have HB:=Lib.hid (hno hf)
     clear hno ha hf
     go_wp2_with fail
     refine (RN.out _).mono ?_
     rintro e w1 ⟨rfl,rfl⟩
     rw [HNB.out]
     go_wp2_with fail
     go_ret
     exact ⟨by rw [HB.out];rfl,HK.out.2.1.alloc _⟩
    have e0:decide (dn < 0) = false:=decide_eq_false b0
    by_cases b1:3 < dn
    ·have e1:decide (3 < dn) = true:=decide_eq_true b1
     have ha:rungArgsB ⟨nm,dn,qq,tg⟩ = false:=by unfold rungArgsB;exact decide_eq_false (by dsimp only;omega)
     have hf:rungB W H G ⟨nm,dn,qq,tg⟩ = false:=by unfold rungB;rw [ha,Bool.false_and,Bool.and_false]
     have HB:=Lib.hid (hno hf)
     clear hno ha hf
     go_wp2_with fail
     refine (RN.out _).mono ?_
     rintro e w1 ⟨rfl,rfl⟩
     rw [HNB.out]
     go_wp2_with fail
     go_ret
     exact ⟨by rw [HB.out];rfl,HK.out.2.1.alloc _⟩
    have e1:decide (3 < dn) = false:=decide_eq_false b1
    by_cases b2:qq < 0
    ·have e2:decide (qq < 0) = true:=decide_eq_true b2
     have ha:rungArgsB ⟨nm,dn,qq,tg⟩ = false:=by unfold rungArgsB;exact decide_eq_false (by dsimp only;omega)
     have hf:rungB W H G ⟨nm,dn,qq,tg⟩ = false:=by unfold rungB;rw [ha,Bool.false_and,Bool.and_false]
     have HB:=Lib.hid (hno hf)
     clear hno ha hf
     go_wp2_with fail
     refine (RN.out _).mono ?_
     rintro e w1 ⟨rfl,rfl⟩
     rw [HNB.out]
     go_wp2_with fail
     go_ret
     exact ⟨by rw [HB.out];rfl,HK.out.2.1.alloc _⟩
    have e2:decide (qq < 0) = false:=decide_eq_false b2
    by_cases b3:31 < qq
    ·have e3:decide (31 < qq) = true:=decide_eq_true b3
     have ha:rungArgsB ⟨nm,dn,qq,tg⟩ = false:=by unfold rungArgsB;exact decide_eq_false (by dsimp only;omega)
     have hf:rungB W H G ⟨nm,dn,qq,tg⟩ = false:=by unfold rungB;rw [ha,Bool.false_and,Bool.and_false]
     have HB:=Lib.hid (hno hf)
     clear hno ha hf
     go_wp2_with fail
     refine (RN.out _).mono ?_
     rintro e w1 ⟨rfl,rfl⟩
     rw [HNB.out]
     go_wp2_with fail
     go_ret
     exact ⟨by rw [HB.out];rfl,HK.out.2.1.alloc _⟩
    have e3:decide (31 < qq) = false:=decide_eq_false b3
    by_cases b4:tg < 0
    ·have e4:decide (tg < 0) = true:=decide_eq_true b4
     have ha:rungArgsB ⟨nm,dn,qq,tg⟩ = false:=by unfold rungArgsB;exact decide_eq_false (by dsimp only;omega)
     have hf:rungB W H G ⟨nm,dn,qq,tg⟩ = false:=by unfold rungB;rw [ha,Bool.false_and,Bool.and_false]
     have HB:=Lib.hid (hno hf)
     clear hno ha hf
     go_wp2_with fail
     refine (RN.out _).mono ?_
     rintro e w1 ⟨rfl,rfl⟩
     rw [HNB.out]
     go_wp2_with fail
     go_ret
     exact ⟨by rw [HB.out];rfl,HK.out.2.1.alloc _⟩
    have e4:decide (tg < 0) = false:=decide_eq_false b4
    by_cases b5:1048576 < tg
    ·have e5:decide (1048576 < tg) = true:=decide_eq_true b5
     have ha:rungArgsB ⟨nm,dn,qq,tg⟩ = false:=by unfold rungArgsB;exact decide_eq_false (by dsimp only;omega)
     have hf:rungB W H G ⟨nm,dn,qq,tg⟩ = false:=by unfold rungB;rw [ha,Bool.false_and,Bool.and_false]
     have HB:=Lib.hid (hno hf)
     clear hno ha hf
     go_wp2_with fail
     refine (RN.out _).mono ?_
     rintro e w1 ⟨rfl,rfl⟩
     rw [HNB.out]
     go_wp2_with fail
     go_ret
     exact ⟨by rw [HB.out];rfl,HK.out.2.1.alloc _⟩
    have e5:decide (1048576 < tg) = false:=decide_eq_false b5
    have h4:dn = 0 ∨ dn = 1 ∨ dn = 2 ∨ dn = 3:=by omega
    clear e0 e1 b0 b1
    rcases h4 with rfl | rfl | rfl | rfl
    ·have hrb:rungB W H G ⟨nm,0,qq,tg⟩ = (seqRight (W.tdiv 1) (H.tdiv 1) G && (decide (W.tdiv 1 * 1 = W) && decide (H.tdiv 1 * 1 = H))):=rungB_args (W:=W) (H:=H) (G:=G) (d:=0) (q:=qq) (t:=tg) HNB.out (by unfold rungArgsB;exact decide_eq_true (by dsimp only;omega)) 1 rfl
     have rs:=fun w=>rSequence w W H G ⟨nm,0,qq,tg⟩ 0 rfl (by omega) hW hH
     have rp:=fun w=>rPower w 0 (by omega)
     obtain ⟨X,hX⟩:∃ X,X = W.tdiv 1:=⟨_,rfl⟩
     obtain ⟨Y,hY⟩:∃ Y,Y = H.tdiv 1:=⟨_,rfl⟩
     rw [← hX,← hY] at hrb
     have rs2:∀ w:World,Calls Tryz.prog 49 #[.int .i64 W,.int .i64 H,.int .i64 G,.agg #[.string (strOf nm),.int .i64 0,.int .i64 qq,.int .i64 tg]] w fun e w'=>e = .returned (.agg #[.int .i64 X,.int .i64 Y,.int .i64 G]) ∧ Mod (fun _=>False) w w':=fun w=>by rw [hX,hY];exact rs w
     have rp2:∀ w:World,Calls Tryz.prog 51 #[.int .i64 0] w fun e w'=>e = .returned (.int .i64 1) ∧ w = w':=rp
     have RS:=Lib.hid rs2
     have RP:=Lib.hid rp2
     have HRB:=Lib.hid (And.intro hrb hno)
     clear hrb rs rp rs2 rp2 hX hY hno
     have hb0:=Blk.new wr 38 #[.string (strOf nm),.int .i64 0,.int .i64 qq,.int .i64 tg]
     obtain ⟨rb,hrb⟩:∃ b,b = wr.heap.size:=⟨_,rfl⟩
     go_wp2_with fail
     refine (RN.out _).mono ?_
     rintro e w1 ⟨rfl,rfl⟩
     rw [HNB.out]
     rw [← hrb] at hb0 ⊢
     have HB0:=Lib.hid (And.intro hb0 ((Mod.refl (fun _=>False) wr).alloc (.cells #[.string (strOf nm),.int .i64 0,.int .i64 qq,.int .i64 tg] 38)))
     obtain ⟨rc,rf⟩:=hb0.both
     clear hrb hb0 k0 k1 k2 k3
     generalize wr.alloc (.cells #[.string (strOf nm),.int .i64 0,.int .i64 qq,.int .i64 tg] 38) = w1 at *
     go_wp2_with fail
     refine (RS.out _).mono ?_
     rintro e w2 ⟨rfl,hm2⟩
     have hbr:=(HB0.out.1.keep hm2 (fun h=>h)).alloc (.cells #[.int .i64 X,.int .i64 Y,.int .i64 G] 40)
     have hbs:=Blk.new w2 40 #[.int .i64 X,.int .i64 Y,.int .i64 G]
     have hmm:=(HB0.out.2.trans hm2).alloc (.cells #[.int .i64 X,.int .i64 Y,.int .i64 G] 40)
     go_upto_region 11 with (fail)
     obtain ⟨sb,hsb⟩:∃ b,b = w2.heap.size:=⟨_,rfl⟩
     rw [← hsb] at hbs ⊢
     generalize w2.alloc (.cells #[.int .i64 X,.int .i64 Y,.int .i64 G] 40) = w3 at *
     obtain ⟨sc,sf⟩:=hbs.both
     clear rc rf hm2 hsb
     have H3:=Lib.hid (And.intro hbr (And.intro hbs hmm))
     clear hbr hbs hmm HB0
     go_wp2_with fail
     refine (refRightA w3 X Y G).mono ?_
     rintro e w4 ⟨rfl,hm4⟩
     have hbr:=H3.out.1.keep hm4 (fun h=>h)
     have hbs:=H3.out.2.1.keep hm4 (fun h=>h)
     clear sc sf
     have s0:w4.cell? ⟨sb,0,none⟩ = some (.int .i64 X):=hbs.cell 0
     have s1:w4.cell? ⟨sb,1,none⟩ = some (.int .i64 Y):=hbs.cell 1
     have r1:w4.cell? ⟨rb,1,none⟩ = some (.int .i64 0):=hbr.cell 1
     have H4:=Lib.hid (And.intro hbr (H3.out.2.2.trans hm4))
     have hpq:∀ m,Calls Tryz.prog 51 #[.int .i64 0] (w4.drewN m) fun e w'=>e = .returned (.int .i64 1) ∧ w' = w4.drewN m:=fun m=>(RP.out _).mono (fun _ _ h=>⟨h.1,h.2.symm⟩)
     have HPQ:=Lib.hid hpq
     clear hbr hbs hm4 H3 hpq
     cases hsr:seqRight X Y G with
     | false=>
      have HB:=Lib.hid (HRB.out.2 (by rw [HRB.out.1,hsr,Bool.false_and]))
      clear hsr
      go_upto_region 12 with (fail)
      go_quiet (first | (go_at_call 51;exact Calls.quiet_of_same (HPQ.out _)))
      have HM:=Lib.hid ((HK.out.2.1.trans H4.out.2).drewN nq)
      clear s0 s1 r1
      generalize w4.drewN nq = w5 at *
      go_wp2_with fail
      go_ret
      exact ⟨by rw [HB.out];rfl,HM.out⟩
     | true=>
      have hb:=hsr
      unfold seqRight at hb
      rw [decide_eq_true_eq] at hb
      obtain ⟨⟨a1,a2,_⟩,⟨c1,c2,_⟩,_⟩:=hb
      by_cases x1:X * 1 = W
      ·have y1:((X * 1) != W) = false:=by simpa using x1
       have z1:(X != W) = false:=by simpa using x1
       by_cases x2:Y * 1 = H
       ·have y2:((Y * 1) != H) = false:=by simpa using x2
        have z2:(Y != H) = false:=by simpa using x2
        have hrt:rungB W H G ⟨nm,0,qq,tg⟩ = true:=by
         have h:=HRB.out.1
         rw [hsr,decide_eq_true x1,decide_eq_true x2] at h
         exact h
        have HRT:=Lib.hid hrt
        clear hsr x1 x2 hrt
        go_upto_region 12 with (fail)
        go_quiet (first | (go_at_call 51;exact Calls.quiet_of_same (HPQ.out _)))
        have hbr:=Blk.keep H4.out.1 (Mod.drewN (Mod.refl (fun _=>False) w4) nq) (fun h=>h)
        have hM5:=(HK.out.2.1.trans H4.out.2).drewN nq
        clear s0 s1 r1
        generalize w4.drewN nq = w5 at *
        have H5:=Lib.hid (And.intro hbr hM5)
        clear hbr hM5
        go_wp2_with fail
        go_loopw [14] (RckRel2 w rb rs i) (fun k _=>i - (intOf k).toNat)
        case atStart=>exact ⟨0,by omega,rfl,rfl,by rw [← HK.out.2.2];exact H5.out.1,H5.out.2⟩
        case round=>
         obtain ⟨k,hk,rfl,hno,hbk,hM2⟩:=hrel
         rename World=>wq
         by_cases hlk:k < i
         ·have d4:decide ((k:Int) < (i:Int)) = true:=decide_eq_true (by omega)
          obtain ⟨b',o',hA',hb',hcells⟩:=(HH.out.quiet hM2).at_ k (by omega)
          injection hA' with hA'
          injection hA' with e1' e2'
          subst e1' e2'
          obtain ⟨r2,hr2⟩:∃ r,r = rs.getD k Rg.zero:=⟨_,rfl⟩
          rw [← hr2] at hcells
          have k0:wq.cell? ⟨b,o + k * 4,none⟩ = some (.string (strOf r2.name)):=hcells 0 _ rfl
          rw [← HK.out.2.2] at hbk
          have q0:wq.cell? ⟨rb,0,none⟩ = some (.string (strOf nm)):=hbk.cell 0
          have HQ:=Lib.hid (And.intro hno (And.intro hbk (And.intro hM2 hr2)))
          clear hno hbk hM2 hr2 hcells hb'
          by_cases hs:r2.name = nm
          ·have y3:((strOf r2.name).toList == (strOf nm).toList) = true:=by rw [strOf_beq];exact decide_eq_true hs
           have H2:=Lib.hid (ladderE_no (W:=W) (H:=H) (G:=G) (rs:=rs) (i:=i + 1) (by rw [HLE.out];omega) (by rw [rungsB_succ,same_no hlk (by rw [← HQ.out.2.2.2,← HK.out.2.2];exact hs),Bool.and_false,Bool.and_false]))
           clear hs
           go_upto_region 17 with (fail)
           go_quiet (fail)
           have HM:=Lib.hid (HQ.out.2.2.1.drewN nq)
           clear k0 q0
           generalize wq.drewN nq = w7 at *
           go_wp2_with fail
           go_ret
           exact ⟨by rw [H2.out];rfl,HM.out⟩
          ·have y3:((strOf r2.name).toList == (strOf nm).toList) = false:=by rw [strOf_beq];exact decide_eq_false hs
           have HS:=Lib.hid hs
           clear hs
           go_upto_region 17 with (fail)
           go_quiet (fail)
           have hbk:=Blk.keep HQ.out.2.1 (Mod.drewN (Mod.refl (fun _=>False) wq) nq) (fun h=>h)
           have HM:=Lib.hid (And.intro (HQ.out.2.2.1.drewN nq) hbk)
           clear k0 q0 hbk
           generalize wq.drewN nq = w7 at *
           go_wp2_with fail
           go_roundw
           case rel=>
            refine ⟨k + 1,by omega,by go_num,?_,by rw [← HK.out.2.2];exact HM.out.2,HM.out.1⟩
            rw [List.range_succ,List.all_append,HQ.out.1,List.all_cons,List.all_nil,Bool.and_true,Bool.true_and]
            exact decide_eq_true (by rw [← HQ.out.2.2.2,← HK.out.2.2];exact HS.out)
           case measure=>simp [intOf];omega
         ·obtain rfl:k = i:=by omega
          have d4:decide ((k:Int) < (k:Int)) = false:=decide_eq_false (by omega)
          have H2:=Lib.hid (And.intro hno hM2)
          clear hno hbk hM2
          go_wp2_with fail
          go_roundw
          case rel=>
           refine ⟨k + 1,by omega,by go_num,?_,H2.out.2⟩
           rw [rungsB_succ,HK.out.1,← HK.out.2.2,HRT.out,Bool.true_and,Bool.true_and,HK.out.2.2]
           exact H2.out.1
          case measure=>simp [intOf];omega
       ·have y2:((Y * 1) != H) = true:=by simpa using x2
        have z2:(Y != H) = true:=by simpa using x2
        have HB:=Lib.hid (HRB.out.2 (by rw [HRB.out.1,decide_eq_false x2,Bool.and_false,Bool.and_false]))
        clear hsr x1 x2
        go_upto_region 12 with (fail)
        go_quiet (first | (go_at_call 51;exact Calls.quiet_of_same (HPQ.out _)))
        have HM:=Lib.hid ((HK.out.2.1.trans H4.out.2).drewN nq)
        clear s0 s1 r1
        generalize w4.drewN nq = w5 at *
        go_wp2_with fail
        go_ret
        exact ⟨by rw [HB.out];rfl,HM.out⟩
      ·have y1:((X * 1) != W) = true:=by simpa using x1
       have z1:(X != W) = true:=by simpa using x1
       have HB:=Lib.hid (HRB.out.2 (by rw [HRB.out.1,decide_eq_false x1,Bool.false_and,Bool.and_false]))
       clear hsr x1
       go_upto_region 12 with (fail)
       go_quiet (first | (go_at_call 51;exact Calls.quiet_of_same (HPQ.out _)))
       have HM:=Lib.hid ((HK.out.2.1.trans H4.out.2).drewN nq)
       clear s0 s1 r1
       generalize w4.drewN nq = w5 at *
       go_wp2_with fail
       go_ret
       exact ⟨by rw [HB.out];rfl,HM.out⟩
    ·have hrb:rungB W H G ⟨nm,1,qq,tg⟩ = (seqRight (W.tdiv 2) (H.tdiv 2) G && (decide (W.tdiv 2 * 2 = W) && decide (H.tdiv 2 * 2 = H))):=rungB_args (W:=W) (H:=H) (G:=G) (d:=1) (q:=qq) (t:=tg) HNB.out (by unfold rungArgsB;exact decide_eq_true (by dsimp only;omega)) 2 rfl
     have rs:=fun w=>rSequence w W H G ⟨nm,1,qq,tg⟩ 1 rfl (by omega) hW hH
     have rp:=fun w=>rPower w 1 (by omega)
     obtain ⟨X,hX⟩:∃ X,X = W.tdiv 2:=⟨_,rfl⟩
     obtain ⟨Y,hY⟩:∃ Y,Y = H.tdiv 2:=⟨_,rfl⟩
     rw [← hX,← hY] at hrb
     have rs2:∀ w:World,Calls Tryz.prog 49 #[.int .i64 W,.int .i64 H,.int .i64 G,.agg #[.string (strOf nm),.int .i64 1,.int .i64 qq,.int .i64 tg]] w fun e w'=>e = .returned (.agg #[.int .i64 X,.int .i64 Y,.int .i64 G]) ∧ Mod (fun _=>False) w w':=fun w=>by rw [hX,hY];exact rs w
     have rp2:∀ w:World,Calls Tryz.prog 51 #[.int .i64 1] w fun e w'=>e = .returned (.int .i64 2) ∧ w = w':=rp
     have RS:=Lib.hid rs2
     have RP:=Lib.hid rp2
     have HRB:=Lib.hid (And.intro hrb hno)
     clear hrb rs rp rs2 rp2 hX hY hno
     have hb0:=Blk.new wr 38 #[.string (strOf nm),.int .i64 1,.int .i64 qq,.int .i64 tg]
     obtain ⟨rb,hrb⟩:∃ b,b = wr.heap.size:=⟨_,rfl⟩
     go_wp2_with fail
     refine (RN.out _).mono ?_
     rintro e w1 ⟨rfl,rfl⟩
     rw [HNB.out]
     rw [← hrb] at hb0 ⊢
     have HB0:=Lib.hid (And.intro hb0 ((Mod.refl (fun _=>False) wr).alloc (.cells #[.string (strOf nm),.int .i64 1,.int .i64 qq,.int .i64 tg] 38)))
     obtain ⟨rc,rf⟩:=hb0.both
     clear hrb hb0 k0 k1 k2 k3
     generalize wr.alloc (.cells #[.string (strOf nm),.int .i64 1,.int .i64 qq,.int .i64 tg] 38) = w1 at *
     go_wp2_with fail
     refine (RS.out _).mono ?_
     rintro e w2 ⟨rfl,hm2⟩
     have hbr:=(HB0.out.1.keep hm2 (fun h=>h)).alloc (.cells #[.int .i64 X,.int .i64 Y,.int .i64 G] 40)
     have hbs:=Blk.new w2 40 #[.int .i64 X,.int .i64 Y,.int .i64 G]
     have hmm:=(HB0.out.2.trans hm2).alloc (.cells #[.int .i64 X,.int .i64 Y,.int .i64 G] 40)
     go_upto_region 11 with (fail)
     obtain ⟨sb,hsb⟩:∃ b,b = w2.heap.size:=⟨_,rfl⟩
     rw [← hsb] at hbs ⊢
     generalize w2.alloc (.cells #[.int .i64 X,.int .i64 Y,.int .i64 G] 40) = w3 at *
     obtain ⟨sc,sf⟩:=hbs.both
     clear rc rf hm2 hsb
     have H3:=Lib.hid (And.intro hbr (And.intro hbs hmm))
     clear hbr hbs hmm HB0
     go_wp2_with fail
     refine (refRightA w3 X Y G).mono ?_
     rintro e w4 ⟨rfl,hm4⟩
     have hbr:=H3.out.1.keep hm4 (fun h=>h)
     have hbs:=H3.out.2.1.keep hm4 (fun h=>h)
     clear sc sf
     have s0:w4.cell? ⟨sb,0,none⟩ = some (.int .i64 X):=hbs.cell 0
     have s1:w4.cell? ⟨sb,1,none⟩ = some (.int .i64 Y):=hbs.cell 1
     have r1:w4.cell? ⟨rb,1,none⟩ = some (.int .i64 1):=hbr.cell 1
     have H4:=Lib.hid (And.intro hbr (H3.out.2.2.trans hm4))
     have hpq:∀ m,Calls Tryz.prog 51 #[.int .i64 1] (w4.drewN m) fun e w'=>e = .returned (.int .i64 2) ∧ w' = w4.drewN m:=fun m=>(RP.out _).mono (fun _ _ h=>⟨h.1,h.2.symm⟩)
     have HPQ:=Lib.hid hpq
     clear hbr hbs hm4 H3 hpq
     cases hsr:seqRight X Y G with
     | false=>
      have HB:=Lib.hid (HRB.out.2 (by rw [HRB.out.1,hsr,Bool.false_and]))
      clear hsr
      go_upto_region 12 with (fail)
      go_quiet (first | (go_at_call 51;exact Calls.quiet_of_same (HPQ.out _)))
      have HM:=Lib.hid ((HK.out.2.1.trans H4.out.2).drewN nq)
      clear s0 s1 r1
      generalize w4.drewN nq = w5 at *
      go_wp2_with fail
      go_ret
      exact ⟨by rw [HB.out];rfl,HM.out⟩
     | true=>
      have hb:=hsr
      unfold seqRight at hb
      rw [decide_eq_true_eq] at hb
      obtain ⟨⟨a1,a2,_⟩,⟨c1,c2,_⟩,_⟩:=hb
      by_cases x1:X * 2 = W
      ·have y1:((X * 2) != W) = false:=by simpa using x1
       by_cases x2:Y * 2 = H
       ·have y2:((Y * 2) != H) = false:=by simpa using x2
        have hrt:rungB W H G ⟨nm,1,qq,tg⟩ = true:=by
         have h:=HRB.out.1
         rw [hsr,decide_eq_true x1,decide_eq_true x2] at h
         exact h
        have HRT:=Lib.hid hrt
        clear hsr x1 x2 hrt
        go_upto_region 12 with (fail)
        go_quiet (first | (go_at_call 51;exact Calls.quiet_of_same (HPQ.out _)))
        have hbr:=Blk.keep H4.out.1 (Mod.drewN (Mod.refl (fun _=>False) w4) nq) (fun h=>h)
        have hM5:=(HK.out.2.1.trans H4.out.2).drewN nq
        clear s0 s1 r1
        generalize w4.drewN nq = w5 at *
        have H5:=Lib.hid (And.intro hbr hM5)
        clear hbr hM5
        go_wp2_with fail
        go_loopw [14] (RckRel2 w rb rs i) (fun k _=>i - (intOf k).toNat)
        case atStart=>exact ⟨0,by omega,rfl,rfl,by rw [← HK.out.2.2];exact H5.out.1,H5.out.2⟩
        case round=>
         obtain ⟨k,hk,rfl,hno,hbk,hM2⟩:=hrel
         rename World=>wq
         by_cases hlk:k < i
         ·have d4:decide ((k:Int) < (i:Int)) = true:=decide_eq_true (by omega)
          obtain ⟨b',o',hA',hb',hcells⟩:=(HH.out.quiet hM2).at_ k (by omega)
          injection hA' with hA'
          injection hA' with e1' e2'
          subst e1' e2'
          obtain ⟨r2,hr2⟩:∃ r,r = rs.getD k Rg.zero:=⟨_,rfl⟩
          rw [← hr2] at hcells
          have k0:wq.cell? ⟨b,o + k * 4,none⟩ = some (.string (strOf r2.name)):=hcells 0 _ rfl
          rw [← HK.out.2.2] at hbk
          have q0:wq.cell? ⟨rb,0,none⟩ = some (.string (strOf nm)):=hbk.cell 0
          have HQ:=Lib.hid (And.intro hno (And.intro hbk (And.intro hM2 hr2)))
          clear hno hbk hM2 hr2 hcells hb'
          by_cases hs:r2.name = nm
          ·have y3:((strOf r2.name).toList == (strOf nm).toList) = true:=by rw [strOf_beq];exact decide_eq_true hs
           have H2:=Lib.hid (ladderE_no (W:=W) (H:=H) (G:=G) (rs:=rs) (i:=i + 1) (by rw [HLE.out];omega) (by rw [rungsB_succ,same_no hlk (by rw [← HQ.out.2.2.2,← HK.out.2.2];exact hs),Bool.and_false,Bool.and_false]))
           clear hs
           go_upto_region 17 with (fail)
           go_quiet (fail)
           have HM:=Lib.hid (HQ.out.2.2.1.drewN nq)
           clear k0 q0
           generalize wq.drewN nq = w7 at *
           go_wp2_with fail
           go_ret
           exact ⟨by rw [H2.out];rfl,HM.out⟩
          ·have y3:((strOf r2.name).toList == (strOf nm).toList) = false:=by rw [strOf_beq];exact decide_eq_false hs
           have HS:=Lib.hid hs
           clear hs
           go_upto_region 17 with (fail)
           go_quiet (fail)
           have hbk:=Blk.keep HQ.out.2.1 (Mod.drewN (Mod.refl (fun _=>False) wq) nq) (fun h=>h)
           have HM:=Lib.hid (And.intro (HQ.out.2.2.1.drewN nq) hbk)
           clear k0 q0 hbk
           generalize wq.drewN nq = w7 at *
           go_wp2_with fail
           go_roundw
           case rel=>
            refine ⟨k + 1,by omega,by go_num,?_,by rw [← HK.out.2.2];exact HM.out.2,HM.out.1⟩
            rw [List.range_succ,List.all_append,HQ.out.1,List.all_cons,List.all_nil,Bool.and_true,Bool.true_and]
            exact decide_eq_true (by rw [← HQ.out.2.2.2,← HK.out.2.2];exact HS.out)
           case measure=>simp [intOf];omega
         ·obtain rfl:k = i:=by omega
          have d4:decide ((k:Int) < (k:Int)) = false:=decide_eq_false (by omega)
          have H2:=Lib.hid (And.intro hno hM2)
          clear hno hbk hM2
          go_wp2_with fail
          go_roundw
          case rel=>
           refine ⟨k + 1,by omega,by go_num,?_,H2.out.2⟩
           rw [rungsB_succ,HK.out.1,← HK.out.2.2,HRT.out,Bool.true_and,Bool.true_and,HK.out.2.2]
           exact H2.out.1
          case measure=>simp [intOf];omega
       ·have y2:((Y * 2) != H) = true:=by simpa using x2
        have HB:=Lib.hid (HRB.out.2 (by rw [HRB.out.1,decide_eq_false x2,Bool.and_false,Bool.and_false]))
        clear hsr x1 x2
        go_upto_region 12 with (fail)
        go_quiet (first | (go_at_call 51;exact Calls.quiet_of_same (HPQ.out _)))
        have HM:=Lib.hid ((HK.out.2.1.trans H4.out.2).drewN nq)
        clear s0 s1 r1
        generalize w4.drewN nq = w5 at *
        go_wp2_with fail
        go_ret
        exact ⟨by rw [HB.out];rfl,HM.out⟩
      ·have y1:((X * 2) != W) = true:=by simpa using x1
       have HB:=Lib.hid (HRB.out.2 (by rw [HRB.out.1,decide_eq_false x1,Bool.false_and,Bool.and_false]))
       clear hsr x1
       go_upto_region 12 with (fail)
       go_quiet (first | (go_at_call 51;exact Calls.quiet_of_same (HPQ.out _)))
       have HM:=Lib.hid ((HK.out.2.1.trans H4.out.2).drewN nq)
       clear s0 s1 r1
       generalize w4.drewN nq = w5 at *
       go_wp2_with fail
       go_ret
       exact ⟨by rw [HB.out];rfl,HM.out⟩
    ·have hrb:rungB W H G ⟨nm,2,qq,tg⟩ = (seqRight (W.tdiv 4) (H.tdiv 4) G && (decide (W.tdiv 4 * 4 = W) && decide (H.tdiv 4 * 4 = H))):=rungB_args (W:=W) (H:=H) (G:=G) (d:=2) (q:=qq) (t:=tg) HNB.out (by unfold rungArgsB;exact decide_eq_true (by dsimp only;omega)) 4 rfl
     have rs:=fun w=>rSequence w W H G ⟨nm,2,qq,tg⟩ 2 rfl (by omega) hW hH
     have rp:=fun w=>rPower w 2 (by omega)
     obtain ⟨X,hX⟩:∃ X,X = W.tdiv 4:=⟨_,rfl⟩
     obtain ⟨Y,hY⟩:∃ Y,Y = H.tdiv 4:=⟨_,rfl⟩
     rw [← hX,← hY] at hrb
     have rs2:∀ w:World,Calls Tryz.prog 49 #[.int .i64 W,.int .i64 H,.int .i64 G,.agg #[.string (strOf nm),.int .i64 2,.int .i64 qq,.int .i64 tg]] w fun e w'=>e = .returned (.agg #[.int .i64 X,.int .i64 Y,.int .i64 G]) ∧ Mod (fun _=>False) w w':=fun w=>by rw [hX,hY];exact rs w
     have rp2:∀ w:World,Calls Tryz.prog 51 #[.int .i64 2] w fun e w'=>e = .returned (.int .i64 4) ∧ w = w':=rp
     have RS:=Lib.hid rs2
     have RP:=Lib.hid rp2
     have HRB:=Lib.hid (And.intro hrb hno)
     clear hrb rs rp rs2 rp2 hX hY hno
     have hb0:=Blk.new wr 38 #[.string (strOf nm),.int .i64 2,.int .i64 qq,.int .i64 tg]
     obtain ⟨rb,hrb⟩:∃ b,b = wr.heap.size:=⟨_,rfl⟩
     go_wp2_with fail
     refine (RN.out _).mono ?_
     rintro e w1 ⟨rfl,rfl⟩
     rw [HNB.out]
     rw [← hrb] at hb0 ⊢
     have HB0:=Lib.hid (And.intro hb0 ((Mod.refl (fun _=>False) wr).alloc (.cells #[.string (strOf nm),.int .i64 2,.int .i64 qq,.int .i64 tg] 38)))
     obtain ⟨rc,rf⟩:=hb0.both
     clear hrb hb0 k0 k1 k2 k3
     generalize wr.alloc (.cells #[.string (strOf nm),.int .i64 2,.int .i64 qq,.int .i64 tg] 38) = w1 at *
     go_wp2_with fail
     refine (RS.out _).mono ?_
     rintro e w2 ⟨rfl,hm2⟩
     have hbr:=(HB0.out.1.keep hm2 (fun h=>h)).alloc (.cells #[.int .i64 X,.int .i64 Y,.int .i64 G] 40)
     have hbs:=Blk.new w2 40 #[.int .i64 X,.int .i64 Y,.int .i64 G]
     have hmm:=(HB0.out.2.trans hm2).alloc (.cells #[.int .i64 X,.int .i64 Y,.int .i64 G] 40)
     go_upto_region 11 with (fail)
     obtain ⟨sb,hsb⟩:∃ b,b = w2.heap.size:=⟨_,rfl⟩
     rw [← hsb] at hbs ⊢
     generalize w2.alloc (.cells #[.int .i64 X,.int .i64 Y,.int .i64 G] 40) = w3 at *
     obtain ⟨sc,sf⟩:=hbs.both
     clear rc rf hm2 hsb
     have H3:=Lib.hid (And.intro hbr (And.intro hbs hmm))
     clear hbr hbs hmm HB0
     go_wp2_with fail
     refine (refRightA w3 X Y G).mono ?_
     rintro e w4 ⟨rfl,hm4⟩
     have hbr:=H3.out.1.keep hm4 (fun h=>h)
     have hbs:=H3.out.2.1.keep hm4 (fun h=>h)
     clear sc sf
     have s0:w4.cell? ⟨sb,0,none⟩ = some (.int .i64 X):=hbs.cell 0
     have s1:w4.cell? ⟨sb,1,none⟩ = some (.int .i64 Y):=hbs.cell 1
     have r1:w4.cell? ⟨rb,1,none⟩ = some (.int .i64 2):=hbr.cell 1
     have H4:=Lib.hid (And.intro hbr (H3.out.2.2.trans hm4))
     have hpq:∀ m,Calls Tryz.prog 51 #[.int .i64 2] (w4.drewN m) fun e w'=>e = .returned (.int .i64 4) ∧ w' = w4.drewN m:=fun m=>(RP.out _).mono (fun _ _ h=>⟨h.1,h.2.symm⟩)
     have HPQ:=Lib.hid hpq
     clear hbr hbs hm4 H3 hpq
     cases hsr:seqRight X Y G with
     | false=>
      have HB:=Lib.hid (HRB.out.2 (by rw [HRB.out.1,hsr,Bool.false_and]))
      clear hsr
      go_upto_region 12 with (fail)
      go_quiet (first | (go_at_call 51;exact Calls.quiet_of_same (HPQ.out _)))
      have HM:=Lib.hid ((HK.out.2.1.trans H4.out.2).drewN nq)
      clear s0 s1 r1
      generalize w4.drewN nq = w5 at *
      go_wp2_with fail
      go_ret
      exact ⟨by rw [HB.out];rfl,HM.out⟩
     | true=>
      have hb:=hsr
      unfold seqRight at hb
      rw [decide_eq_true_eq] at hb
      obtain ⟨⟨a1,a2,_⟩,⟨c1,c2,_⟩,_⟩:=hb
      by_cases x1:X * 4 = W
      ·have y1:((X * 4) != W) = false:=by simpa using x1
       by_cases x2:Y * 4 = H
       ·have y2:((Y * 4) != H) = false:=by simpa using x2
        have hrt:rungB W H G ⟨nm,2,qq,tg⟩ = true:=by
         have h:=HRB.out.1
         rw [hsr,decide_eq_true x1,decide_eq_true x2] at h
         exact h
        have HRT:=Lib.hid hrt
        clear hsr x1 x2 hrt
        go_upto_region 12 with (fail)
        go_quiet (first | (go_at_call 51;exact Calls.quiet_of_same (HPQ.out _)))
        have hbr:=Blk.keep H4.out.1 (Mod.drewN (Mod.refl (fun _=>False) w4) nq) (fun h=>h)
        have hM5:=(HK.out.2.1.trans H4.out.2).drewN nq
        clear s0 s1 r1
        generalize w4.drewN nq = w5 at *
        have H5:=Lib.hid (And.intro hbr hM5)
        clear hbr hM5
        go_wp2_with fail
        go_loopw [14] (RckRel2 w rb rs i) (fun k _=>i - (intOf k).toNat)
        case atStart=>exact ⟨0,by omega,rfl,rfl,by rw [← HK.out.2.2];exact H5.out.1,H5.out.2⟩
        case round=>
         obtain ⟨k,hk,rfl,hno,hbk,hM2⟩:=hrel
         rename World=>wq
         by_cases hlk:k < i
         ·have d4:decide ((k:Int) < (i:Int)) = true:=decide_eq_true (by omega)
          obtain ⟨b',o',hA',hb',hcells⟩:=(HH.out.quiet hM2).at_ k (by omega)
          injection hA' with hA'
          injection hA' with e1' e2'
          subst e1' e2'
          obtain ⟨r2,hr2⟩:∃ r,r = rs.getD k Rg.zero:=⟨_,rfl⟩
          rw [← hr2] at hcells
          have k0:wq.cell? ⟨b,o + k * 4,none⟩ = some (.string (strOf r2.name)):=hcells 0 _ rfl
          rw [← HK.out.2.2] at hbk
          have q0:wq.cell? ⟨rb,0,none⟩ = some (.string (strOf nm)):=hbk.cell 0
          have HQ:=Lib.hid (And.intro hno (And.intro hbk (And.intro hM2 hr2)))
          clear hno hbk hM2 hr2 hcells hb'
          by_cases hs:r2.name = nm
          ·have y3:((strOf r2.name).toList == (strOf nm).toList) = true:=by rw [strOf_beq];exact decide_eq_true hs
           have H2:=Lib.hid (ladderE_no (W:=W) (H:=H) (G:=G) (rs:=rs) (i:=i + 1) (by rw [HLE.out];omega) (by rw [rungsB_succ,same_no hlk (by rw [← HQ.out.2.2.2,← HK.out.2.2];exact hs),Bool.and_false,Bool.and_false]))
           clear hs
           go_upto_region 17 with (fail)
           go_quiet (fail)
           have HM:=Lib.hid (HQ.out.2.2.1.drewN nq)
           clear k0 q0
           generalize wq.drewN nq = w7 at *
           go_wp2_with fail
           go_ret
           exact ⟨by rw [H2.out];rfl,HM.out⟩
          ·have y3:((strOf r2.name).toList == (strOf nm).toList) = false:=by rw [strOf_beq];exact decide_eq_false hs
           have HS:=Lib.hid hs
           clear hs
           go_upto_region 17 with (fail)
           go_quiet (fail)
           have hbk:=Blk.keep HQ.out.2.1 (Mod.drewN (Mod.refl (fun _=>False) wq) nq) (fun h=>h)
           have HM:=Lib.hid (And.intro (HQ.out.2.2.1.drewN nq) hbk)
           clear k0 q0 hbk
           generalize wq.drewN nq = w7 at *
           go_wp2_with fail
           go_roundw
           case rel=>
            refine ⟨k + 1,by omega,by go_num,?_,by rw [← HK.out.2.2];exact HM.out.2,HM.out.1⟩
            rw [List.range_succ,List.all_append,HQ.out.1,List.all_cons,List.all_nil,Bool.and_true,Bool.true_and]
            exact decide_eq_true (by rw [← HQ.out.2.2.2,← HK.out.2.2];exact HS.out)
           case measure=>simp [intOf];omega
         ·obtain rfl:k = i:=by omega
          have d4:decide ((k:Int) < (k:Int)) = false:=decide_eq_false (by omega)
          have H2:=Lib.hid (And.intro hno hM2)
          clear hno hbk hM2
          go_wp2_with fail
          go_roundw
          case rel=>
           refine ⟨k + 1,by omega,by go_num,?_,H2.out.2⟩
           rw [rungsB_succ,HK.out.1,← HK.out.2.2,HRT.out,Bool.true_and,Bool.true_and,HK.out.2.2]
           exact H2.out.1
          case measure=>simp [intOf];omega
       ·have y2:((Y * 4) != H) = true:=by simpa using x2
        have HB:=Lib.hid (HRB.out.2 (by rw [HRB.out.1,decide_eq_false x2,Bool.and_false,Bool.and_false]))
        clear hsr x1 x2
        go_upto_region 12 with (fail)
        go_quiet (first | (go_at_call 51;exact Calls.quiet_of_same (HPQ.out _)))
        have HM:=Lib.hid ((HK.out.2.1.trans H4.out.2).drewN nq)
        clear s0 s1 r1
        generalize w4.drewN nq = w5 at *
        go_wp2_with fail
        go_ret
        exact ⟨by rw [HB.out];rfl,HM.out⟩
      ·have y1:((X * 4) != W) = true:=by simpa using x1
       have HB:=Lib.hid (HRB.out.2 (by rw [HRB.out.1,decide_eq_false x1,Bool.false_and,Bool.and_false]))
       clear hsr x1
       go_upto_region 12 with (fail)
       go_quiet (first | (go_at_call 51;exact Calls.quiet_of_same (HPQ.out _)))
       have HM:=Lib.hid ((HK.out.2.1.trans H4.out.2).drewN nq)
       clear s0 s1 r1
       generalize w4.drewN nq = w5 at *
       go_wp2_with fail
       go_ret
       exact ⟨by rw [HB.out];rfl,HM.out⟩
    ·have hrb:rungB W H G ⟨nm,3,qq,tg⟩ = (seqRight (W.tdiv 8) (H.tdiv 8) G && (decide (W.tdiv 8 * 8 = W) && decide (H.tdiv 8 * 8 = H))):=rungB_args (W:=W) (H:=H) (G:=G) (d:=3) (q:=qq) (t:=tg) HNB.out (by unfold rungArgsB;exact decide_eq_true (by dsimp only;omega)) 8 rfl
     have rs:=fun w=>rSequence w W H G ⟨nm,3,qq,tg⟩ 3 rfl (by omega) hW hH
     have rp:=fun w=>rPower w 3 (by omega)
     obtain ⟨X,hX⟩:∃ X,X = W.tdiv 8:=⟨_,rfl⟩
     obtain ⟨Y,hY⟩:∃ Y,Y = H.tdiv 8:=⟨_,rfl⟩
     rw [← hX,← hY] at hrb
     have rs2:∀ w:World,Calls Tryz.prog 49 #[.int .i64 W,.int .i64 H,.int .i64 G,.agg #[.string (strOf nm),.int .i64 3,.int .i64 qq,.int .i64 tg]] w fun e w'=>e = .returned (.agg #[.int .i64 X,.int .i64 Y,.int .i64 G]) ∧ Mod (fun _=>False) w w':=fun w=>by rw [hX,hY];exact rs w
     have rp2:∀ w:World,Calls Tryz.prog 51 #[.int .i64 3] w fun e w'=>e = .returned (.int .i64 8) ∧ w = w':=rp
     have RS:=Lib.hid rs2
     have RP:=Lib.hid rp2
     have HRB:=Lib.hid (And.intro hrb hno)
     clear hrb rs rp rs2 rp2 hX hY hno
     have hb0:=Blk.new wr 38 #[.string (strOf nm),.int .i64 3,.int .i64 qq,.int .i64 tg]
     obtain ⟨rb,hrb⟩:∃ b,b = wr.heap.size:=⟨_,rfl⟩
     go_wp2_with fail
     refine (RN.out _).mono ?_
     rintro e w1 ⟨rfl,rfl⟩
     rw [HNB.out]
     rw [← hrb] at hb0 ⊢
     have HB0:=Lib.hid (And.intro hb0 ((Mod.refl (fun _=>False) wr).alloc (.cells #[.string (strOf nm),.int .i64 3,.int .i64 qq,.int .i64 tg] 38)))
     obtain ⟨rc,rf⟩:=hb0.both
     clear hrb hb0 k0 k1 k2 k3
     generalize wr.alloc (.cells #[.string (strOf nm),.int .i64 3,.int .i64 qq,.int .i64 tg] 38) = w1 at *
     go_wp2_with fail
     refine (RS.out _).mono ?_
     rintro e w2 ⟨rfl,hm2⟩
     have hbr:=(HB0.out.1.keep hm2 (fun h=>h)).alloc (.cells #[.int .i64 X,.int .i64 Y,.int .i64 G] 40)
     have hbs:=Blk.new w2 40 #[.int .i64 X,.int .i64 Y,.int .i64 G]
     have hmm:=(HB0.out.2.trans hm2).alloc (.cells #[.int .i64 X,.int .i64 Y,.int .i64 G] 40)
     go_upto_region 11 with (fail)
     obtain ⟨sb,hsb⟩:∃ b,b = w2.heap.size:=⟨_,rfl⟩
     rw [← hsb] at hbs ⊢
     generalize w2.alloc (.cells #[.int .i64 X,.int .i64 Y,.int .i64 G] 40) = w3 at *
     obtain ⟨sc,sf⟩:=hbs.both
     clear rc rf hm2 hsb
     have H3:=Lib.hid (And.intro hbr (And.intro hbs hmm))
     clear hbr hbs hmm HB0
     go_wp2_with fail
     refine (refRightA w3 X Y G).mono ?_
     rintro e w4 ⟨rfl,hm4⟩
     have hbr:=H3.out.1.keep hm4 (fun h=>h)
     have hbs:=H3.out.2.1.keep hm4 (fun h=>h)
     clear sc sf
     have s0:w4.cell? ⟨sb,0,none⟩ = some (.int .i64 X):=hbs.cell 0
     have s1:w4.cell? ⟨sb,1,none⟩ = some (.int .i64 Y):=hbs.cell 1
     have r1:w4.cell? ⟨rb,1,none⟩ = some (.int .i64 3):=hbr.cell 1
     have H4:=Lib.hid (And.intro hbr (H3.out.2.2.trans hm4))
     have hpq:∀ m,Calls Tryz.prog 51 #[.int .i64 3] (w4.drewN m) fun e w'=>e = .returned (.int .i64 8) ∧ w' = w4.drewN m:=fun m=>(RP.out _).mono (fun _ _ h=>⟨h.1,h.2.symm⟩)
     have HPQ:=Lib.hid hpq
     clear hbr hbs hm4 H3 hpq
     cases hsr:seqRight X Y G with
     | false=>
      have HB:=Lib.hid (HRB.out.2 (by rw [HRB.out.1,hsr,Bool.false_and]))
      clear hsr
      go_upto_region 12 with (fail)
      go_quiet (first | (go_at_call 51;exact Calls.quiet_of_same (HPQ.out _)))
      have HM:=Lib.hid ((HK.out.2.1.trans H4.out.2).drewN nq)
      clear s0 s1 r1
      generalize w4.drewN nq = w5 at *
      go_wp2_with fail
      go_ret
      exact ⟨by rw [HB.out];rfl,HM.out⟩
     | true=>
      have hb:=hsr
      unfold seqRight at hb
      rw [decide_eq_true_eq] at hb
      obtain ⟨⟨a1,a2,_⟩,⟨c1,c2,_⟩,_⟩:=hb
      by_cases x1:X * 8 = W
      ·have y1:((X * 8) != W) = false:=by simpa using x1
       by_cases x2:Y * 8 = H
       ·have y2:((Y * 8) != H) = false:=by simpa using x2
        have hrt:rungB W H G ⟨nm,3,qq,tg⟩ = true:=by
         have h:=HRB.out.1
         rw [hsr,decide_eq_true x1,decide_eq_true x2] at h
         exact h
        have HRT:=Lib.hid hrt
        clear hsr x1 x2 hrt
        go_upto_region 12 with (fail)
        go_quiet (first | (go_at_call 51;exact Calls.quiet_of_same (HPQ.out _)))
        have hbr:=Blk.keep H4.out.1 (Mod.drewN (Mod.refl (fun _=>False) w4) nq) (fun h=>h)
        have hM5:=(HK.out.2.1.trans H4.out.2).drewN nq
        clear s0 s1 r1
        generalize w4.drewN nq = w5 at *
        have H5:=Lib.hid (And.intro hbr hM5)
        clear hbr hM5
        go_wp2_with fail
        go_loopw [14] (RckRel2 w rb rs i) (fun k _=>i - (intOf k).toNat)
        case atStart=>exact ⟨0,by omega,rfl,rfl,by rw [← HK.out.2.2];exact H5.out.1,H5.out.2⟩
        case round=>
         obtain ⟨k,hk,rfl,hno,hbk,hM2⟩:=hrel
         rename World=>wq
         by_cases hlk:k < i
         ·have d4:decide ((k:Int) < (i:Int)) = true:=decide_eq_true (by omega)
          obtain ⟨b',o',hA',hb',hcells⟩:=(HH.out.quiet hM2).at_ k (by omega)
          injection hA' with hA'
          injection hA' with e1' e2'
          subst e1' e2'
          obtain ⟨r2,hr2⟩:∃ r,r = rs.getD k Rg.zero:=⟨_,rfl⟩
          rw [← hr2] at hcells
          have k0:wq.cell? ⟨b,o + k * 4,none⟩ = some (.string (strOf r2.name)):=hcells 0 _ rfl
          rw [← HK.out.2.2] at hbk
          have q0:wq.cell? ⟨rb,0,none⟩ = some (.string (strOf nm)):=hbk.cell 0
          have HQ:=Lib.hid (And.intro hno (And.intro hbk (And.intro hM2 hr2)))
          clear hno hbk hM2 hr2 hcells hb'
          by_cases hs:r2.name = nm
          ·have y3:((strOf r2.name).toList == (strOf nm).toList) = true:=by rw [strOf_beq];exact decide_eq_true hs
           have H2:=Lib.hid (ladderE_no (W:=W) (H:=H) (G:=G) (rs:=rs) (i:=i + 1) (by rw [HLE.out];omega) (by rw [rungsB_succ,same_no hlk (by rw [← HQ.out.2.2.2,← HK.out.2.2];exact hs),Bool.and_false,Bool.and_false]))
           clear hs
           go_upto_region 17 with (fail)
           go_quiet (fail)
           have HM:=Lib.hid (HQ.out.2.2.1.drewN nq)
           clear k0 q0
           generalize wq.drewN nq = w7 at *
           go_wp2_with fail
           go_ret
           exact ⟨by rw [H2.out];rfl,HM.out⟩
          ·have y3:((strOf r2.name).toList == (strOf nm).toList) = false:=by rw [strOf_beq];exact decide_eq_false hs
           have HS:=Lib.hid hs
           clear hs
           go_upto_region 17 with (fail)
           go_quiet (fail)
           have hbk:=Blk.keep HQ.out.2.1 (Mod.drewN (Mod.refl (fun _=>False) wq) nq) (fun h=>h)
           have HM:=Lib.hid (And.intro (HQ.out.2.2.1.drewN nq) hbk)
           clear k0 q0 hbk
           generalize wq.drewN nq = w7 at *
           go_wp2_with fail
           go_roundw
           case rel=>
            refine ⟨k + 1,by omega,by go_num,?_,by rw [← HK.out.2.2];exact HM.out.2,HM.out.1⟩
            rw [List.range_succ,List.all_append,HQ.out.1,List.all_cons,List.all_nil,Bool.and_true,Bool.true_and]
            exact decide_eq_true (by rw [← HQ.out.2.2.2,← HK.out.2.2];exact HS.out)
           case measure=>simp [intOf];omega
         ·obtain rfl:k = i:=by omega
          have d4:decide ((k:Int) < (k:Int)) = false:=decide_eq_false (by omega)
          have H2:=Lib.hid (And.intro hno hM2)
          clear hno hbk hM2
          go_wp2_with fail
          go_roundw
          case rel=>
           refine ⟨k + 1,by omega,by go_num,?_,H2.out.2⟩
           rw [rungsB_succ,HK.out.1,← HK.out.2.2,HRT.out,Bool.true_and,Bool.true_and,HK.out.2.2]
           exact H2.out.1
          case measure=>simp [intOf];omega
       ·have y2:((Y * 8) != H) = true:=by simpa using x2
        have HB:=Lib.hid (HRB.out.2 (by rw [HRB.out.1,decide_eq_false x2,Bool.and_false,Bool.and_false]))
        clear hsr x1 x2
        go_upto_region 12 with (fail)
        go_quiet (first | (go_at_call 51;exact Calls.quiet_of_same (HPQ.out _)))
        have HM:=Lib.hid ((HK.out.2.1.trans H4.out.2).drewN nq)
        clear s0 s1 r1
        generalize w4.drewN nq = w5 at *
        go_wp2_with fail
        go_ret
        exact ⟨by rw [HB.out];rfl,HM.out⟩
      ·have y1:((X * 8) != W) = true:=by simpa using x1
       have HB:=Lib.hid (HRB.out.2 (by rw [HRB.out.1,decide_eq_false x1,Bool.false_and,Bool.and_false]))
       clear hsr x1
       go_upto_region 12 with (fail)
       go_quiet (first | (go_at_call 51;exact Calls.quiet_of_same (HPQ.out _)))
       have HM:=Lib.hid ((HK.out.2.1.trans H4.out.2).drewN nq)
       clear s0 s1 r1
       generalize w4.drewN nq = w5 at *
       go_wp2_with fail
       go_ret
       exact ⟨by rw [HB.out];rfl,HM.out⟩
  ·obtain rfl:i = n:=by omega
   have d3:decide ((i:Int) < (i:Int)) = false:=decide_eq_false (by omega)
   have HR:Hid (ladderE W H G rs = 0):=by show _ = _;refine ladderE_yes ?_;unfold ladderB;rw [HLE.out,hok,Bool.and_true];exact decide_eq_true ⟨by omega,by omega⟩
   have H1:=Lib.hid hM
   clear hok hM
   go_wp2_with fail
   go_ret
   exact ⟨by rw [HR.out];rfl,H1.out⟩
end Go.Proofs.YthednemlahioeaaGreatDoor
