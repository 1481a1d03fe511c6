/-
  Whether a text is a name: the ladder's, and the reference's.
-/
import Derived.Test.YthednemlahioeaaGreatDoorP0
import Derived.Test.YthednemlahioeaaGreatDoorP27
import Derived.Test.YthednemlahioeaaGreatDoorP1
import Derived.Test.YthednemlahioeaaGreatDoorP3
import Derived.Laws.RangeAny
import Derived.LoopTactic
import Derived.Deep.DeepCutAuto
namespace Go.Proofs.YthednemlahioeaaGreatDoor
open Go.RowKit
set_option maxRecDepth 100000
set_option maxHeartbeats 8000000
theorem letterI (c:UInt8):letterB c = !((decide ((c.toNat:Int) < 97) || decide ((122:Int) < (c.toNat:Int))) && (decide ((c.toNat:Int) < 48) || decide ((57:Int) < (c.toNat:Int)))):=by
 unfold letterB
 rw [Bool.eq_iff_iff]
 simp only [Bool.or_eq_true,decide_eq_true_eq,Bool.not_eq_true',Bool.and_eq_false_iff,Bool.or_eq_false_iff,decide_eq_false_iff_not]
 omega
theorem nameI_no {l:List UInt8} (h:l.all letterB = false):nameB l = false:=by unfold nameB;rw [h,Bool.and_false]
theorem nameI_yes {l:List UInt8} (h:l.all letterB = true):nameB l = decide (1 ≤ l.length ∧ l.length ≤ 8):=by unfold nameB;rw [h,Bool.and_true]
theorem nameI_len {l:List UInt8} (h:¬ (1 ≤ l.length ∧ l.length ≤ 8)):nameB l = false:=by unfold nameB;rw [decide_eq_false h,Bool.false_and]
def nmRel15 (l:List UInt8) (v:Value):Prop:=∃ k:Nat,k ≤ l.length ∧ v = .int .i64 (k:Int) ∧ (l.take k).all letterB = true
theorem strOf_at {l:List UInt8} {k:Nat} (h:k < (strOf l).size) (h2:k < l.length):(strOf l)[k]'h = l[k]'h2:=rfl
theorem rName15 (w : World) (l : List UInt8) (hl : l.length ≤ 9223372036854775807) : Calls Tryz.prog 48 #[.string (strOf l)] w fun e w' => e = .returned (.bool (nameB l)) ∧ w = w' := by
  have hsz := strOf_size l
  go_enter Tryz.func48, Tryz.ntmps48
  go_wp2_with fail
  go_loop [3] (nmRel15 l) (fun i => l.length - (intOf i).toNat)
  case atStart => exact ⟨0, by omega, rfl, by simp⟩
  case round =>
    obtain ⟨k, hk, rfl, hall⟩ := hrel
    have HA := Lib.hid hall
    clear hall
    by_cases hlt : k < l.length
    · have hc := getE hlt
      have d0 : decide ((k : Int) < (l.length : Int)) = true := decide_eq_true (by omega)
      have hx := run_index_strOf (P := Tryz.prog) (t := 9) l .i64 k _ Tryz.underlying9 hc
      generalize hcc : l[k] = c at hc hx
      have hct := c.toNat_lt
      have hld := letterI c
      have HC := Lib.hid (And.intro hc hld)
      clear hc hcc hld
      cases d1 : decide ((c.toNat : Int) < 97) <;> cases d2 : decide ((122 : Int) < (c.toNat : Int)) <;> cases d3 : decide ((c.toNat : Int) < 48) <;> cases d4 : decide ((57 : Int) < (c.toNat : Int)) <;> (
        have HB := HC.out.2
        rw [d1, d2, d3, d4] at HB
        simp only [Bool.or_true, Bool.or_false, Bool.and_true, Bool.and_false, Bool.not_true, Bool.not_false] at HB
        have HD := Lib.hid HB
        clear HB
        go_wp2_with fail
        first
        | exact ⟨⟨k + 1, by omega, by go_num, all_snoc HA.out HC.out.1 HD.out⟩, by simp [intOf]; omega⟩
        | (go_ret
           exact ⟨by rw [nameI_no (all_not HC.out.1 HD.out)]; rfl, rfl⟩))
    · obtain rfl : k = l.length := by omega
      have d0 : decide ((l.length : Int) < (l.length : Int)) = false := decide_eq_false (by omega)
      have HY := Lib.hid (nameI_yes (all_end HA.out))
      cases d1 : decide ((1 : Int) ≤ (l.length : Int)) with
      | false =>
        go_wp2_with fail
        go_ret
        exact ⟨by rw [HY.out, show decide (1 ≤ l.length ∧ l.length ≤ 8) = false from decide_eq_false (by have := of_decide_eq_false d1; omega)]; rfl, rfl⟩
      | true =>
        cases d2 : decide ((l.length : Int) ≤ 8) with
        | false =>
          go_wp2_with fail
          go_ret
          exact ⟨by rw [HY.out, show decide (1 ≤ l.length ∧ l.length ≤ 8) = false from decide_eq_false (by have := of_decide_eq_false d2; omega)]; rfl, rfl⟩
        | true =>
          go_wp2_with fail
          go_ret
          exact ⟨by rw [HY.out, show decide (1 ≤ l.length ∧ l.length ≤ 8) = true from decide_eq_true (by have := of_decide_eq_true d1; have := of_decide_eq_true d2; omega)]; rfl, rfl⟩
theorem lName (w : World) (l : List UInt8) (hl : l.length ≤ 9223372036854775807) : Calls Tryz.prog 91 #[.string (strOf l)] w fun e w' => e = .returned (.bool (nameB l)) ∧ Mod (fun _ => False) w w' := by
  have hsz := strOf_size l
  by_cases h1 : l.length < 1
  · have d1 : decide ((l.length : Int) < 1) = true := decide_eq_true (by omega)
    have HN := Lib.hid (nameI_len (l := l) (by omega))
    go_enter Tryz.func91, Tryz.ntmps91
    go_wp2_with fail
    go_ret
    exact ⟨by rw [HN.out]; rfl, Mod.refl _ _⟩
  · have d1 : decide ((l.length : Int) < 1) = false := decide_eq_false (by omega)
    by_cases h2 : 8 < l.length
    · have d2 : decide (8 < (l.length : Int)) = true := decide_eq_true (by omega)
      have HN := Lib.hid (nameI_len (l := l) (by omega))
      go_enter Tryz.func91, Tryz.ntmps91
      go_wp2_with fail
      go_ret
      exact ⟨by rw [HN.out]; rfl, Mod.refl _ _⟩
    · have d2 : decide (8 < (l.length : Int)) = false := decide_eq_false (by omega)
      have hit : ∀ k, Mod (fun _ => False) w (w.iter (strOf l) k) := fun k => (Mod.refl _ w).alloc _
      have HIT := Lib.hid hit
      clear hit
      go_enter Tryz.func91, Tryz.ntmps91
      go_wp2_with fail
      go_loopw [4] (fun _ w' => ∃ k : Nat, k ≤ l.length ∧ w' = w.iter (strOf l) k ∧ (l.take k).all letterB = true) (fun _ w' => l.length - w'.iterPos w.heap.size)
      case atStart => exact ⟨0, by omega, rfl, by simp⟩
      case round =>
        obtain ⟨k, hk, rfl, hall⟩ := hrel
        have HA := Lib.hid hall
        clear hall
        by_cases hlt : k < l.length
        · have hc := getE hlt
          have hks : k < (strOf l).size := by omega
          generalize hcc : l[k] = c at hc
          have hct := c.toNat_lt
          have hld := letterI c
          have HC := Lib.hid (And.intro hc hld)
          have hce : ((strOf l)[k]'hks) = c := by rw [strOf_at hks hlt]; exact hcc
          clear hc hld
          by_cases ha : c.toNat < 128
          · have hnx : ∀ ty, (Instr.next (.pointer (some ⟨w.heap.size, 0, none⟩)) true ty).run Tryz.prog (w.iter (strOf l) k) = .ok (.tuple #[.bool true, .int .i64 k, .int .i32 c.toNat]) (w.iter (strOf l) (k + 1)) := fun ty => by
              have h := run_next_ascii (P := Tryz.prog) w (strOf l) k ty hks (by rw [hce]; exact ha)
              rw [hce] at h
              exact h
            clear hcc hce
            cases e1 : decide ((c.toNat : Int) < 97) <;> cases e2 : decide ((122 : Int) < (c.toNat : Int)) <;> cases e3 : decide ((c.toNat : Int) < 48) <;> cases e4 : decide ((57 : Int) < (c.toNat : Int)) <;> (
              have HB := HC.out.2
              rw [e1, e2, e3, e4] at HB
              simp only [Bool.or_true, Bool.or_false, Bool.and_true, Bool.and_false, Bool.not_true, Bool.not_false] at HB
              have HD := Lib.hid HB
              clear HB
              go_wp2_with fail
              first
              | (go_ret
                 exact ⟨by rw [nameI_no (all_not HC.out.1 HD.out)]; rfl, HIT.out _⟩)
              | (go_roundw
                 case rel => exact ⟨k + 1, by omega, rfl, all_snoc HA.out HC.out.1 HD.out⟩
                 case measure => simp; omega))
          · have hhi := decode_high (strOf l) k hks (by rw [hce]; omega)
            have hle := decode_le (strOf l) k
            have hnx : ∀ ty, (Instr.next (.pointer (some ⟨w.heap.size, 0, none⟩)) true ty).run Tryz.prog (w.iter (strOf l) k) = _ := fun ty => run_next_any w (strOf l) k ty hks
            have hlb : letterB c = false := by
              unfold letterB
              rw [decide_eq_false (by omega), decide_eq_false (by omega)]
              rfl
            have HN := Lib.hid (nameI_no (all_not HC.out.1 hlb))
            generalize (Utf8.decode (strOf l) k).1 = r at *
            generalize (Utf8.decode (strOf l) k).2 = nn at *
            obtain ⟨hr, hnn⟩ := hhi
            have e1 : decide ((r : Int) < 97) = false := decide_eq_false (by omega)
            have e2 : decide ((122 : Int) < (r : Int)) = true := decide_eq_true (by omega)
            have e3 : decide ((r : Int) < 48) = false := decide_eq_false (by omega)
            have e4 : decide ((57 : Int) < (r : Int)) = true := decide_eq_true (by omega)
            clear hlb hcc hce
            go_wp2_with fail
            go_ret
            exact ⟨by rw [HN.out]; rfl, HIT.out _⟩
        · obtain rfl : k = l.length := by omega
          have hnx : ∀ ty, (Instr.next (.pointer (some ⟨w.heap.size, 0, none⟩)) true ty).run Tryz.prog (w.iter (strOf l) l.length) = .ok (.tuple #[.bool false]) (w.iter (strOf l) l.length) := fun ty => run_next_end w (strOf l) l.length ty (by omega)
          have HY := Lib.hid ((nameI_yes (all_end HA.out)).trans (decide_eq_true ⟨by omega, by omega⟩))
          go_wp2_with fail
          go_ret
          exact ⟨by rw [HY.out]; rfl, HIT.out _⟩
theorem sr_no (W H G:Int) (h:¬ ((16 ≤ W ∧ W ≤ 4096 ∧ W.tmod 16 = 0) ∧ (16 ≤ H ∧ H ≤ 4096 ∧ H.tmod 16 = 0) ∧ 1 ≤ G ∧ G ≤ 64)):seqRight W H G = false:=by
 unfold seqRight
 rw [decide_eq_false_iff_not]
 rintro ⟨⟨a,b,c⟩,⟨d,e,f⟩,k⟩
 exact h ⟨⟨a,b,by rw [Int.tmod_eq_emod_of_nonneg (by omega)];exact c⟩,⟨d,e,by rw [Int.tmod_eq_emod_of_nonneg (by omega)];exact f⟩,k⟩
theorem sr_yes (W H G:Int) (h:(16 ≤ W ∧ W ≤ 4096 ∧ W.tmod 16 = 0) ∧ (16 ≤ H ∧ H ≤ 4096 ∧ H.tmod 16 = 0) ∧ 1 ≤ G ∧ G ≤ 64):seqRight W H G = true:=by
 obtain ⟨⟨a,b,c⟩,⟨d,e,f⟩,k⟩:=h
 rw [Int.tmod_eq_emod_of_nonneg (by omega)] at c f
 unfold seqRight
 rw [decide_eq_true_eq]
 exact ⟨⟨a,b,c⟩,⟨d,e,f⟩,k⟩
theorem refRightA (w:World) (W H G:Int):Calls Tryz.prog 50 #[.agg #[.int .i64 W,.int .i64 H,.int .i64 G]] w fun e w'=>e = .returned (.bool (seqRight W H G)) ∧ Mod (fun _=>False) w w':=by
 by_cases c0:W.tmod 16 = 0
 ·have b0:(W.tmod 16 == 0) = true:=by simp [c0]
  by_cases c1:H.tmod 16 = 0
  ·have b1:(H.tmod 16 == 0) = true:=by simp [c1]
   by_cases c2:16 ≤ W
   ·have b2:decide (16 ≤ W) = true:=by simp;omega
    have b0e:((W % 16) == 0) = true:=by rw [← Int.tmod_eq_emod_of_nonneg (by omega)];exact b0
    by_cases c3:16 ≤ H
    ·have b3:decide (16 ≤ H) = true:=by simp;omega
     have b1e:((H % 16) == 0) = true:=by rw [← Int.tmod_eq_emod_of_nonneg (by omega)];exact b1
     by_cases c4:W ≤ 4096
     ·have b4:decide (W ≤ 4096) = true:=by simp;omega
      by_cases c5:H ≤ 4096
      ·have b5:decide (H ≤ 4096) = true:=by simp;omega
       by_cases c6:1 ≤ G
       ·have b6:decide (1 ≤ G) = true:=by simp;omega
        by_cases c7:G ≤ 64
        ·have b7:decide (G ≤ 64) = true:=by simp;omega
         have hr:seqRight W H G = true:=sr_yes W H G ⟨⟨c2,c4,c0⟩,⟨c3,c5,c1⟩,c6,c7⟩
         clear c0 c1
         have HR:=Lib.hid hr
         clear hr
         go_enter Tryz.func50,Tryz.ntmps50
         go_wp2_with fail
         go_ret
         exact ⟨congrArg (fun b=>Ending.returned (.bool b)) HR.out.symm,(Mod.refl _ _).alloc _⟩
        ·have b7:decide (G ≤ 64) = false:=by simp;omega
         have hr:seqRight W H G = false:=sr_no W H G (fun h=>absurd h (by rintro ⟨⟨a,b,c⟩,⟨d,e,f⟩,k,m⟩;exact c7 (by assumption)))
         clear c7 c0 c1
         have HR:=Lib.hid hr
         clear hr
         go_enter Tryz.func50,Tryz.ntmps50
         go_wp2_with fail
         go_ret
         exact ⟨congrArg (fun b=>Ending.returned (.bool b)) HR.out.symm,(Mod.refl _ _).alloc _⟩
       ·have b6:decide (1 ≤ G) = false:=by simp;omega
        have hr:seqRight W H G = false:=sr_no W H G (fun h=>absurd h (by rintro ⟨⟨a,b,c⟩,⟨d,e,f⟩,k,m⟩;exact c6 (by assumption)))
        clear c6 c0 c1
        have HR:=Lib.hid hr
        clear hr
        go_enter Tryz.func50,Tryz.ntmps50
        go_wp2_with fail
        go_ret
        exact ⟨congrArg (fun b=>Ending.returned (.bool b)) HR.out.symm,(Mod.refl _ _).alloc _⟩
      ·have b5:decide (H ≤ 4096) = false:=by simp;omega
       have hr:seqRight W H G = false:=sr_no W H G (fun h=>absurd h (by rintro ⟨⟨a,b,c⟩,⟨d,e,f⟩,k,m⟩;exact c5 (by assumption)))
       clear c5 c0 c1
       have HR:=Lib.hid hr
       clear hr
       go_enter Tryz.func50,Tryz.ntmps50
       go_wp2_with fail
       go_ret
       exact ⟨congrArg (fun b=>Ending.returned (.bool b)) HR.out.symm,(Mod.refl _ _).alloc _⟩
     ·have b4:decide (W ≤ 4096) = false:=by simp;omega
      have hr:seqRight W H G = false:=sr_no W H G (fun h=>absurd h (by rintro ⟨⟨a,b,c⟩,⟨d,e,f⟩,k,m⟩;exact c4 (by assumption)))
      clear c4 c0 c1
      have HR:=Lib.hid hr
      clear hr
      go_enter Tryz.func50,Tryz.ntmps50
      go_wp2_with fail
      go_ret
      exact ⟨congrArg (fun b=>Ending.returned (.bool b)) HR.out.symm,(Mod.refl _ _).alloc _⟩
    ·have b3:decide (16 ≤ H) = false:=by simp;omega
     have hr:seqRight W H G = false:=sr_no W H G (fun h=>absurd h (by rintro ⟨⟨a,b,c⟩,⟨d,e,f⟩,k,m⟩;exact c3 (by assumption)))
     clear c3 c0 c1
     have HR:=Lib.hid hr
     clear hr
     go_enter Tryz.func50,Tryz.ntmps50
     go_wp2_with fail
     go_ret
     exact ⟨congrArg (fun b=>Ending.returned (.bool b)) HR.out.symm,(Mod.refl _ _).alloc _⟩
   ·have b2:decide (16 ≤ W) = false:=by simp;omega
    have hr:seqRight W H G = false:=sr_no W H G (fun h=>absurd h (by rintro ⟨⟨a,b,c⟩,⟨d,e,f⟩,k,m⟩;exact c2 (by assumption)))
    clear c2 c0 c1
    have HR:=Lib.hid hr
    clear hr
    go_enter Tryz.func50,Tryz.ntmps50
    go_wp2_with fail
    go_ret
    exact ⟨congrArg (fun b=>Ending.returned (.bool b)) HR.out.symm,(Mod.refl _ _).alloc _⟩
  ·have b1:(H.tmod 16 == 0) = false:=by simp [c1]
   have hr:seqRight W H G = false:=sr_no W H G (fun h=>absurd h (by rintro ⟨⟨a,b,c⟩,⟨d,e,f⟩,k,m⟩;exact c1 (by assumption)))
   clear c1 c0
   have HR:=Lib.hid hr
   clear hr
   go_enter Tryz.func50,Tryz.ntmps50
   go_wp2_with fail
   go_ret
   exact ⟨congrArg (fun b=>Ending.returned (.bool b)) HR.out.symm,(Mod.refl _ _).alloc _⟩
 ·have b0:(W.tmod 16 == 0) = false:=by simp [c0]
  have hr:seqRight W H G = false:=sr_no W H G (fun h=>absurd h (by rintro ⟨⟨a,b,c⟩,⟨d,e,f⟩,k,m⟩;exact c0 (by assumption)))
  clear c0
  have HR:=Lib.hid hr
  clear hr
  go_enter Tryz.func50,Tryz.ntmps50
  go_wp2_with fail
  go_ret
  exact ⟨congrArg (fun b=>Ending.returned (.bool b)) HR.out.symm,(Mod.refl _ _).alloc _⟩
def seqV (W H G:Int):Value:=.agg #[.int .i64 W,.int .i64 H,.int .i64 G]
theorem lSequence (w:World) (W H G D:Int) (hD:0 ≤ D ∧ D ≤ 3) (hW:-1099511627776 ≤ W ∧ W ≤ 1099511627776) (hH:-1099511627776 ≤ H ∧ H ≤ 1099511627776) :
  Calls Tryz.prog 92 #[.int .i64 W,.int .i64 H,.int .i64 G,.int .i64 D] w fun e w'=>e = .returned (seqV (halved W D) (halved H D) G) ∧ Mod (fun _=>False) w w':=by
 obtain ⟨hW1,hW2⟩:=hW
 obtain ⟨hH1,hH2⟩:=hH
 have h4:D = 0 ∨ D = 1 ∨ D = 2 ∨ D = 3:=by omega
 rcases h4 with rfl | rfl | rfl | rfl
 iterate 4
  ·unfold seqV
   go_enter Tryz.func92,Tryz.ntmps92
   go_upto_region 1 with (fail)
   refine wp_region_plan [8] [] [0,1,2,3,4,5,6,7,8] (by kernel_rfl) (by kernel_rfl) (fun _ _ _ d _ h=>by cases d <;> exact h) ?_
   iterate 8 (refine plan_still rfl rfl (fun K hK=>?_);go_simp;refine hK _ ?_;clear hK K)
   refine plan_loud rfl rfl (fun K hK=>?_);go_simp;refine hK _ _ ?_;clear hK K
   refine plan_done ?_
   go_wp2_with fail
   first
   | exact bodyPost_ret (v:=.agg #[.int .i64 W,.int .i64 H,.int .i64 G]) (by simp [results,Tryz.results92,go_sem]) rfl ⟨by rw [halved_0,halved_0],((Mod.refl _ w).alloc _).drew⟩
   | exact bodyPost_ret (v:=.agg #[.int .i64 (W / 2),.int .i64 (H / 2),.int .i64 G]) (by simp [results,Tryz.results92,go_sem]) rfl ⟨rfl,((Mod.refl _ w).alloc _).drew⟩
   | exact bodyPost_ret (v:=.agg #[.int .i64 (W / 4),.int .i64 (H / 4),.int .i64 G]) (by simp [results,Tryz.results92,go_sem]) rfl ⟨rfl,((Mod.refl _ w).alloc _).drew⟩
   | exact bodyPost_ret (v:=.agg #[.int .i64 (W / 8),.int .i64 (H / 8),.int .i64 G]) (by simp [results,Tryz.results92,go_sem]) rfl ⟨rfl,((Mod.refl _ w).alloc _).drew⟩
def Rg.cells (r:Rg):List Value:=[.string (strOf r.name),.int .i64 r.down,.int .i64 r.q,.int .i64 r.tg]
theorem lRightRung (w:World) (W H G:Int) (r:Rg) (hn:r.name.length ≤ 9223372036854775807) (hW:-1099511627776 ≤ W ∧ W ≤ 1099511627776) (hH:-1099511627776 ≤ H ∧ H ≤ 1099511627776) :
  Calls Tryz.prog 47 #[.int .i64 W,.int .i64 H,.int .i64 G,.agg r.cells.toArray] w fun e w'=>e = .returned (.bool (rungB W H G r)) ∧ Mod (fun _=>False) w w':=by
 obtain ⟨nm,dn,qq,tg⟩:=r
 unfold Rg.cells
 dsimp only at hn ⊢
 have h0:=(Sat.nil (fun _=>False) w).alloc 38 #[.string (strOf nm),.int .i64 dn,.int .i64 qq,.int .i64 tg] rfl
 obtain ⟨rc,rf⟩:=(h0.own_ 0 rfl).both
 dsimp only at rc
 have H0:=Lib.hid h0
 have LN:=Lib.hid (fun w=>lName w nm hn)
 clear h0
 cases hnb:nameB nm with
 | false=>
  have HR:Hid (rungB W H G ⟨nm,dn,qq,tg⟩ = false):=by show _ = _;unfold rungB;dsimp only;rw [hnb,Bool.false_and]
  have HNB:=Lib.hid hnb
  clear hnb
  go_enter Tryz.func47,Tryz.ntmps47
  go_wp2_with fail
  refine (LN.out _).mono ?_
  rintro e w1 ⟨rfl,hm1⟩
  rw [HNB.out]
  have H1:=Lib.hid (H0.out.mod.trans hm1)
  clear hm1 rc rf
  go_wp2_with fail
  go_ret
  exact ⟨by rw [HR.out];rfl,H1.out⟩
 | true=>
  have HNB:=Lib.hid hnb
  clear hnb
  by_cases b0:dn < 0
  ·have e0:decide (dn < 0) = true:=decide_eq_true b0
   have ha:rungArgsB ⟨nm,dn,qq,tg⟩ = false:=by unfold rungArgsB;exact decide_eq_false (by dsimp only;omega)
   have HR:Hid (rungB W H G ⟨nm,dn,qq,tg⟩ = false):=by show _ = _;unfold rungB;rw [ha,Bool.false_and,Bool.and_false]
   clear ha
   go_enter Tryz.func47,Tryz.ntmps47
   go_wp2_with fail
   refine (LN.out _).mono ?_
   rintro e w1 ⟨rfl,hm1⟩
   rw [HNB.out]
   have hs1:=H0.out.quiet hm1
   clear rc rf
   obtain ⟨rc,rf⟩:=(hs1.own_ 0 rfl).both
   dsimp only at rc
   have H1:=Lib.hid hs1.mod
   clear hm1 hs1
   go_wp2_with fail
   go_ret
   exact ⟨by rw [HR.out];rfl,H1.out⟩
  have e0:decide (dn < 0) = false:=decide_eq_false b0
  by_cases b1:3 < dn
  ·have e1:decide (3 < dn) = true:=decide_eq_true b1
   have ha:rungArgsB ⟨nm,dn,qq,tg⟩ = false:=by unfold rungArgsB;exact decide_eq_false (by dsimp only;omega)
   have HR:Hid (rungB W H G ⟨nm,dn,qq,tg⟩ = false):=by show _ = _;unfold rungB;rw [ha,Bool.false_and,Bool.and_false]
   clear ha
   go_enter Tryz.func47,Tryz.ntmps47
   go_wp2_with fail
   refine (LN.out _).mono ?_
   rintro e w1 ⟨rfl,hm1⟩
   rw [HNB.out]
   have hs1:=H0.out.quiet hm1
   clear rc rf
   obtain ⟨rc,rf⟩:=(hs1.own_ 0 rfl).both
   dsimp only at rc
   have H1:=Lib.hid hs1.mod
   clear hm1 hs1
   go_wp2_with fail
   go_ret
   exact ⟨by rw [HR.out];rfl,H1.out⟩
  have e1:decide (3 < dn) = false:=decide_eq_false b1
  by_cases b2:qq < 0
  ·have e2:decide (qq < 0) = true:=decide_eq_true b2
   have ha:rungArgsB ⟨nm,dn,qq,tg⟩ = false:=by unfold rungArgsB;exact decide_eq_false (by dsimp only;omega)
   have HR:Hid (rungB W H G ⟨nm,dn,qq,tg⟩ = false):=by show _ = _;unfold rungB;rw [ha,Bool.false_and,Bool.and_false]
   clear ha
   go_enter Tryz.func47,Tryz.ntmps47
   go_wp2_with fail
   refine (LN.out _).mono ?_
   rintro e w1 ⟨rfl,hm1⟩
   rw [HNB.out]
   have hs1:=H0.out.quiet hm1
   clear rc rf
   obtain ⟨rc,rf⟩:=(hs1.own_ 0 rfl).both
   dsimp only at rc
   have H1:=Lib.hid hs1.mod
   clear hm1 hs1
   go_wp2_with fail
   go_ret
   exact ⟨by rw [HR.out];rfl,H1.out⟩
  have e2:decide (qq < 0) = false:=decide_eq_false b2
  by_cases b3:31 < qq
  ·have e3:decide (31 < qq) = true:=decide_eq_true b3
   have ha:rungArgsB ⟨nm,dn,qq,tg⟩ = false:=by unfold rungArgsB;exact decide_eq_false (by dsimp only;omega)
   have HR:Hid (rungB W H G ⟨nm,dn,qq,tg⟩ = false):=by show _ = _;unfold rungB;rw [ha,Bool.false_and,Bool.and_false]
   clear ha
   go_enter Tryz.func47,Tryz.ntmps47
   go_wp2_with fail
   refine (LN.out _).mono ?_
   rintro e w1 ⟨rfl,hm1⟩
   rw [HNB.out]
   have hs1:=H0.out.quiet hm1
   clear rc rf
   obtain ⟨rc,rf⟩:=(hs1.own_ 0 rfl).both
   dsimp only at rc
   have H1:=Lib.hid hs1.mod
   clear hm1 hs1
   go_wp2_with fail
   go_ret
   exact ⟨by rw [HR.out];rfl,H1.out⟩
  have e3:decide (31 < qq) = false:=decide_eq_false b3
  by_cases b4:tg < 0
  ·have e4:decide (tg < 0) = true:=decide_eq_true b4
   have ha:rungArgsB ⟨nm,dn,qq,tg⟩ = false:=by unfold rungArgsB;exact decide_eq_false (by dsimp only;omega)
   have HR:Hid (rungB W H G ⟨nm,dn,qq,tg⟩ = false):=by show _ = _;unfold rungB;rw [ha,Bool.false_and,Bool.and_false]
   clear ha
   go_enter Tryz.func47,Tryz.ntmps47
   go_wp2_with fail
   refine (LN.out _).mono ?_
   rintro e w1 ⟨rfl,hm1⟩
   rw [HNB.out]
   have hs1:=H0.out.quiet hm1
   clear rc rf
   obtain ⟨rc,rf⟩:=(hs1.own_ 0 rfl).both
   dsimp only at rc
   have H1:=Lib.hid hs1.mod
   clear hm1 hs1
   go_wp2_with fail
   go_ret
   exact ⟨by rw [HR.out];rfl,H1.out⟩
  have e4:decide (tg < 0) = false:=decide_eq_false b4
  by_cases b5:1048576 < tg
  ·have e5:decide (1048576 < tg) = true:=decide_eq_true b5
   have ha:rungArgsB ⟨nm,dn,qq,tg⟩ = false:=by unfold rungArgsB;exact decide_eq_false (by dsimp only;omega)
   have HR:Hid (rungB W H G ⟨nm,dn,qq,tg⟩ = false):=by show _ = _;unfold rungB;rw [ha,Bool.false_and,Bool.and_false]
   clear ha
   go_enter Tryz.func47,Tryz.ntmps47
   go_wp2_with fail
   refine (LN.out _).mono ?_
   rintro e w1 ⟨rfl,hm1⟩
   rw [HNB.out]
   have hs1:=H0.out.quiet hm1
   clear rc rf
   obtain ⟨rc,rf⟩:=(hs1.own_ 0 rfl).both
   dsimp only at rc
   have H1:=Lib.hid hs1.mod
   clear hm1 hs1
   go_wp2_with fail
   go_ret
   exact ⟨by rw [HR.out];rfl,H1.out⟩
  have e5:decide (1048576 < tg) = false:=decide_eq_false b5
  have ha:rungArgsB ⟨nm,dn,qq,tg⟩ = true:=by unfold rungArgsB;exact decide_eq_true (by dsimp only;omega)
  have hd:0 ≤ dn ∧ dn ≤ 3:=⟨by omega,by omega⟩
  obtain ⟨w2,hw2⟩:∃ x,x = halved W dn:=⟨_,rfl⟩
  obtain ⟨h2,hh2⟩:∃ x,x = halved H dn:=⟨_,rfl⟩
  have HR:Hid (rungB W H G ⟨nm,dn,qq,tg⟩ = (seqRight w2 h2 G && (decide (w2 * (2 ^ dn.toNat:Nat) = W) && decide (h2 * (2 ^ dn.toNat:Nat) = H)))):=by show _ = _;unfold rungB;rw [ha];dsimp only;rw [HNB.out,Bool.true_and,Bool.true_and,← hw2,← hh2]
  have ls:∀ w:World,Calls Tryz.prog 92 #[.int .i64 W,.int .i64 H,.int .i64 G,.int .i64 dn] w fun e w'=>e = .returned (.agg #[.int .i64 w2,.int .i64 h2,.int .i64 G]) ∧ Mod (fun _=>False) w w':=fun w=>by rw [hw2,hh2];exact lSequence w W H G dn hd hW hH
  have LS:=Lib.hid ls
  clear ls
  clear ha hw2 hh2
  go_enter Tryz.func47,Tryz.ntmps47
  go_wp2_with fail
  refine (LN.out _).mono ?_
  rintro e w1 ⟨rfl,hm1⟩
  rw [HNB.out]
  have hs1:=H0.out.quiet hm1
  clear rc rf
  obtain ⟨rc,rf⟩:=(hs1.own_ 0 rfl).both
  dsimp only at rc
  have H1:=Lib.hid hs1
  clear hm1 hs1
  go_wp2_with fail
  refine (LS.out _).mono ?_
  rintro e w3 ⟨rfl,hm3⟩
  have hs3:=(H1.out.quiet hm3).alloc (g:=w3.heap.size) 40 #[.int .i64 w2,.int .i64 h2,.int .i64 G] rfl
  clear rc rf
  go_upto_region 6 with (fail)
  obtain ⟨sb,hsb⟩:∃ b,b = w3.heap.size:=⟨_,rfl⟩
  rw [← hsb] at hs3 ⊢
  generalize w3.alloc (.cells #[.int .i64 w2,.int .i64 h2,.int .i64 G] 40) = w4 at *
  obtain ⟨sc,sf⟩:=(hs3.own_ 0 rfl).both
  obtain ⟨rc,rf⟩:=(hs3.own_ 1 rfl).both
  dsimp only at sc rc
  have H3:=Lib.hid hs3
  clear hm3 hs3 hsb
  cases hsr:seqRight w2 h2 G with
  | false=>
   go_wp2_with fail
   refine (synRight_no w4 w2 h2 G hsr).mono ?_
   rintro e w5 ⟨rfl,hm5⟩
   have H5:=Lib.hid (And.intro (H3.out.mod.trans hm5) hsr)
   clear hm5 hsr
   go_wp2_with fail
   go_ret
   exact ⟨by rw [HR.out,H5.out.2];rfl,H5.out.1⟩
  | true=>
   go_wp2_with fail
   refine (synRight_yes w4 w2 h2 G hsr).mono ?_
   rintro e w5 ⟨rfl,hm5⟩
   have hs5:=H3.out.quiet hm5
   clear sc sf rc rf
   obtain ⟨sc,sf⟩:=(hs5.own_ 0 rfl).both
   obtain ⟨rc,rf⟩:=(hs5.own_ 1 rfl).both
   dsimp only at sc rc
   have hb:=hsr
   unfold seqRight at hb
   rw [decide_eq_true_eq] at hb
   obtain ⟨⟨a1,a2,_⟩,⟨c1,c2,_⟩,_⟩:=hb
   have H5:=Lib.hid (And.intro hs5.mod hsr)
   clear hm5 hs5 hsr
   have h4:dn = 0 ∨ dn = 1 ∨ dn = 2 ∨ dn = 3:=by omega
   clear hd e0 e1 b0 b1
   rcases h4 with rfl | rfl | rfl | rfl
   ·have HR2:Hid (rungB W H G ⟨nm,0,qq,tg⟩ = (decide (w2 = W) && decide (h2 = H))):=by show _ = _;rw [HR.out,H5.out.2,Bool.true_and,show (((2 ^ (0:Int).toNat:Nat)):Int) = 1 from rfl,Int.mul_one,Int.mul_one]
    by_cases x1:w2 = W
    ·have y1:((w2) == W) = true:=by simpa using x1
     by_cases x2:h2 = H
     ·have y2:((h2) == H) = true:=by simpa using x2
      have HR3:Hid (rungB W H G ⟨nm,0,qq,tg⟩ = true):=by show _ = _;rw [HR2.out,decide_eq_true x1,decide_eq_true x2];rfl
      clear x1 x2
      go_wp2_with fail
      go_ret
      exact ⟨by rw [HR3.out];rfl,H5.out.1⟩
     ·have y2:((h2) == H) = false:=by simpa using x2
      have HR3:Hid (rungB W H G ⟨nm,0,qq,tg⟩ = false):=by show _ = _;rw [HR2.out,decide_eq_false x2,Bool.and_false]
      clear x1 x2
      go_wp2_with fail
      go_ret
      exact ⟨by rw [HR3.out];rfl,H5.out.1⟩
    ·have y1:((w2) == W) = false:=by simpa using x1
     have HR3:Hid (rungB W H G ⟨nm,0,qq,tg⟩ = false):=by show _ = _;rw [HR2.out,decide_eq_false x1,Bool.false_and]
     clear x1
     go_wp2_with fail
     go_ret
     exact ⟨by rw [HR3.out];rfl,H5.out.1⟩
   ·have HR2:Hid (rungB W H G ⟨nm,1,qq,tg⟩ = (decide (w2 * 2 = W) && decide (h2 * 2 = H))):=by show _ = _;rw [HR.out,H5.out.2,Bool.true_and,show (((2 ^ (1:Int).toNat:Nat)):Int) = 2 from rfl]
    by_cases x1:w2 * 2 = W
    ·have y1:((w2 * 2) == W) = true:=by simpa using x1
     by_cases x2:h2 * 2 = H
     ·have y2:((h2 * 2) == H) = true:=by simpa using x2
      have HR3:Hid (rungB W H G ⟨nm,1,qq,tg⟩ = true):=by show _ = _;rw [HR2.out,decide_eq_true x1,decide_eq_true x2];rfl
      clear x1 x2
      go_wp2_with fail
      go_ret
      exact ⟨by rw [HR3.out];rfl,H5.out.1⟩
     ·have y2:((h2 * 2) == H) = false:=by simpa using x2
      have HR3:Hid (rungB W H G ⟨nm,1,qq,tg⟩ = false):=by show _ = _;rw [HR2.out,decide_eq_false x2,Bool.and_false]
      clear x1 x2
      go_wp2_with fail
      go_ret
      exact ⟨by rw [HR3.out];rfl,H5.out.1⟩
    ·have y1:((w2 * 2) == W) = false:=by simpa using x1
     have HR3:Hid (rungB W H G ⟨nm,1,qq,tg⟩ = false):=by show _ = _;rw [HR2.out,decide_eq_false x1,Bool.false_and]
     clear x1
     go_wp2_with fail
     go_ret
     exact ⟨by rw [HR3.out];rfl,H5.out.1⟩
   ·have HR2:Hid (rungB W H G ⟨nm,2,qq,tg⟩ = (decide (w2 * 4 = W) && decide (h2 * 4 = H))):=by show _ = _;rw [HR.out,H5.out.2,Bool.true_and,show (((2 ^ (2:Int).toNat:Nat)):Int) = 4 from rfl]
    by_cases x1:w2 * 4 = W
    ·have y1:((w2 * 4) == W) = true:=by simpa using x1
     by_cases x2:h2 * 4 = H
     ·have y2:((h2 * 4) == H) = true:=by simpa using x2
      have HR3:Hid (rungB W H G ⟨nm,2,qq,tg⟩ = true):=by show _ = _;rw [HR2.out,decide_eq_true x1,decide_eq_true x2];rfl
      clear x1 x2
      go_wp2_with fail
      go_ret
      exact ⟨by rw [HR3.out];rfl,H5.out.1⟩
     ·have y2:((h2 * 4) == H) = false:=by simpa using x2
      have HR3:Hid (rungB W H G ⟨nm,2,qq,tg⟩ = false):=by show _ = _;rw [HR2.out,decide_eq_false x2,Bool.and_false]
      clear x1 x2
      go_wp2_with fail
      go_ret
      exact ⟨by rw [HR3.out];rfl,H5.out.1⟩
    ·have y1:((w2 * 4) == W) = false:=by simpa using x1
     have HR3:Hid (rungB W H G ⟨nm,2,qq,tg⟩ = false):=by show _ = _;rw [HR2.out,decide_eq_false x1,Bool.false_and]
     clear x1
     go_wp2_with fail
     go_ret
     exact ⟨by rw [HR3.out];rfl,H5.out.1⟩
   ·have HR2:Hid (rungB W H G ⟨nm,3,qq,tg⟩ = (decide (w2 * 8 = W) && decide (h2 * 8 = H))):=by show _ = _;rw [HR.out,H5.out.2,Bool.true_and,show (((2 ^ (3:Int).toNat:Nat)):Int) = 8 from rfl]
    by_cases x1:w2 * 8 = W
    ·have y1:((w2 * 8) == W) = true:=by simpa using x1
     by_cases x2:h2 * 8 = H
     ·have y2:((h2 * 8) == H) = true:=by simpa using x2
      have HR3:Hid (rungB W H G ⟨nm,3,qq,tg⟩ = true):=by show _ = _;rw [HR2.out,decide_eq_true x1,decide_eq_true x2];rfl
      clear x1 x2
      go_wp2_with fail
      go_ret
      exact ⟨by rw [HR3.out];rfl,H5.out.1⟩
     ·have y2:((h2 * 8) == H) = false:=by simpa using x2
      have HR3:Hid (rungB W H G ⟨nm,3,qq,tg⟩ = false):=by show _ = _;rw [HR2.out,decide_eq_false x2,Bool.and_false]
      clear x1 x2
      go_wp2_with fail
      go_ret
      exact ⟨by rw [HR3.out];rfl,H5.out.1⟩
    ·have y1:((w2 * 8) == W) = false:=by simpa using x1
     have HR3:Hid (rungB W H G ⟨nm,3,qq,tg⟩ = false):=by show _ = _;rw [HR2.out,decide_eq_false x1,Bool.false_and]
     clear x1
     go_wp2_with fail
     go_ret
     exact ⟨by rw [HR3.out];rfl,H5.out.1⟩
end Go.Proofs.YthednemlahioeaaGreatDoor

