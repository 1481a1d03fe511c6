/-
  kinoralaw15.LadderChecks, walked.
-/
import Derived.Test.YthednemlahioeaaGreatDoorP35
import Derived.Test.YthednemlahioeaaGreatDoorP36
import Derived.Test.YthednemlahioeaaGreatDoorP1
import Derived.Test.YthednemlahioeaaGreatDoorP12
import Derived.Test.YthednemlahioeaaGreatDoorP27
import Derived.Test.YthednemlahioeaaGreatDoorP29
import Derived.Test.YthednemlahioeaaGreatDoorP10
import Derived.ProofKit
import Derived.OpenShut
import Derived.Lib.SmallJoins
import Derived.Test.YthednemlahioeaaGreatDoorRows
import Derived.Laws.IdiomArrays
import Derived.Deep.Slices
import Derived.Deep.Strs
import Derived.ChangeArms
import Derived.ShutString
import Derived.ChangeOld
import Derived.JoinedCond
import Derived.Lib.LaidIn
import Derived.Lib.LaidTab
import Derived.Deep.DeepWitnessRowRef
import Derived.Deep.DeepHandedRow
import Derived.MakeChecks
import Derived.FnData
import Derived.Test.YthednemlahioeaaGreatDoorCards
import Derived.Test.YthednemlahioeaaGreatDoorTie
import Derived.SevenTiedAt
namespace Go.Proofs.YthednemlahioeaaGreatDoor
open Go.RowKit
set_option maxRecDepth 100000
set_option maxHeartbeats 8000000
theorem ladderChecks_walk (w:World) (he:EnvP w) (a b G:Int) (A:Option Addr) (n c:Nat) (rs:List Rg) (hr:RgsIn w A n c rs) (hn:n ≤ 9223372036854775807) :
  Calls Tryz.prog 3 #[.agg #[.int .i64 a,.int .i64 b],.int .i64 G,.slice A n c] w fun e w'=>e = .returned (.bool true) ∧ Mod (fun _=>False) w w':=by
 have hs:=(Sat.nil (fun _=>False) w).alloc 22 #[.int .i64 a,.int .i64 b] rfl
 have H0:=Lib.hid (And.intro hs (And.intro he hr))
 have hb:=hs.own_ 0 rfl
 dsimp only at hb
 obtain ⟨bc,bf⟩:=hb.both
 have c0:=bc 0
 have c1:=bc 1
 clear hs he hr hb
 go_enter Tryz.func3,Tryz.ntmps3
 go_wp2_with fail
 refine (lNames15 _ A n c rs (H0.out.2.2.quiet H0.out.1.mod) hn).mono ?_
 rintro e w1 ⟨rfl,t,rfl,_⟩
 have H1:=Lib.hid H0.out.1.mod
 cases t
 ·go_wp2_with fail
  refine (alive15 _ (H0.out.2.1.quiet H1.out)).mono ?_;rintro e w9 ⟨rfl,hm9⟩;have H9:=Lib.hid (H1.out.trans hm9);clear hm9;go_wp2_with fail;go_ret;exact ⟨rfl,H9.out⟩
 by_cases a1:1099511627776 < a
 ·have d1:decide (1099511627776 < a) = true:=decide_eq_true a1
  go_wp2_with fail
  refine (alive15 _ (H0.out.2.1.quiet H1.out)).mono ?_;rintro e w9 ⟨rfl,hm9⟩;have H9:=Lib.hid (H1.out.trans hm9);clear hm9;go_wp2_with fail;go_ret;exact ⟨rfl,H9.out⟩
 have d1:decide (1099511627776 < a) = false:=decide_eq_false a1
 by_cases a2:a < -1099511627776
 ·have d2:decide (a < -1099511627776) = true:=decide_eq_true a2
  go_wp2_with fail
  refine (alive15 _ (H0.out.2.1.quiet H1.out)).mono ?_;rintro e w9 ⟨rfl,hm9⟩;have H9:=Lib.hid (H1.out.trans hm9);clear hm9;go_wp2_with fail;go_ret;exact ⟨rfl,H9.out⟩
 have d2:decide (a < -1099511627776) = false:=decide_eq_false a2
 by_cases a3:1099511627776 < b
 ·have d3:decide (1099511627776 < b) = true:=decide_eq_true a3
  go_wp2_with fail
  refine (alive15 _ (H0.out.2.1.quiet H1.out)).mono ?_;rintro e w9 ⟨rfl,hm9⟩;have H9:=Lib.hid (H1.out.trans hm9);clear hm9;go_wp2_with fail;go_ret;exact ⟨rfl,H9.out⟩
 have d3:decide (1099511627776 < b) = false:=decide_eq_false a3
 by_cases a4:b < -1099511627776
 ·have d4:decide (b < -1099511627776) = true:=decide_eq_true a4
  go_wp2_with fail
  refine (alive15 _ (H0.out.2.1.quiet H1.out)).mono ?_;rintro e w9 ⟨rfl,hm9⟩;have H9:=Lib.hid (H1.out.trans hm9);clear hm9;go_wp2_with fail;go_ret;exact ⟨rfl,H9.out⟩
 have d4:decide (b < -1099511627776) = false:=decide_eq_false a4
 go_upto_region 4 with (fail)
 obtain ⟨E,hE⟩:∃ E,E = ladderE a b G rs:=⟨_,rfl⟩
 have hL:∀ w',Mod (fun _=>False) w w' → Calls Tryz.prog 13 #[.int .i64 a,.int .i64 b,.int .i64 G,.slice A n c] w' fun e w''=>e = .returned (.int .i64 E) ∧ Mod (fun _=>False) w' w'':=fun w' hm=>by
  rw [hE];exact lCheck w' a b G A n c rs (H0.out.2.2.quiet hm) hn ⟨by omega,by omega⟩ ⟨by omega,by omega⟩
 have hR:∀ w',Mod (fun _=>False) w w' → Calls Tryz.prog 14 #[.int .i64 a,.int .i64 b,.int .i64 G,.slice A n c] w' fun e w''=>e = .returned (.int .i64 E) ∧ Mod (fun _=>False) w' w'':=fun w' hm=>by
  rw [hE];exact rCheck w' a b G A n c rs (H0.out.2.2.quiet hm) hn ⟨by omega,by omega⟩ ⟨by omega,by omega⟩
 have HL:=Lib.hid (And.intro hL hR)
 obtain ⟨bb,hbb⟩:∃ x,x = w.heap.size:=⟨_,rfl⟩
 have hq:=H0.out.1.own_ 0 rfl
 dsimp only at hq
 rw [← hbb] at hq ⊢
 have HM:=Lib.hid H0.out.1.mod
 have HQ:=Lib.hid hq
 clear hE hL hR hq hbb bc bf c0 c1 a1 a2 a3 a4 d1 d2 d3 d4 H1
 generalize w.alloc (.cells #[.int .i64 a,.int .i64 b] 22) = w1 at HQ HM ⊢
 refine wp_region_planF [0,8,15] [9,10,11,12,13,14] (PTree.after [0,1,2,3,4,5,6,7,9,10,11,12,13,14,8,15,16,17,18] .nil) (fun w'=>Blk w' bb 22 #[.int .i64 a,.int .i64 b]) (by kernel_rfl) (by kernel_rfl) (fun _ _ _ d _ h=>by cases d <;> exact h) (HQ.out.drew) ?_
 refine planF_loud rfl rfl (fun K hK=>?_)
 go_simp
 refine (alive15 _ (H0.out.2.1.quiet HM.out.drew)).mono ?_
 rintro e w2 ⟨rfl,hm2⟩
 have HM2:=Lib.hid (HM.out.drew.trans hm2)
 have HQ2:=Lib.hid (HQ.out.drew.keep hm2 (fun h=>h))
 clear hm2
 dsimp only []
 refine hK _ _ HQ2.out ?_
 clear hK K
 have c0:=HQ2.out.cell 0
 have c1:=HQ2.out.cell 1
 iterate 7 (refine planF_still rfl rfl (fun K hK=>?_);go_simp;refine hK _ ?_;clear hK K)
 refine planF_read (v:=.pointer (some ⟨bb,0,none⟩)) rfl rfl rfl (fun w' _=>by go_simp) (fun K hK=>?_);go_simp;refine hK _ ?_;clear hK K
 refine planF_one rfl rfl _ _ rfl rfl bb 0 rfl (.int .i64 a) _ (fun w' hS=>Blk.cell hS 0) Tryz.underlying3 rfl (fun K hK=>?_);go_simp;refine hK _ ?_;clear hK K
 refine planF_read (v:=.pointer (some ⟨bb,1,none⟩)) rfl rfl rfl (fun w' _=>by go_simp) (fun K hK=>?_);go_simp;refine hK _ ?_;clear hK K
 refine planF_one rfl rfl _ _ rfl rfl bb 1 rfl (.int .i64 b) _ (fun w' hS=>Blk.cell hS 1) Tryz.underlying3 rfl (fun K hK=>?_);go_simp;refine hK _ ?_;clear hK K
 refine planF_read (v:=.int .i64 G) rfl rfl rfl (fun _ _=>rfl) (fun K hK=>?_);go_simp;refine hK _ ?_;clear hK K
 refine planF_read (v:=.slice A n c) rfl rfl rfl (fun _ _=>rfl) (fun K hK=>?_);go_simp;refine hK _ ?_;clear hK K
 refine planF_loud rfl rfl (fun K hK=>?_)
 go_simp
 refine (HL.out.1 _ HM2.out).mono ?_
 rintro e w3 ⟨rfl,hm3⟩
 have HM3:=Lib.hid (HM2.out.trans hm3)
 have HQ3:=Lib.hid (HQ2.out.keep hm3 (fun h=>h))
 clear hm3 c0 c1
 dsimp only []
 refine hK _ _ HQ3.out ?_
 clear hK K
 refine planF_loud rfl rfl (fun K hK=>?_)
 go_simp
 refine (HL.out.2 _ HM3.out).mono ?_
 rintro e w4 ⟨rfl,hm4⟩
 have HM4:=Lib.hid (HM3.out.trans hm4)
 have HQ4:=Lib.hid (HQ3.out.keep hm4 (fun h=>h))
 clear hm4
 dsimp only []
 refine hK _ _ HQ4.out ?_
 clear hK K
 iterate 3 (refine planF_still rfl rfl (fun K hK=>?_);go_simp;refine hK _ ?_;clear hK K)
 refine planF_done ?_
 go_wp2_with fail
 go_ret
 exact ⟨rfl,HM4.out⟩
end Go.Proofs.YthednemlahioeaaGreatDoor
namespace Go.Proofs.YthednemlahioeaaGreatDoor
open Go.RowKit Go.ChangeShapes Go.WideShapes Go.ChangeAt Go.Joins Go.Deep
set_option maxRecDepth 100000
set_option maxHeartbeats 8000000
section
variable {H : Type} {enc : TypeId × Value → H} {w : World} {base : Nat} {held : Bool}
theorem cellsIN:Tryz.prog.cellsOf 3 = 1:=by kernel_rfl
theorem int_form {fuel:Nat} {v:Value} {x:DataW H × List MemPlace} (h:DataW.trod enc Tryz.prog w base (fun _=>true) held fuel 3 [v] = some x):∃ n,v = .int .i64 n ∧ -9223372036854775808 ≤ n ∧ n ≤ 9223372036854775807:=by
 obtain ⟨n,e,_,hw⟩:=DataW.trod_int Tryz.underlying3 h
 injection e with e
 exact ⟨n,e,bounds_i64 hw⟩
theorem cellsA2:Tryz.prog.cellsOf 22 = 2:=by kernel_rfl
theorem open_pair {r:Reach} {b0:Nat} {v:Value} {d:DataW H} {p:List MemPlace} (hv:Value.okWide Tryz.prog w r b0 22 v) (h:DataW.Trod enc Tryz.prog w base (fun _=>true) held 22 v d p) :
  ∃ a b:Int,v = .agg #[.int .i64 a,.int .i64 b] ∧ (-9223372036854775808 ≤ a ∧ a ≤ 9223372036854775807) ∧ (-9223372036854775808 ≤ b ∧ b ≤ 9223372036854775807):=by
 obtain ⟨cs,rfl⟩:∃ cs,v = .agg cs:=by
  simp only [Value.okWide,Tryz.underlying22] at hv
  obtain ⟨cs,h1,_⟩:=hv
  exact ⟨cs,h1⟩
 obtain ⟨fuel,hf⟩:=h
 have hf':DataW.trod enc Tryz.prog w base (fun _=>true) held fuel 22 cs.toList = some (d,p):=hf
 obtain ⟨xs,m,rfl,hx,hl,hxl,hall⟩:=DataW.trod_array Tryz.underlying22 hf'
 rw [cellsA2] at hl
 rw [cellsIN] at hall
 obtain ⟨l,hcl⟩:∃ l,l = cs.toList:=⟨_,rfl⟩
 rw [← hcl] at hl hall
 match l,hl with
 | [c0,c1],_=>
  have g0:=hall 0 (by omega)
  have g1:=hall 1 (by omega)
  rw [List.getElem?_eq_getElem (by omega)] at g0 g1
  obtain ⟨n0,e0,b0⟩:=int_form (v:=c0) g0
  obtain ⟨n1,e1,b1⟩:=int_form (v:=c1) g1
  refine ⟨n0,n1,?_,b0,b1⟩
  rw [← e0,← e1]
  exact congrArg Value.agg (Array.toArray_toList.symm.trans (congrArg List.toArray hcl.symm))
end
section
variable {H : Type} {enc : TypeId × Value → H} {w : World} {base : Nat} {held : Bool}
theorem rcellsS:Tryz.prog.cellsOf 9 = 1:=by kernel_rfl
theorem rcellsRG:Tryz.prog.cellsOf 38 = 4:=by kernel_rfl
theorem rstr_back (s:ByteArray):s = strOf s.data.toList:=by cases s;simp [strOf]
theorem rstr_at {fuel:Nat} {v:Value} {x:DataW H × List MemPlace} (h:DataW.trod enc Tryz.prog w base (fun _=>true) held fuel 9 [v] = some x):∃ s:List UInt8,v = .string (strOf s) ∧ s.length ≤ 9223372036854775807:=by
 obtain ⟨s,e,_,hw⟩:=DataW.trod_string Tryz.underlying9 h
 injection e with e
 refine ⟨s.data.toList,?_,?_⟩
 ·rw [e];exact congrArg Value.string (rstr_back s)
 ·have hz:s.data.toList.length = s.size:=Array.length_toList
  unfold maxLen at hw
  omega
theorem rg_form {fuel:Nat} {cs:List Value} {x:DataW H × List MemPlace} (h:DataW.trod enc Tryz.prog w base (fun _=>true) held fuel 38 cs = some x):∃ r:Rg,r.name.length ≤ 9223372036854775807 ∧ cs = r.cells:=by
 obtain ⟨xs,n,_,_,hl,hxl,hf⟩:=DataW.trod_struct Tryz.underlying38 h
 rw [rcellsRG] at hl
 have g0:DataW.trod enc Tryz.prog w base (fun _=>true) held n 9 ((cs.drop 0).take (Tryz.prog.cellsOf 9)) = xs[0]?:=hf 0 _ rfl
 have g1:DataW.trod enc Tryz.prog w base (fun _=>true) held n 3 ((cs.drop 1).take (Tryz.prog.cellsOf 3)) = xs[1]?:=hf 1 _ rfl
 have g2:DataW.trod enc Tryz.prog w base (fun _=>true) held n 3 ((cs.drop 2).take (Tryz.prog.cellsOf 3)) = xs[2]?:=hf 2 _ rfl
 have g3:DataW.trod enc Tryz.prog w base (fun _=>true) held n 3 ((cs.drop 3).take (Tryz.prog.cellsOf 3)) = xs[3]?:=hf 3 _ rfl
 clear hf
 rw [cellsIN] at g1 g2 g3
 rw [rcellsS] at g0
 have hne:∀ i,i < 4 → ∃ x,xs[i]? = some x:=fun i hi=>⟨_,List.getElem?_eq_getElem (by have:xs.length = 4:=hxl;omega)⟩
 obtain ⟨y0,e0⟩:=hne 0 (by omega)
 obtain ⟨y1,e1⟩:=hne 1 (by omega)
 obtain ⟨y2,e2⟩:=hne 2 (by omega)
 obtain ⟨y3,e3⟩:=hne 3 (by omega)
 rw [e0] at g0
 rw [e1] at g1
 rw [e2] at g2
 rw [e3] at g3
 clear hne e0 e1 e2 e3
 match cs,hl with
 | [a0,a1,a2,a3],_=>
  obtain ⟨s,rfl,hs⟩:=rstr_at g0
  obtain ⟨x1,rfl,_⟩:=int_form (v:=a1) g1
  obtain ⟨x2,rfl,_⟩:=int_form (v:=a2) g2
  obtain ⟨x3,rfl,_⟩:=int_form (v:=a3) g3
  exact ⟨⟨s,x1,x2,x3⟩,hs,rfl⟩
theorem rg_choose (n:Nat) (P:Nat → Rg → Prop) (h:∀ i,i < n → ∃ l,P i l):∃ ls:List Rg,ls.length = n ∧ ∀ i,i < n → P i (ls.getD i Rg.zero):=by
 induction n with
 | zero=>exact ⟨[],rfl,fun i h=>absurd h (by omega)⟩
 | succ n ih=>
  obtain ⟨ls,h1,h2⟩:=ih (fun i hi=>h i (by omega))
  obtain ⟨l,hl⟩:=h n (by omega)
  refine ⟨ls ++ [l],by simp [h1],fun i hi=>?_⟩
  rw [List.getD_eq_getElem?_getD]
  by_cases e:i = n
  ·subst e
   rw [List.getElem?_append_right (by omega),h1,Nat.sub_self]
   exact hl
  ·rw [List.getElem?_append_left (by omega),← List.getD_eq_getElem?_getD]
   exact h2 i (by omega)
theorem rgs_form {fuel:Nat} {v:Value} {x:DataW H × List MemPlace} (h:DataW.trod enc Tryz.prog w base (fun _=>true) held fuel 23 [v] = some x):∃ A n c rs,v = .slice A n c ∧ n ≤ 9223372036854775807 ∧ RgsIn w A n c rs:=by
 rcases open_slice Tryz.underlying23 h with ⟨hcs,_⟩ | ⟨a,len,cap,m,n,D,Pl,hcs,_,hl,hm,hmm,_,hall⟩
 ·injection hcs with hcs
  exact ⟨none,0,0,[],hcs,by omega,rfl,Nat.le_refl _,fun i=>by simp [Rg.zero],fun i hi=>absurd hi (by omega)⟩
 ·injection hcs with hcs
  rw [if_pos rfl] at hmm
  subst hmm
  have each:∀ i,i < len → ∃ r:Rg,r.name.length ≤ 9223372036854775807 ∧ ∃ b o,some a = some ⟨b,o,none⟩ ∧ b < w.heap.size ∧ (∀ (j:Nat) (v:Value),r.cells[j]? = some v → w.cell? ⟨b,o + i * 4 + j,none⟩ = some v):=by
   intro i hi
   obtain ⟨cs',hc,ht⟩:=hall i (by omega)
   rw [rcellsRG] at hc
   obtain ⟨_,hcl,hat⟩:=World.cells?_some hc
   obtain ⟨r,hr,rfl⟩:=rg_form ht
   obtain ⟨b,off,spot⟩:=a
   have hspot:spot = none:=by
    obtain ⟨cs0,hc0,ht0⟩:=hall 0 (by omega)
    obtain ⟨_,hcl0,hat0⟩:=World.cells?_some hc0
    have z0:=hat0 0 (by have:=rcellsRG;omega)
    rw [Nat.zero_mul] at z0
    obtain ⟨v0,hv0⟩:∃ v,cs0[0]? = some v:=⟨_,List.getElem?_eq_getElem (by have:=rcellsRG;omega)⟩
    rw [hv0] at z0
    exact World.cell?_spot z0
   subst hspot
   have hk:∀ (j:Nat) (v:Value),r.cells[j]? = some v → w.cell? ⟨b,off + i * 4 + j,none⟩ = some v:=by
    intro j v hv
    have hj:j < 4:=(List.getElem?_eq_some_iff.1 hv).1
    have k:=hat j (by omega)
    rw [addr_add',addr_add'] at k
    rw [k]
    exact hv
   have k0:=hk 0 _ rfl
   exact ⟨r,hr,b,off,rfl,World.block_lt_of_cell? w _ k0,hk⟩
  obtain ⟨ls,e1,e2⟩:=rg_choose len (fun i r=>r.name.length ≤ 9223372036854775807 ∧ ∃ b o,some a = some ⟨b,o,none⟩ ∧ b < w.heap.size ∧ (∀ (j:Nat) (v:Value),r.cells[j]? = some v → w.cell? ⟨b,o + i * 4 + j,none⟩ = some v)) each
  refine ⟨some a,len,_,ls,hcs,by unfold maxLen at hm;omega,e1,hl,fun i=>?_,fun i hi=>(e2 i hi).2⟩
  by_cases hi:i < len
  ·exact (e2 i hi).1
  ·rw [List.getD_eq_getElem?_getD,List.getElem?_eq_none (by omega)]
   exact Nat.zero_le _
theorem open_rgs {r:Reach} {b0:Nat} {v:Value} {d:DataW H} {p:List MemPlace} (hv:Value.okWide Tryz.prog w r b0 23 v) (h:DataW.Trod enc Tryz.prog w base (fun _=>true) held 23 v d p):∃ A n c rs,v = .slice A n c ∧ n ≤ 9223372036854775807 ∧ RgsIn w A n c rs:=by
 obtain ⟨a0,len0,cap0,rfl⟩:=okWide_slice Tryz.underlying23 hv
 obtain ⟨fuel,hf⟩:=h
 have hf':DataW.trod enc Tryz.prog w base (fun _=>true) held fuel 23 [.slice a0 len0 cap0] = some (d,p):=by simpa [Value.cells] using hf
 exact rgs_form hf'
end
end Go.Proofs.YthednemlahioeaaGreatDoor

namespace Go.Proofs.YthednemlahioeaaGreatDoor
open Go Go.RowKit Go.ChangeShapes Go.WideShapes Go.ChangeAt Go.Joins Go.Deep
set_option maxRecDepth 100000
set_option maxHeartbeats 8000000
def laidAll : List (String × DataW Unit) := [("kinora/encoder.places", Rows.laid_kinora_encoder_places)]
theorem laid_plain {W:World} (h:laidMetH Tryz.prog laidAll W):laidMet Tryz.prog laidAll W:=by
 rw [Go.MakeChecks.laidMetH_plain Tryz.prog laidAll W (by kernel_rfl)] at h
 exact h
section
variable {H : Type} {enc : TypeId × Value → H} {w : World} {base : Nat} {sp : Nat → Bool} {held : Bool}
theorem cellsPLC:Tryz.prog.cellsOf 343 = 3:=by kernel_rfl
theorem cellsINT1:Tryz.prog.cellsOf 3 = 1:=by kernel_rfl
theorem int_lit {fuel:Nat} {v:Value} {x:DataW H × List MemPlace} (h:DataW.trod enc Tryz.prog w base sp held fuel 3 [v] = some x):∃ n,v = .int .i64 n ∧ x = (.lit (.int .i64 n),[]):=by
 obtain ⟨n,e,e2,_⟩:=DataW.trod_int Tryz.underlying3 h
 injection e with e
 exact ⟨n,e,e2⟩
theorem place_lit {fuel:Nat} {L:List Value} {a b c:Int} {ps:List MemPlace} (h:DataW.trod enc Tryz.prog w base sp held fuel 343 L = some (.agg [.lit (.int .i64 a),.lit (.int .i64 b),.lit (.int .i64 c)],ps)):L = [.int .i64 a,.int .i64 b,.int .i64 c]:=by
 obtain ⟨y0,y1,y2,n,hx,hl,h0,h1,h2⟩:=trod_struct3 Tryz.underlying343 h
 rw [cellsPLC] at hl
 rw [cellsINT1] at h0 h1 h2
 match L,hl with
 | [v0,v1,v2],_=>
  obtain ⟨n0,rfl,rfl⟩:=int_lit h0
  obtain ⟨n1,rfl,rfl⟩:=int_lit h1
  obtain ⟨n2,rfl,rfl⟩:=int_lit h2
  simp only [Prod.mk.injEq,DataW.agg.injEq,List.cons.injEq,DataW.lit.injEq,Lit.int.injEq,true_and,and_true] at hx
  obtain ⟨⟨rfl,rfl,rfl⟩,_⟩:=hx
  rfl
theorem places_cells {fuel:Nat} {cs:List Value} {p:List MemPlace} (h:DataW.trod enc Tryz.prog w base sp held fuel 344 cs = some (Rows.laid_kinora_encoder_places,p)):∀ i,i < 18 → cs[i]? = placesV[i]?:=by
 obtain ⟨xs,m,rfl,hx,hl,hxl,hall⟩:=DataW.trod_array Tryz.underlying344 h
 rw [cellsPLC] at hall
 have hm:(Rows.laid_kinora_encoder_places:DataW H) = .agg (xs.map (·.1)):=congrArg Prod.fst hx
 unfold Rows.laid_kinora_encoder_places at hm
 injection hm with hm
 have key:∀ k a b c,k < 6 → (xs.map (·.1))[k]? = some (.agg [.lit (.int .i64 a),.lit (.int .i64 b),.lit (.int .i64 c)]) → ∀ j,j < 3 → cs[k * 3 + j]? = [Value.int .i64 a,.int .i64 b,.int .i64 c][j]?:=by
  intro k a b c hk he j hj
  rw [List.getElem?_map,Option.map_eq_some_iff] at he
  obtain ⟨y,hy,hy1⟩:=he
  have h1:=hall k hk
  rw [hy] at h1
  obtain ⟨y1,y2⟩:=y
  dsimp only at hy1
  subst hy1
  rw [← place_lit h1,List.getElem?_take_of_lt hj,List.getElem?_drop]
 intro i hi
 have e0:=key 0 0 0 0 (by omega) (by rw [← hm];rfl)
 have e1:=key 1 0 8 0 (by omega) (by rw [← hm];rfl)
 have e2:=key 2 0 0 8 (by omega) (by rw [← hm];rfl)
 have e3:=key 3 0 8 8 (by omega) (by rw [← hm];rfl)
 have e4:=key 4 1 0 0 (by omega) (by rw [← hm];rfl)
 have e5:=key 5 2 0 0 (by omega) (by rw [← hm];rfl)
 clear key hm hall hx
 match i,hi with
 | 0,_=>exact e0 0 (by omega)
 | 1,_=>exact e0 1 (by omega)
 | 2,_=>exact e0 2 (by omega)
 | 3,_=>exact e1 0 (by omega)
 | 4,_=>exact e1 1 (by omega)
 | 5,_=>exact e1 2 (by omega)
 | 6,_=>exact e2 0 (by omega)
 | 7,_=>exact e2 1 (by omega)
 | 8,_=>exact e2 2 (by omega)
 | 9,_=>exact e3 0 (by omega)
 | 10,_=>exact e3 1 (by omega)
 | 11,_=>exact e3 2 (by omega)
 | 12,_=>exact e4 0 (by omega)
 | 13,_=>exact e4 1 (by omega)
 | 14,_=>exact e4 2 (by omega)
 | 15,_=>exact e5 0 (by omega)
 | 16,_=>exact e5 1 (by omega)
 | 17,_=>exact e5 2 (by omega)
 | n + 18,h=>exact absurd h (by omega)
end
theorem env_of_laid {W:World} (h:laidMet Tryz.prog laidAll W):EnvP W:=by
 obtain ⟨ps,⟨g',t',cs,fuel,p,q,hg',ht',hvar,hd,_,_⟩,_⟩:=h
 have hg : Tryz.prog.globalNamed "kinora/encoder.places" = some 5 := by kernel_rfl
 obtain rfl:=Option.some.inj (hg.symm.trans hg')
 have hty:(Tryz.prog.globals[5]?).map (·.type) = some 344:=by kernel_rfl
 obtain rfl:=Option.some.inj (hty.symm.trans ht')
 have hcs:=places_cells hd
 have hc:∀ i,i < 18 → W.cell? ⟨5,i,none⟩ = placesV[i]?:=fun i hi=>by
  rw [World.var?_cell hg hvar i,← hcs i hi,Array.getElem?_toList]
 exact ⟨hc,World.block_lt_of_cell? W _ (hc 0 (by omega))⟩
/-! ### One start that fits -/
noncomputable def laidWorld (os:Os):World:=
 let w0:=World.holding Tryz.prog os ⟨#[],#[],[]⟩
 let put (h:Array Obj) (g:Nat) (cs:Array Value):Array Obj:=h.modify g fun
  | .cells _ t frozen=>.cells cs t frozen
  | o=>o
 { w0 with heap:=put w0.heap 5 placesV }
theorem laid_met (os:Os) (args:Array Value):laidMet Tryz.prog laidAll ((laidWorld os).forCall (fun _ _=>0) ⟨#[],args,[]⟩).memory:=
 LaidIn.met (LaidIn.of_run [5] 8 (by kernel_rfl) (by kernel_rfl) (by kernel_rfl) (by kernel_rfl))
end Go.Proofs.YthednemlahioeaaGreatDoor
namespace Go.Proofs.YthednemlahioeaaGreatDoor.ladderChecks
open Go.ChangeShapes Go.WideShapes Go.ChangeAt Go.RowKit
set_option maxRecDepth 100000
set_option maxHeartbeats 8000000
theorem c_wf:Rows.ladderChecksRow.wf (OpenSpec.ofChange (OpenSpec.ofChange Rows.ladderChecksSpec).bare) = true:=by kernel_rfl
theorem c_laid:laidOutB Tryz.prog = true:=by kernel_rfl
theorem c_rowed:mapsRowed Tryz.prog = true:=by kernel_rfl
theorem c_place:Tryz.prog.inPlace 3 = Rows.ladderChecksRow.inPlace:=by kernel_rfl
theorem c_unf:Tryz.prog.unfollowed 3 = Rows.ladderChecksRow.unfollowed:=by kernel_rfl
theorem c_rec:Tryz.prog.recurses 3 = Rows.ladderChecksRow.recurses:=by kernel_rfl
theorem c_named:Tryz.prog.varsNamed 3 = Rows.ladderChecksRow.named:=by kernel_rfl
theorem c_enter:Tryz.prog.mayEnter = true:=by kernel_rfl
theorem c_lift:Tryz.prog.liftsFinal = Rows.ladderChecksRow.lifted:=by kernel_rfl
theorem c_heard:Tryz.prog.stopsHeard = true:=by kernel_rfl
theorem joined:joinedFacts Tryz.prog 3 Tryz.f3 (OpenSpec.ofChange Rows.ladderChecksSpec).bare Rows.ladderChecksRow = true:=by
 unfold joinedFacts
 rw [c_wf,c_laid,c_rowed,c_place,c_unf,c_rec,c_named,c_enter,c_lift,c_heard]
 kernel_rfl
theorem f_wf:Rows.ladderChecksRow.wfByText (OpenSpec.ofChange Rows.ladderChecksSpec) = true:=by kernel_rfl
theorem f_main : Tryz.pinned.checked.prog.mainIs = some (true, ("0901637a7163c00ab74897054a05ebfc26105b53c584f0ed4435d1a232147e76" : String).toList) := by kernel_rfl
theorem f_looks:true = Tryz.pinned.checked.prog.looks []:=by kernel_rfl
theorem f_goes:false = Rows.ladderChecksRow.goesBy Tryz.pinned.checked.prog:=by kernel_rfl
theorem f_named : Tryz.prog.funcNamed "kinora/kinoralaw15.LadderChecks" = some 3 := by kernel_rfl
end Go.Proofs.YthednemlahioeaaGreatDoor.ladderChecks

