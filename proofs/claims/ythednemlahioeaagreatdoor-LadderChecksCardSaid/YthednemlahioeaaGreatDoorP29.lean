/-
  ladder.Check.
-/
import Derived.Test.YthednemlahioeaaGreatDoorP28
import Derived.Test.YthednemlahioeaaGreatDoorP27
import Derived.Test.YthednemlahioeaaGreatDoorP25
import Derived.Test.YthednemlahioeaaGreatDoorP11
namespace Go.Proofs.YthednemlahioeaaGreatDoor
open Go.RowKit
set_option maxRecDepth 100000
set_option maxHeartbeats 8000000
structure RgsIn (w:World) (A:Option Addr) (n c:Nat) (rs:List Rg):Prop where
 len:rs.length = n
 cap:n ≤ c
 nm:∀ i,(rs.getD i Rg.zero).name.length ≤ 9223372036854775807
 at_:∀ i,i < n → ∃ b o,A = some ⟨b,o,none⟩ ∧ b < w.heap.size ∧ ∀ (j:Nat) (v:Value),(rs.getD i Rg.zero).cells[j]? = some v → w.cell? ⟨b,o + i * 4 + j,none⟩ = some v
theorem RgsIn.quiet {w w':World} {A:Option Addr} {n c:Nat} {rs:List Rg} (h:RgsIn w A n c rs) (hm:Mod (fun _=>False) w w'):RgsIn w' A n c rs:=
 ⟨h.len,h.cap,h.nm,fun i hi=>by
  obtain ⟨b,o,h1,h2,h3⟩:=h.at_ i hi
  exact ⟨b,o,h1,Nat.lt_of_lt_of_le h2 hm.size,fun j v hv=>(World.cell?_of_block (hm.block b h2 (fun h=>h))).trans (h3 j v hv)⟩⟩
theorem strOf_beq (a b:List UInt8):((strOf a).toList == (strOf b).toList) = decide (a = b):=by
 rw [strOf_toList,strOf_toList,Bool.eq_iff_iff,beq_iff_eq,decide_eq_true_eq]
def LckRel (w:World) (W H G:Int) (rs:List Rg) (n:Nat) (v:Value) (wr:World):Prop:=∃ i:Nat,i ≤ n ∧ v = .int .i64 (i:Int) ∧ rungsB W H G rs i = true ∧ Mod (fun _=>False) w wr
def LckRel2 (w:World) (rb:Nat) (rs:List Rg) (i:Nat) (v:Value) (wr:World):Prop:=∃ k:Nat,k ≤ i ∧ v = .int .i64 (k:Int) ∧ ((List.range k).all fun k=>decide ((rs.getD k Rg.zero).name ≠ (rs.getD i Rg.zero).name)) = true ∧ Blk wr rb 38 (rs.getD i Rg.zero).cells.toArray ∧ Mod (fun _=>False) w wr
def ladderE (W H G:Int) (rs:List Rg):Int:=if ladderB W H G rs then 0 else 151
theorem ladderE_no {W H G:Int} {rs:List Rg} {i:Nat} (hi:i ≤ rs.length) (h:rungsB W H G rs i = false):ladderE W H G rs = 151:=by
 have h2:ladderB W H G rs = false:=by unfold ladderB;rw [rungsB_no hi h,Bool.and_false]
 unfold ladderE
 rw [h2]
 rfl
theorem ladderE_len {W H G:Int} {rs:List Rg} (h:¬ (1 ≤ rs.length ∧ rs.length ≤ 8)):ladderE W H G rs = 151:=by
 have h2:ladderB W H G rs = false:=by unfold ladderB;rw [decide_eq_false h,Bool.false_and]
 unfold ladderE
 rw [h2]
 rfl
theorem ladderE_yes {W H G:Int} {rs:List Rg} (h:ladderB W H G rs = true):ladderE W H G rs = 0:=by
 unfold ladderE
 rw [h]
 rfl
theorem lCheck (w:World) (W H G:Int) (A:Option Addr) (n c:Nat) (rs:List Rg) (h:RgsIn w A n c rs) (hn:n ≤ 9223372036854775807) (hW:-1099511627776 ≤ W ∧ W ≤ 1099511627776) (hH:-1099511627776 ≤ H ∧ H ≤ 1099511627776) :
  Calls Tryz.prog 13 #[.int .i64 W,.int .i64 H,.int .i64 G,.slice A n c] w fun e w'=>e = .returned (.int .i64 (ladderE W H G rs)) ∧ Mod (fun _=>False) w w':=by
 have hlen:=h.len
 have hcap:=h.cap
 have HH:=Lib.hid h
 clear h
 by_cases h1:n < 1
 ·have d1:decide ((n:Int) < 1) = true:=decide_eq_true (by omega)
  have HN:=Lib.hid (ladderE_len (W:=W) (H:=H) (G:=G) (rs:=rs) (by omega))
  go_enter Tryz.func13,Tryz.ntmps13
  go_wp2_with fail
  go_ret
  exact ⟨by rw [HN.out];rfl,Mod.refl _ _⟩
 have d1:decide ((n:Int) < 1) = false:=decide_eq_false (by omega)
 by_cases h2:8 < n
 ·have d2:decide (8 < (n:Int)) = true:=decide_eq_true (by omega)
  have HN:=Lib.hid (ladderE_len (W:=W) (H:=H) (G:=G) (rs:=rs) (by omega))
  go_enter Tryz.func13,Tryz.ntmps13
  go_wp2_with fail
  go_ret
  exact ⟨by rw [HN.out];rfl,Mod.refl _ _⟩
 have d2:decide (8 < (n:Int)) = false:=decide_eq_false (by omega)
 have HLE:=Lib.hid hlen
 clear hlen
 go_enter Tryz.func13,Tryz.ntmps13
 go_wp2_with fail
 go_loopw [23] (LckRel w W H G rs n) (fun i _=>n - (intOf i).toNat)
 case atStart=>exact ⟨0,by omega,rfl,rfl,Mod.refl _ _⟩
 case round=>
  obtain ⟨i,hi,rfl,hok,hM⟩:=hrel
  rename World=>wr
  by_cases hlt:i < n
  ·have d3:decide ((i:Int) < (n:Int)) = true:=decide_eq_true (by omega)
   obtain ⟨b,o,rfl,hb,hcells⟩:=(HH.out.quiet hM).at_ i hlt
   obtain ⟨r,hr⟩:∃ r,r = rs.getD i Rg.zero:=⟨_,rfl⟩
   rw [← hr] at hcells
   have k0:wr.cell? ⟨b,o + i * 4,none⟩ = some (.string (strOf r.name)):=hcells 0 _ rfl
   have k1:=hcells 1 _ rfl
   have k2:=hcells 2 _ rfl
   have k3:=hcells 3 _ rfl
   have RC:=lRightRung (wr.alloc (.cells r.cells.toArray 38)) W H G r (by rw [hr];exact HH.out.nm i) hW hH
   unfold Rg.cells at RC
   have hb0:=Blk.new wr 38 r.cells.toArray
   have HK:=Lib.hid (And.intro hok (And.intro hM (And.intro hr (And.intro RC hb0))))
   clear hok hM hr RC hb0 hcells hb
   go_wp2_with fail
   refine HK.out.2.2.2.1.mono ?_
   rintro e w1 ⟨rfl,hm1⟩
   cases hrg:rungB W H G r with
   | false=>
    have H1:=Lib.hid (And.intro ((HK.out.2.1.alloc (.cells r.cells.toArray 38)).trans hm1) (ladderE_no (W:=W) (H:=H) (G:=G) (rs:=rs) (i:=i + 1) (by rw [HLE.out];omega) (by rw [rungsB_succ,← HK.out.2.2.1,hrg,Bool.false_and,Bool.and_false])))
    clear hrg hm1 k0 k1 k2 k3
    go_wp2_with fail
    go_ret
    exact ⟨by rw [H1.out.2];rfl,H1.out.1⟩
   | true=>
    obtain ⟨rb,hrb⟩:∃ b,b = wr.heap.size:=⟨_,rfl⟩
    have hb1:=HK.out.2.2.2.2.keep hm1 (fun h=>h)
    rw [← hrb] at hb1 ⊢
    have hM1:=(HK.out.2.1.alloc (.cells r.cells.toArray 38)).trans hm1
    have HR:=Lib.hid (And.intro hrg (And.intro hb1 hM1))
    clear hrg hm1 k0 k1 k2 k3 hb1 hM1 hrb
    go_wp2_with fail
    go_loopw [38] (LckRel2 w rb rs i) (fun k _=>i - (intOf k).toNat)
    case atStart=>exact ⟨0,by omega,rfl,rfl,by rw [← HK.out.2.2.1];exact HR.out.2.1,HR.out.2.2⟩
    case round=>
     obtain ⟨k,hk,rfl,hno,hbk,hM2⟩:=hrel
     rename World=>wq
     by_cases hlk:k < i
     ·have d4:decide ((k:Int) < (i:Int)) = true:=decide_eq_true (by omega)
      obtain ⟨b',o',hA',hb',hcells⟩:=(HH.out.quiet hM2).at_ k (by omega)
      injection hA' with hA'
      injection hA' with e1' e2'
      subst e1' e2'
      obtain ⟨r2,hr2⟩:∃ r,r = rs.getD k Rg.zero:=⟨_,rfl⟩
      rw [← hr2] at hcells
      have k0:wq.cell? ⟨b,o + k * 4,none⟩ = some (.string (strOf r2.name)):=hcells 0 _ rfl
      have k1:=hcells 1 _ rfl
      have k2:=hcells 2 _ rfl
      have k3:=hcells 3 _ rfl
      rw [← HK.out.2.2.1] at hbk
      have hbk2:=hbk.alloc (.cells r2.cells.toArray 38)
      obtain ⟨rc,rf⟩:=hbk2.both
      unfold Rg.cells at rc
      have q0:(wq.alloc (.cells r2.cells.toArray 38)).cell? ⟨rb,0,none⟩ = some (.string (strOf r.name)):=rc 0
      unfold Rg.cells at q0
      have HQ:=Lib.hid (And.intro hno (And.intro hbk (And.intro hM2 hr2)))
      clear hno hbk hM2 hr2 hcells hb' rc hbk2
      by_cases hs:r2.name = r.name
      ·have y1:((strOf r2.name).toList == (strOf r.name).toList) = true:=by rw [strOf_beq];exact decide_eq_true hs
       have H2:=Lib.hid (And.intro (HQ.out.2.2.1.alloc (.cells r2.cells.toArray 38)) (ladderE_no (W:=W) (H:=H) (G:=G) (rs:=rs) (i:=i + 1) (by rw [HLE.out];omega) (by rw [rungsB_succ,same_no hlk (by rw [← HQ.out.2.2.2,← HK.out.2.2.1];exact hs),Bool.and_false,Bool.and_false])))
       clear hs
       go_wp2_with fail
       go_ret
       exact ⟨by rw [H2.out.2];rfl,H2.out.1⟩
      ·have y1:((strOf r2.name).toList == (strOf r.name).toList) = false:=by rw [strOf_beq];exact decide_eq_false hs
       have H2:=Lib.hid (And.intro (HQ.out.2.2.1.alloc (.cells r2.cells.toArray 38)) (And.intro (HQ.out.2.1.alloc (.cells r2.cells.toArray 38)) hs))
       clear hs
       go_wp2_with fail
       go_roundw
       case rel=>
        refine ⟨k + 1,by omega,by go_num,?_,by rw [← HK.out.2.2.1];exact H2.out.2.1,H2.out.1⟩
        rw [List.range_succ,List.all_append,HQ.out.1,List.all_cons,List.all_nil,Bool.and_true,Bool.true_and]
        exact decide_eq_true (by rw [← HQ.out.2.2.2,← HK.out.2.2.1];exact H2.out.2.2)
       case measure=>simp [intOf];omega
     ·obtain rfl:k = i:=by omega
      have d4:decide ((k:Int) < (k:Int)) = false:=decide_eq_false (by omega)
      have H2:=Lib.hid (And.intro hno hM2)
      clear hno hbk hM2
      go_wp2_with fail
      go_roundw
      case rel=>
       refine ⟨k + 1,by omega,by go_num,?_,H2.out.2⟩
       rw [rungsB_succ,HK.out.1,← HK.out.2.2.1,HR.out.1,Bool.true_and,Bool.true_and,HK.out.2.2.1]
       exact H2.out.1
      case measure=>simp [intOf];omega
  ·obtain rfl:i = n:=by omega
   have d3:decide ((i:Int) < (i:Int)) = false:=decide_eq_false (by omega)
   have HR:Hid (ladderE W H G rs = 0):=by show _ = _;refine ladderE_yes ?_;unfold ladderB;rw [HLE.out,hok,Bool.and_true];exact decide_eq_true ⟨by omega,by omega⟩
   have H1:=Lib.hid hM
   clear hok hM
   go_wp2_with fail
   go_ret
   exact ⟨by rw [HR.out];rfl,H1.out⟩
theorem cellqL {w w':World} {b o:Nat} (hm:Mod (fun _=>False) w w') (hb:b < w.heap.size):w'.cell? ⟨b,o,none⟩ = w.cell? ⟨b,o,none⟩:=World.cell?_of_block (hm.block b hb (fun h=>h))
def Names15 (w:World) (n:Nat) (e:Ending) (w':World):Prop:=w = w' ∧ ∃ b,e = .returned (.bool b) ∧ (b = true → n ≤ 20)
theorem lNames15 (w:World) (A:Option Addr) (n c:Nat) (rs:List Rg) (h:RgsIn w A n c rs) (hn:n ≤ 9223372036854775807):Calls Tryz.prog 11 #[.slice A n c] w (Names15 w n):=by
 have HH:=Lib.hid h
 clear h
 go_enter Tryz.func11,Tryz.ntmps11
 go_wp2_with fail
 go_loop [3] (fun v=>∃ k:Nat,k ≤ n ∧ k ≤ 20 ∧ v = .int .i64 (k:Int)) (fun i=>n - (intOf i).toNat)
 case atStart=>exact ⟨0,by omega,by omega,rfl⟩
 case round=>
  obtain ⟨k,hk,hk2,rfl⟩:=hrel
  by_cases hlt:k < n
  ·have d1:decide ((k:Int) < (n:Int)) = true:=decide_eq_true (by omega)
   by_cases h20:k = 20
   ·have d2:((k:Int) == 20) = true:=by simp;omega
    clear h20
    go_wp2_with fail
    go_ret
    exact ⟨rfl,false,rfl,fun h=>(by cases h)⟩
   ·have d2:((k:Int) == 20) = false:=by simp;omega
    obtain ⟨b,o,rfl,hb,hcells⟩:=HH.out.at_ k hlt
    obtain ⟨r,hr⟩:∃ r,r = rs.getD k Rg.zero:=⟨_,rfl⟩
    rw [← hr] at hcells
    have k0:w.cell? ⟨b,o + k * 4,none⟩ = some (.string (strOf r.name)):=hcells 0 _ rfl
    have hsz:=strOf_size r.name
    have hnl:=HH.out.nm k
    rw [← hr] at hnl
    clear hcells hb hr
    by_cases h3:300 < r.name.length
    ·have d3:decide (300 < (r.name.length:Int)) = true:=decide_eq_true (by omega)
     go_wp2_with fail
     go_ret
     exact ⟨rfl,false,rfl,fun h=>(by cases h)⟩
    ·have d3:decide (300 < (r.name.length:Int)) = false:=decide_eq_false (by omega)
     go_wp2_with fail
     exact ⟨⟨k + 1,by omega,by omega,by go_num⟩,by simp [intOf];omega⟩
  ·obtain rfl:k = n:=by omega
   have d1:decide ((k:Int) < (k:Int)) = false:=decide_eq_false (by omega)
   go_wp2_with fail
   go_ret
   exact ⟨rfl,true,rfl,fun _=>hk2⟩
def FrX.wholeB (f:FrX):Bool:=wholeI f.W0 f.H0 f.n0 f.W1 f.H1 f.n1 f.W2 f.H2 f.n2
def FrX.likeB (f0 f:FrX):Bool:=f.wholeB && (decide (f.W0 = f0.W0) && decide (f.H0 = f0.H0))
def clipsB (fs:List FrX) (n:Nat):Bool:=(List.range n).all fun i=>FrX.likeB (fs.getD 0 FrX.zero) (fs.getD i FrX.zero)
def clipB (fs:List FrX):Bool:=decide (1 ≤ fs.length ∧ fs.length ≤ 1024) && clipsB fs fs.length
theorem clipsB_succ (fs:List FrX) (n:Nat):clipsB fs (n + 1) = (clipsB fs n && FrX.likeB (fs.getD 0 FrX.zero) (fs.getD n FrX.zero)):=by
 unfold clipsB
 rw [List.range_succ,List.all_append,List.all_cons,List.all_nil,Bool.and_true]
theorem clipsB_no {fs:List FrX} {n m:Nat} (hn:n ≤ m) (h0:clipsB fs n = false):clipsB fs m = false:=by
 induction m with
 | zero=>
  obtain rfl:n = 0:=by omega
  exact h0
 | succ m ih=>
  by_cases hm:n = m + 1
  ·rw [← hm]
   exact h0
  ·rw [clipsB_succ,ih (by omega),Bool.false_and]
theorem clipB_no {fs:List FrX} {k:Nat} (hk:k < fs.length) (h:FrX.likeB (fs.getD 0 FrX.zero) (fs.getD k FrX.zero) = false):clipB fs = false:=by
 unfold clipB
 rw [clipsB_no (n:=k + 1) (by omega) (by rw [clipsB_succ,h,Bool.and_false]),Bool.and_false]
theorem clipB_len {fs:List FrX} (h:¬ (1 ≤ fs.length ∧ fs.length ≤ 1024)):clipB fs = false:=by
 unfold clipB
 rw [decide_eq_false h,Bool.false_and]
theorem clipsB_at {fs:List FrX} {n i:Nat} (h:clipsB fs n = true) (hi:i < n):FrX.likeB (fs.getD 0 FrX.zero) (fs.getD i FrX.zero) = true:=by
 unfold clipsB at h
 rw [List.all_eq_true] at h
 exact h i (List.mem_range.2 hi)
def clipRel (w:World) (fs:List FrX) (n:Nat) (v:Value) (wr:World):Prop:=∃ k:Nat,k ≤ n ∧ v = .int .i64 (k:Int) ∧ clipsB fs k = true ∧ Mod (fun _=>False) w wr
theorem lRightClip (w:World) (A:Option Addr) (n c:Nat) (fs:List FrX) (h:FrsIn w A n fs) (hn:n ≤ 9223372036854775807):Calls Tryz.prog 53 #[.slice A n c] w fun e w'=>e = .returned (.bool (clipB fs)) ∧ Mod (fun _=>False) w w':=by
 have hlen:=h.len
 have HH:=Lib.hid h
 clear h
 by_cases h1:n < 1
 ·have d1:decide ((n:Int) < 1) = true:=decide_eq_true (by omega)
  have HR:=Lib.hid (clipB_len (fs:=fs) (by omega))
  clear hlen
  go_enter Tryz.func53,Tryz.ntmps53
  go_wp2_with fail
  go_ret
  exact ⟨by rw [HR.out];rfl,Mod.refl _ _⟩
 have d1:decide ((n:Int) < 1) = false:=decide_eq_false (by omega)
 by_cases h2:1024 < n
 ·have d2:decide (1024 < (n:Int)) = true:=decide_eq_true (by omega)
  have HR:=Lib.hid (clipB_len (fs:=fs) (by omega))
  clear hlen
  go_enter Tryz.func53,Tryz.ntmps53
  go_wp2_with fail
  go_ret
  exact ⟨by rw [HR.out];rfl,Mod.refl _ _⟩
 have d2:decide (1024 < (n:Int)) = false:=decide_eq_false (by omega)
 have HLE:=Lib.hid hlen
 clear hlen
 go_enter Tryz.func53,Tryz.ntmps53
 go_wp2_with fail
 go_loopw [15] (clipRel w fs n) (fun i _=>n - (intOf i).toNat)
 case atStart=>exact ⟨0,by omega,rfl,rfl,Mod.refl _ _⟩
 case round=>
  rename World=>wr
  obtain ⟨k,hk,rfl,hok,hM⟩:=hrel
  by_cases hlt:k < n
  ·obtain ⟨b,o,hA,hb,hcells,hin⟩:=(HH.out.quiet hM).at_ k hlt
   subst hA
   obtain ⟨b',o',hA',hb',hcell0,_⟩:=(HH.out.quiet hM).at_ 0 (by omega)
   injection hA' with hA'
   injection hA' with e1' e2'
   subst e1' e2'
   have d3:decide ((k:Int) < (n:Int)) = true:=decide_eq_true (by omega)
   have hn0:0 < n:=by omega
   obtain ⟨f,hf⟩:∃ f,f = fs.getD k FrX.zero:=⟨_,rfl⟩
   obtain ⟨f0,hf0⟩:∃ f,f = fs.getD 0 FrX.zero:=⟨_,rfl⟩
   rw [← hf] at hcells hin
   rw [← hf0] at hcell0
   have k0:wr.cell? ⟨b,o + k * 9,none⟩ = some (.int .i64 f.W0):=hcells 0 _ rfl
   have k1:=hcells 1 _ rfl
   have k2:=hcells 2 _ rfl
   have k3:=hcells 3 _ rfl
   have k4:=hcells 4 _ rfl
   have k5:=hcells 5 _ rfl
   have k6:=hcells 6 _ rfl
   have k7:=hcells 7 _ rfl
   have k8:=hcells 8 _ rfl
   have z0:wr.cell? ⟨b,o,none⟩ = some (.int .i64 f0.W0):=by have:=hcell0 0 _ rfl;simpa using this
   have z1:wr.cell? ⟨b,o + 1,none⟩ = some (.int .i64 f0.H0):=by have:=hcell0 1 _ rfl;simpa using this
   have hbx:=Blk.new wr 58 f.cells.toArray
   have HB:=Lib.hid (And.intro hbx (And.intro hb (And.intro z0 (And.intro z1 (And.intro hok (And.intro hM (And.intro hf hf0)))))))
   clear hcells hcell0 hin hb hb' hok hM hf hf0 z0 z1 hbx
   go_upto_region 6 with (fail)
   clear k0 k1 k2 k3 k4 k5 k6 k7 k8
   obtain ⟨fb,hfb⟩:∃ b,b = wr.heap.size:=⟨_,rfl⟩
   have hbx:=HB.out.1
   unfold FrX.cells at hbx
   have hma:Mod (fun _=>False) wr (wr.alloc (.cells #[.int .i64 f.W0,.int .i64 f.H0,.slice f.A0 f.n0 f.c0,.int .i64 f.W1,.int .i64 f.H1,.slice f.A1 f.n1 f.c1,.int .i64 f.W2,.int .i64 f.H2,.slice f.A2 f.n2 f.c2] 58)):=(Mod.refl _ wr).alloc _
   rw [← hfb] at hbx ⊢
   have HX:=Lib.hid (And.intro hbx hma)
   clear hbx hma hfb
   generalize wr.alloc (.cells #[.int .i64 f.W0,.int .i64 f.H0,.slice f.A0 f.n0 f.c0,.int .i64 f.W1,.int .i64 f.H1,.slice f.A1 f.n1 f.c1,.int .i64 f.W2,.int .i64 f.H2,.slice f.A2 f.n2 f.c2] 58) = w1 at *
   have fbx:=(HX.out.1).drew
   obtain ⟨fc,ff⟩:=fbx.both
   have HM1:=Lib.hid (HB.out.2.2.2.2.2.1.trans HX.out.2).drew
   cases hw:f.wholeB with
   | false=>
    have HR:=Lib.hid (clipB_no (fs:=fs) (k:=k) (by rw [HLE.out];omega) (by rw [← HB.out.2.2.2.2.2.2.1,← HB.out.2.2.2.2.2.2.2];unfold FrX.likeB;rw [hw,Bool.false_and]))
    have HW:=Lib.hid hw
    clear hw fbx
    refine wp_region_planS [1] [] [0,1,2,3,4,5,6,7,8,9,10,11,12,13,14,15,16,17,18,19,20,21,22,23,24] (fun _=>True) (by kernel_rfl) (by kernel_rfl) (fun _ _ _ d _ h=>by cases d <;> exact h) trivial ?_
    refine planS_still rfl rfl (fun K hK=>?_);go_simp;refine hK _ ?_;clear hK K
    refine planS_loud rfl rfl (fun K hK=>?_)
    go_simp
    refine (pWholeI _ f.W0 f.H0 f.W1 f.H1 f.W2 f.H2 f.A0 f.A1 f.A2 f.n0 f.c0 f.n1 f.c1 f.n2 f.c2).mono ?_
    rintro e w2 ⟨rfl,hm2⟩
    have hwv:wholeI f.W0 f.H0 f.n0 f.W1 f.H1 f.n1 f.W2 f.H2 f.n2 = false:=HW.out
    rw [hwv]
    have H2:=Lib.hid (HM1.out.trans hm2)
    clear hm2 hwv fc ff
    dsimp only []
    refine hK _ _ trivial ?_
    clear hK K
    (iterate 23 (refine planS_still rfl rfl (fun K hK=>?_);go_simp;refine hK _ ?_;clear hK K));refine planS_done ?_;go_wp2_with fail
    go_ret
    exact ⟨by rw [HR.out];rfl,H2.out⟩
   | true=>
    have HW:=Lib.hid hw
    clear hw fbx
    by_cases hW:f.W0 = f0.W0
    ·by_cases hH:f.H0 = f0.H0
     ·have n1:(f.W0 != f0.W0) = false:=by simpa using hW
      have n2:(f.H0 != f0.H0) = false:=by simpa using hH
      have HL:=Lib.hid (show FrX.likeB f0 f = true by unfold FrX.likeB;rw [HW.out,decide_eq_true hW,decide_eq_true hH];rfl)
      clear hW hH
      refine wp_region_planS [1] [] [0,1,2,3,4,5,6,7,8,9,10,11,12,13,14,15,16,17,18,19,20,21,22,23,24] (fun _=>True) (by kernel_rfl) (by kernel_rfl) (fun _ _ _ d _ h=>by cases d <;> exact h) trivial ?_
      refine planS_still rfl rfl (fun K hK=>?_);go_simp;refine hK _ ?_;clear hK K
      refine planS_loud rfl rfl (fun K hK=>?_)
      go_simp
      refine (pWholeI _ f.W0 f.H0 f.W1 f.H1 f.W2 f.H2 f.A0 f.A1 f.A2 f.n0 f.c0 f.n1 f.c1 f.n2 f.c2).mono ?_
      rintro e w2 ⟨rfl,hm2⟩
      have hwv:wholeI f.W0 f.H0 f.n0 f.W1 f.H1 f.n1 f.W2 f.H2 f.n2 = true:=HW.out
      rw [hwv]
      have hq:=(HX.out.1.drew).keep hm2 (fun h=>h)
      have hm12:=HX.out.2.trans ((Mod.refl (fun _=>False) w1).drew.trans hm2)
      have H2:=Lib.hid (HM1.out.trans hm2)
      clear fc ff
      obtain ⟨fc,ff⟩:=hq.both
      have z0:w2.cell? ⟨b,o,none⟩ = some (.int .i64 f0.W0):=(cellqL hm12 HB.out.2.1).trans HB.out.2.2.1
      have z1:w2.cell? ⟨b,o + 1,none⟩ = some (.int .i64 f0.H0):=(cellqL hm12 HB.out.2.1).trans HB.out.2.2.2.1
      clear hm2 hwv hq hm12
      dsimp only []
      refine hK _ _ trivial ?_
      clear hK K
      (iterate 23 (refine planS_still rfl rfl (fun K hK=>?_);go_simp;refine hK _ ?_;clear hK K));refine planS_done ?_;go_wp2_with fail
      go_roundw
      case rel=>exact ⟨k + 1,by omega,by go_num,by rw [clipsB_succ,HB.out.2.2.2.2.1,← HB.out.2.2.2.2.2.2.1,← HB.out.2.2.2.2.2.2.2,HL.out];rfl,H2.out⟩
      case measure=>simp [intOf];omega
     ·have n1:(f.W0 != f0.W0) = false:=by simpa using hW
      have n2:(f.H0 != f0.H0) = true:=by simpa using hH
      have HR:=Lib.hid (clipB_no (fs:=fs) (k:=k) (by rw [HLE.out];omega) (by rw [← HB.out.2.2.2.2.2.2.1,← HB.out.2.2.2.2.2.2.2];unfold FrX.likeB;rw [decide_eq_false hH,Bool.and_false,Bool.and_false]))
      clear hW hH
      refine wp_region_planS [1] [] [0,1,2,3,4,5,6,7,8,9,10,11,12,13,14,15,16,17,18,19,20,21,22,23,24] (fun _=>True) (by kernel_rfl) (by kernel_rfl) (fun _ _ _ d _ h=>by cases d <;> exact h) trivial ?_
      refine planS_still rfl rfl (fun K hK=>?_);go_simp;refine hK _ ?_;clear hK K
      refine planS_loud rfl rfl (fun K hK=>?_)
      go_simp
      refine (pWholeI _ f.W0 f.H0 f.W1 f.H1 f.W2 f.H2 f.A0 f.A1 f.A2 f.n0 f.c0 f.n1 f.c1 f.n2 f.c2).mono ?_
      rintro e w2 ⟨rfl,hm2⟩
      have hwv:wholeI f.W0 f.H0 f.n0 f.W1 f.H1 f.n1 f.W2 f.H2 f.n2 = true:=HW.out
      rw [hwv]
      have hq:=(HX.out.1.drew).keep hm2 (fun h=>h)
      have hm12:=HX.out.2.trans ((Mod.refl (fun _=>False) w1).drew.trans hm2)
      have H2:=Lib.hid (HM1.out.trans hm2)
      clear fc ff
      obtain ⟨fc,ff⟩:=hq.both
      have z0:w2.cell? ⟨b,o,none⟩ = some (.int .i64 f0.W0):=(cellqL hm12 HB.out.2.1).trans HB.out.2.2.1
      have z1:w2.cell? ⟨b,o + 1,none⟩ = some (.int .i64 f0.H0):=(cellqL hm12 HB.out.2.1).trans HB.out.2.2.2.1
      clear hm2 hwv hq hm12
      dsimp only []
      refine hK _ _ trivial ?_
      clear hK K
      (iterate 23 (refine planS_still rfl rfl (fun K hK=>?_);go_simp;refine hK _ ?_;clear hK K));refine planS_done ?_;go_wp2_with fail
      go_ret
      exact ⟨by rw [HR.out];rfl,H2.out⟩
    ·have n1:(f.W0 != f0.W0) = true:=by simpa using hW
     have HR:=Lib.hid (clipB_no (fs:=fs) (k:=k) (by rw [HLE.out];omega) (by rw [← HB.out.2.2.2.2.2.2.1,← HB.out.2.2.2.2.2.2.2];unfold FrX.likeB;rw [decide_eq_false hW,Bool.false_and,Bool.and_false]))
     clear hW
     refine wp_region_planS [1] [] [0,1,2,3,4,5,6,7,8,9,10,11,12,13,14,15,16,17,18,19,20,21,22,23,24] (fun _=>True) (by kernel_rfl) (by kernel_rfl) (fun _ _ _ d _ h=>by cases d <;> exact h) trivial ?_
     refine planS_still rfl rfl (fun K hK=>?_);go_simp;refine hK _ ?_;clear hK K
     refine planS_loud rfl rfl (fun K hK=>?_)
     go_simp
     refine (pWholeI _ f.W0 f.H0 f.W1 f.H1 f.W2 f.H2 f.A0 f.A1 f.A2 f.n0 f.c0 f.n1 f.c1 f.n2 f.c2).mono ?_
     rintro e w2 ⟨rfl,hm2⟩
     have hwv:wholeI f.W0 f.H0 f.n0 f.W1 f.H1 f.n1 f.W2 f.H2 f.n2 = true:=HW.out
     rw [hwv]
     have hq:=(HX.out.1.drew).keep hm2 (fun h=>h)
     have hm12:=HX.out.2.trans ((Mod.refl (fun _=>False) w1).drew.trans hm2)
     have H2:=Lib.hid (HM1.out.trans hm2)
     clear fc ff
     obtain ⟨fc,ff⟩:=hq.both
     have z0:w2.cell? ⟨b,o,none⟩ = some (.int .i64 f0.W0):=(cellqL hm12 HB.out.2.1).trans HB.out.2.2.1
     have z1:w2.cell? ⟨b,o + 1,none⟩ = some (.int .i64 f0.H0):=(cellqL hm12 HB.out.2.1).trans HB.out.2.2.2.1
     clear hm2 hwv hq hm12
     dsimp only []
     refine hK _ _ trivial ?_
     clear hK K
     (iterate 23 (refine planS_still rfl rfl (fun K hK=>?_);go_simp;refine hK _ ?_;clear hK K));refine planS_done ?_;go_wp2_with fail
     go_ret
     exact ⟨by rw [HR.out];rfl,H2.out⟩
  ·obtain rfl:k = n:=by omega
   have d3:decide ((k:Int) < (k:Int)) = false:=decide_eq_false (by omega)
   have HR:Hid (clipB fs = true):=by show _ = _;unfold clipB;rw [HLE.out,hok,Bool.and_true];exact decide_eq_true ⟨by omega,by omega⟩
   have H1:=Lib.hid hM
   clear hok hM
   go_wp2_with fail
   go_ret
   exact ⟨by rw [HR.out];rfl,H1.out⟩
end Go.Proofs.YthednemlahioeaaGreatDoor

