/-
  intra.Rest.
-/
import Derived.Test.YthednemlahioeaaGreatDoorH2
import Derived.Test.YthednemlahioeaaGreatDoorH7
import Derived.Test.YthednemlahioeaaGreatDoorH16
import Derived.Test.YthednemlahioeaaGreatDoorH9
import Derived.Test.YthednemlahioeaaGreatDoorH4
namespace Go.Proofs.YthednemlahioeaaGreatDoor
open Go.RowKit
set_option maxRecDepth 100000
set_option maxHeartbeats 8000000
def restAt (a b:List UInt8) (i:Nat):Int:=((a.getD i 0).toNat:Int) - ((b.getD i 0).toNat:Int)
def rsL (a b:List UInt8) (k:Nat):List Int:=(List.range a.length).map fun i=>if i < k then restAt a b i else 0
def restL (a b:List UInt8):List Int:=rsL a b a.length
theorem rsL_length (a b:List UInt8) (k:Nat):(rsL a b k).length = a.length:=by simp [rsL]
theorem restL_length (a b:List UInt8):(restL a b).length = a.length:=rsL_length _ _ _
theorem rsL_zero (a b:List UInt8):rsL a b 0 = List.replicate a.length 0:=by
 unfold rsL
 apply List.ext_getElem
 ·simp
 ·intro i h1 h2;simp
theorem rsL_set (a b:List UInt8) (k:Nat):(rsL a b k).set k (restAt a b k) = rsL a b (k + 1):=by
 unfold rsL
 apply List.ext_getElem
 ·simp
 ·intro i h1 h2
  rw [List.getElem_set]
  simp only [List.getElem_map,List.getElem_range]
  by_cases e:k = i
  ·subst e;rw [if_pos rfl,if_pos (by omega)]
  ·rw [if_neg e]
   by_cases e2:i < k
   ·rw [if_pos e2,if_pos (by omega)]
   ·rw [if_neg e2,if_neg (by omega)]
def RestRel (w4:World) (ob:Nat) (a b:List UInt8) (i:Value) (wr:World):Prop:=
 ∃ k:Nat,k ≤ a.length ∧ i = .int .i64 (k:Int) ∧ Blk wr ob 3 (i64s (rsL a b k)).toArray ∧ Mod (· = ob) w4 wr
theorem iRest (w:World) (A:Option Addr) (n c:Nat) (a:List UInt8) (A2:Option Addr) (c2:Nat) (b:List UInt8) (hin:BytesIn w A n c a) (hin2:BytesIn w A2 n c2 b) (hn0:0 < n) (hn:n ≤ 4096) :
  Calls Tryz.prog 299 #[.slice A n c,.slice A2 n c2] w fun e w'=>∃ ob,e = .returned (.slice (some ⟨ob,0,none⟩) n n) ∧ Blk w' ob 3 (i64s (restL a b)).toArray ∧ w.heap.size ≤ ob ∧ Mod (fun _=>False) w w':=by
 obtain rfl:a.length = n:=hin.1
 obtain ⟨ba,oa,rfl,hba,hca⟩:=hin.place hn0
 obtain ⟨bb,ob2,rfl,hbb,hcb⟩:=hin2.place hn0
 have HC:=Lib.hid (And.intro hca hcb)
 clear hca hcb hin hin2
 go_enter Tryz.func299,Tryz.ntmps299
 go_upto_region 4 with (refine wpList_mk_int _ rfl (.tmp 14) (.tmp 14) rfl a.length rfl rfl (by omega) ?_;intro w4 hob hm4;have HO:=Lib.hid (And.intro hob hm4);clear hob hm4)
 have hob:=HO.out.1
 rw [← rsL_zero a b] at hob
 obtain ⟨ob,hobe⟩:∃ ob,ob = w.heap.size:=⟨_,rfl⟩
 rw [← hobe] at hob ⊢
 have m4:=HO.out.2
 have how:w.heap.size ≤ ob:=by omega
 have hbo:¬ ba = ob:=by omega
 have hbo2:¬ bb = ob:=by omega
 clear HO hobe
 go_wp2_with fail
 go_loopw [18] (RestRel w4 ob a b) (fun i _=>a.length - (intOf i).toNat)
 case atStart=>exact ⟨0,by omega,rfl,hob,Mod.refl _ _⟩
 case round=>
  clear hob
  obtain ⟨k,hk,rfl,hob,hM⟩:=hrel
  by_cases hlt:k < a.length
  ·have hMw:Mod (· = ob) w wr:=(m4.mono (fun _ h=>h.elim)).trans hM
   have hck:wr.cell? ⟨ba,oa + k,none⟩ = some (.int .u8 ((a.getD k 0).toNat:Int)):=(World.cell?_of_block (hMw.block ba hba hbo)).trans (HC.out.1 k hlt)
   have hck2:wr.cell? ⟨bb,ob2 + k,none⟩ = some (.int .u8 ((b.getD k 0).toNat:Int)):=(World.cell?_of_block (hMw.block bb hbb hbo2)).trans (HC.out.2 k hlt)
   have hx:(a.getD k 0).toNat < 256:=UInt8.toNat_lt _
   have hy:(b.getD k 0).toNat < 256:=UInt8.toNat_lt _
   have HFA:Hid (restAt a b k = ((a.getD k 0).toNat:Int) - ((b.getD k 0).toNat:Int)):=rfl
   generalize (a.getD k 0).toNat = x at *
   generalize (b.getD k 0).toNat = y at *
   have hoc:wr.cell? ⟨ob,k,none⟩ = some (.int .i64 ((rsL a b k).getD k 0)):=by rw [hob.cell k];simp [i64s,rsL_length,hlt]
   have hof:=hob.frozen k
   have i1:(0:Int) ≤ (k:Int):=by omega
   have i2:(k:Int) < (a.length:Int):=by omega
   have hobl:=hob.lt
   have HB:=Lib.hid (And.intro hob hM)
   clear hob hM hMw
   generalize (rsL a b k).getD k 0 = old at *
   go_wp2_with fail
   go_roundw
   case rel=>
    obtain ⟨hob,hM⟩:=HB.out
    exact ⟨k + 1,by omega,by go_num,hob.put (by rw [← rsL_set,HFA.out];simp [i64s,List.map_set]),hM.setCell (p:=⟨ob,k,none⟩) (.inl rfl) _⟩
   case measure=>simp [intOf];omega
  ·obtain rfl:k = a.length:=by omega
   have HB:=Lib.hid (And.intro hob hM)
   clear hob hM
   go_wp2_with fail
   go_ret
   exact ⟨ob,rfl,HB.out.1,how,m4.into HB.out.2 (fun i e=>.inr (by omega))⟩
def absTo (l:List Int):Nat → Nat
 | 0=>0
 | k + 1=>absTo l k + (l.getD k 0).natAbs
theorem absTo_le {M:Nat} {l:List Int} (h:∀ i,(l.getD i 0).natAbs ≤ M) (k:Nat):absTo l k ≤ k * M:=by
 induction k with
 | zero=>simp [absTo]
 | succ k ih=>
  have:=h k
  rw [absTo,Nat.add_mul,Nat.one_mul]
  omega
def modeFar (W:Nat) (pix:List UInt8) (x y:Nat) (b:List UInt8) (m:Nat):Nat:=absTo (restL b (guessL W pix x y m)) 64
def chTo (W:Nat) (pix:List UInt8) (x y:Nat) (b:List UInt8):Nat → Nat × Nat
 | 0=>(0,0)
 | k + 1=>if k = 0 ∨ modeFar W pix x y b k < (chTo W pix x y b k).2 then (k,modeFar W pix x y b k) else chTo W pix x y b k
def chMode (W:Nat) (pix:List UInt8) (x y:Nat) (b:List UInt8):Nat:=(chTo W pix x y b 4).1
theorem chTo_lt (W:Nat) (pix:List UInt8) (x y:Nat) (b:List UInt8) (k:Nat):(chTo W pix x y b k).1 ≤ k - 1:=by
 induction k with
 | zero=>exact Nat.le_refl _
 | succ k ih=>
  unfold chTo
  split
  ·exact Nat.le_refl _
  ·omega
theorem chMode_lt (W:Nat) (pix:List UInt8) (x y:Nat) (b:List UInt8):chMode W pix x y b < 4:=by
 have:=chTo_lt W pix x y b 4
 unfold chMode
 omega
theorem restL_abs (a b:List UInt8) (i:Nat):((restL a b).getD i 0).natAbs ≤ 255:=by
 unfold restL rsL
 rw [List.getD_eq_getElem?_getD,List.getElem?_map]
 by_cases h:i < a.length
 ·rw [List.getElem?_range h]
  have h1:=UInt8.toNat_lt (a.getD i 0)
  have h2:=UInt8.toNat_lt (b.getD i 0)
  show (if i < a.length then restAt a b i else 0).natAbs ≤ 255
  rw [if_pos h]
  unfold restAt
  omega
 ·rw [List.getElem?_eq_none (by simp;omega)]
  show (0:Int).natAbs ≤ 255
  decide
def ChBlk (w:World) (l:List UInt8) (k:Nat) (v15:Value) (wr:World):Prop:=0 < k → ∃ g,v15 = .slice (some ⟨g,0,none⟩) 64 64 ∧ Blk wr g 5 (u8s l).toArray ∧ w.heap.size ≤ g
theorem ChBlk.quiet {w wr wr':World} {l:List UInt8} {k:Nat} {v15:Value} (h:ChBlk w l k v15 wr) (hm:Mod (fun _=>False) wr wr'):ChBlk w l k v15 wr':=fun h0=>by
 obtain ⟨g,h1,h2,h3⟩:=h h0
 exact ⟨g,h1,h2.keep hm (fun h=>h),h3⟩
def ChRel (w:World) (pb W:Nat) (pv:Array Value) (pix:List UInt8) (x y:Nat) (b:List UInt8) (v13 v14 v15 v24:Value) (wr:World):Prop:=
 ∃ k:Nat,k ≤ 4 ∧ v24 = .int .i64 (k:Int) ∧ v13 = .int .i64 ((chTo W pix x y b k).1:Int) ∧ v14 = .int .i64 ((chTo W pix x y b k).2:Int) ∧ Sat (fun _=>False) w wr [⟨pb,56,pv⟩] [] ∧
  ChBlk w (guessL W pix x y (chTo W pix x y b k).1) k v15 wr
def ChRel2 (wq:World) (l:List Int) (v19 v48:Value) (wr:World):Prop:=∃ i:Nat,i ≤ 64 ∧ v48 = .int .i64 (i:Int) ∧ v19 = .int .i64 ((absTo l i:Nat):Int) ∧ wr = wq
def ChPost (w:World) (W:Nat) (pix:List UInt8) (x y:Nat) (b:List UInt8) (e:Ending) (w':World):Prop:=
 ∃ g,e = .returned (.tuple #[.int .i64 ((chMode W pix x y b:Nat):Int),.slice (some ⟨g,0,none⟩) 64 64,.int .i64 0]) ∧ Blk w' g 5 (u8s (guessL W pix x y (chMode W pix x y b))).toArray ∧ w.heap.size ≤ g ∧ Mod (fun _=>False) w w'
theorem iChoose (w:World) (W H:Nat) (A:Option Addr) (n c:Nat) (pix:List UInt8) (h:sidesB W H = true) (hn:n = W * H) (hin:BytesIn w A n c pix) (hnc:n ≤ c) (x y:Nat) (hx:x + 8 ≤ W) (hy:y + 8 ≤ H)
  (A2:Option Addr) (c2:Nat) (b:List UInt8) (hb:BytesIn w A2 64 c2 b) :
  Calls Tryz.prog 297 #[.agg #[.int .i64 (W:Int),.int .i64 (H:Int),.slice A n c],.int .i64 (x:Int),.int .i64 (y:Int),.int .i64 8,.slice A2 64 c2] w (ChPost w W pix x y b):=by
 have HI:=Lib.hid (And.intro h (And.intro hn (And.intro hin (And.intro hnc hb))))
 clear h hn hin hnc hb
 have h0:=(Sat.nil (fun _=>False) w)
 go_enter Tryz.func297,Tryz.ntmps297
 go_wp2_with fail
 refine (iModes _).mono ?_
 rintro e w1 ⟨rfl,hm1⟩
 have HS:=Lib.hid (Sat.after hm1 (h0.alloc 56 #[.int .i64 (W:Int),.int .i64 (H:Int),.slice A n c] rfl))
 clear hm1 h0
 go_wp2_with fail
 go_loopw [13,14,15,24] (ChRel w w.heap.size W #[.int .i64 (W:Int),.int .i64 (H:Int),.slice A n c] pix x y b) (fun _ _ _ k _=>4 - (intOf k).toNat)
 case atStart=>exact ⟨0,by omega,rfl,rfl,rfl,HS.out,fun h=>absurd h (by omega)⟩
 case round=>
  clear HS
  rename World=>wr
  obtain ⟨k,hk,rfl,rfl,rfl,hs,hg⟩:=hrel
  by_cases hlt:k < 4
  ·have d1:decide ((k:Int) < 4) = true:=decide_eq_true (by omega)
   obtain ⟨pc,pf⟩:=(hs.own_ 0 rfl).both
   have HK:=Lib.hid (And.intro hs hg)
   clear hs hg
   go_wp2_with fail
   refine (iGuess _ W H A n c pix HI.out.1 HI.out.2.1 (HI.out.2.2.1.quiet HK.out.1.mod) HI.out.2.2.2.1 x y k hx hy hlt).mono ?_
   rintro e w2 ⟨g2,rfl,hb2,hg2,hm2⟩
   have hs2:=Sat.after hm2 HK.out.1
   have hin2:=blkIn hb2 (guessL_length W pix x y k) (by omega)
   have hgw:=HK.out.1.mod.size
   have hold:=HK.out.2.quiet hm2
   have HK2:=Lib.hid (And.intro hs2 (And.intro hin2 (And.intro hold hb2)))
   clear hm2 hs2 hin2 hold hb2 HK pc pf
   go_wp2_with fail
   refine (iRest _ A2 64 c2 b (some ⟨g2,0,none⟩) 64 (guessL W pix x y k) (HI.out.2.2.2.2.quiet HK2.out.1.mod) HK2.out.2.1 (by omega) (by omega)).mono ?_
   rintro e w3 ⟨ob,rfl,hbr,hor,hm3⟩
   have hs3:=Sat.after hm3 HK2.out.1
   have hF:Hid (modeFar W pix x y b k = absTo (restL b (guessL W pix x y k)) 64):=rfl
   have hrl:(restL b (guessL W pix x y k)).length = 64:=by rw [restL_length];exact HI.out.2.2.2.2.1
   have hab:=restL_abs b (guessL W pix x y k)
   generalize restL b (guessL W pix x y k) = R at *
   have HK3:=Lib.hid (And.intro hs3 (And.intro (HK2.out.2.2.2.keep hm3 (fun h=>h)) (And.intro hbr hrl)))
   have hold:=HK2.out.2.2.1.quiet hm3
   have HO:=Lib.hid hold
   clear hm3 hs3 hbr hold HK2 hor
   go_wp2_with fail
   go_loopw [19,48] (ChRel2 w3 R) (fun _ i _=>64 - (intOf i).toNat)
   case atStart=>exact ⟨0,by omega,rfl,rfl,rfl⟩
   case round=>
    obtain ⟨i,hi,rfl,rfl,rfl⟩:=hrel
    by_cases hli:i < 64
    ·have d2:decide ((i:Int) < 64) = true:=decide_eq_true (by omega)
     have hc:=HK3.out.2.2.1.cell i
     rw [List.getElem?_toArray,getD_i64s _ _ (by have:=HK3.out.2.2.2;omega)] at hc
     have ha:=hab i
     have hle:=absTo_le hab i
     have hst:Hid (absTo R (i + 1) = absTo R i + (R.getD i 0).natAbs):=rfl
     generalize R.getD i 0 = z at *
     generalize absTo R i = s0 at *
     have i0:(0:Int) ≤ (i:Int):=by omega
     have e1:max z (-z) = ((z.natAbs:Nat):Int):=by omega
     have hs0:s0 ≤ 16320:=by omega
     go_wp2_with fail
     go_roundw
     case rel=>exact ⟨i + 1,by omega,by go_num,congrArg (Value.int .i64) (by rw [hst.out];split <;> omega),rfl⟩
     case measure=>simp [intOf];omega
    ·obtain rfl:i = 64:=by omega
     rw [← hF.out]
     have hC:Hid (chTo W pix x y b (k + 1) = if k = 0 ∨ modeFar W pix x y b k < (chTo W pix x y b k).2 then (k,modeFar W pix x y b k) else chTo W pix x y b k):=rfl
     have hFb:modeFar W pix x y b k ≤ 16320:=by rw [hF.out];exact absTo_le hab 64
     clear hF hab
     generalize modeFar W pix x y b k = F at *
     generalize hq:(chTo W pix x y b k).2 = q at *
     generalize hp:(chTo W pix x y b k).1 = p at *
     have HQ:=Lib.hid (And.intro hq hp)
     clear hq hp
     have hst:(k = 0 ∨ (¬ k = 0 ∧ F < q)) ∨ (¬ k = 0 ∧ ¬ F < q):=by omega
     rcases hst with hst | ⟨hk0,hFq⟩
     ·have hC2:=Lib.hid (hC.out.trans (if_pos (hst.imp id (fun h=>h.2))))
      rcases hst with hk0 | ⟨hk0,hFq⟩
      case' inl=>
       have d2:((k:Int) == 0) = true:=by simp;omega
      case' inr=>
       have d2:((k:Int) == 0) = false:=by simp;omega
       have d3:decide ((F:Int) < (q:Int)) = true:=decide_eq_true (by omega)
      all_goals
       have HK0:=Lib.hid hk0
       clear hk0
       go_wp2_with fail
       go_roundw
       case rel=>
        refine ⟨k + 1,by omega,by go_num,by rw [hC2.out],by rw [hC2.out],HK3.out.1,fun _=>⟨g2,rfl,?_,by omega⟩⟩
        rw [hC2.out]
        exact HK3.out.2.1
       case measure=>simp [intOf];omega
     ·have hC2:=Lib.hid (hC.out.trans (if_neg (by omega)))
      have d2:((k:Int) == 0) = false:=by simp;omega
      have d3:decide ((F:Int) < (q:Int)) = false:=decide_eq_false (by omega)
      have HK0:=Lib.hid (And.intro hk0 hFq)
      clear hk0
      go_wp2_with fail
      go_roundw
      case rel=>
       refine ⟨k + 1,by omega,by go_num,by rw [hC2.out,HQ.out.2],by rw [hC2.out,HQ.out.1],HK3.out.1,fun _=>?_⟩
       rw [hC2.out,HQ.out.2]
       exact HO.out (by have:=HK0.out.1;omega)
      case measure=>simp [intOf];omega
  ·obtain rfl:k = 4:=by omega
   have HM:Hid (chMode W pix x y b = (chTo W pix x y b 4).1):=rfl
   obtain ⟨g,rfl,hb,hgw⟩:=hg (by omega)
   rw [← HM.out] at hb ⊢
   have HB:=Lib.hid (And.intro hb hs)
   clear hb hs hg
   generalize (chTo W pix x y b 4).2 = q at *
   have hml:=chMode_lt W pix x y b
   go_wp2_with fail
   go_ret3
   exact ⟨g,rfl,HB.out.1,hgw,HB.out.2.mod⟩
def levelOf (v s:Int):Int:=if v < 0 then -((-v + s / 3) / s) else (v + s / 3) / s
theorem quantLevel (w:World) (v s:Int) (hs:1 ≤ s ∧ s ≤ 1048576) (hv:-1073741824 ≤ v ∧ v ≤ 1073741824):Calls Tryz.prog 359 #[.int .i64 v,.int .i64 s] w fun e w'=>e = .returned (.int .i64 (levelOf v s)) ∧ w = w':=by
 obtain ⟨hs1,hs2⟩:=hs
 obtain ⟨hv1,hv2⟩:=hv
 have d0:decide (s < 1) = false:=decide_eq_false (by omega)
 have n0:¬ s = 0:=by omega
 obtain ⟨t,ht⟩:∃ t,t = s / 3:=⟨_,rfl⟩
 have ht2:s.tdiv 3 = t:=by rw [ht];exact Int.tdiv_eq_ediv_of_nonneg (by omega)
 have ht0:0 ≤ t:=by omega
 have ht1:t ≤ 1048576:=by omega
 by_cases h:v < 0
 ·have d1:decide (v < 0) = true:=decide_eq_true h
  obtain ⟨q,hq⟩:∃ q,q = (-v + t) / s:=⟨_,rfl⟩
  have hq2:(-v + t).tdiv s = q:=by rw [hq];exact Int.tdiv_eq_ediv_of_nonneg (by omega)
  have hq0:0 ≤ q:=by rw [hq];exact Int.ediv_nonneg (by omega) (by omega)
  have hq1:q ≤ 2147483648:=by
   rw [hq]
   exact Int.le_trans (Int.ediv_le_self _ (by omega)) (by omega)
  have w1:IntKind.i64.wrap (-v) = -v:=IntWalk.i64_in _ ⟨by omega,by omega⟩
  have w2:IntKind.i64.wrap (-v + t) = -v + t:=IntWalk.i64_in _ ⟨by omega,by omega⟩
  have w3:IntKind.i64.wrap q = q:=IntWalk.i64_in _ ⟨by omega,by omega⟩
  have w4:IntKind.i64.wrap (-q) = -q:=IntWalk.i64_in _ ⟨by omega,by omega⟩
  have HR:Hid (levelOf v s = -q):=by
   show _ = _
   unfold levelOf
   rw [if_pos h,← ht,← hq]
  clear hq ht h
  go_enter Tryz.func359,Tryz.ntmps359
  go_wp2_with fail
  go_ret
  exact ⟨by rw [HR.out];rfl,rfl⟩
 ·have d1:decide (v < 0) = false:=decide_eq_false h
  obtain ⟨q,hq⟩:∃ q,q = (v + t) / s:=⟨_,rfl⟩
  have hq2:(v + t).tdiv s = q:=by rw [hq];exact Int.tdiv_eq_ediv_of_nonneg (by omega)
  have hq0:0 ≤ q:=by rw [hq];exact Int.ediv_nonneg (by omega) (by omega)
  have hq1:q ≤ 2147483648:=by
   rw [hq]
   exact Int.le_trans (Int.ediv_le_self _ (by omega)) (by omega)
  have w2:IntKind.i64.wrap (v + t) = v + t:=IntWalk.i64_in _ ⟨by omega,by omega⟩
  have w3:IntKind.i64.wrap q = q:=IntWalk.i64_in _ ⟨by omega,by omega⟩
  have HR:Hid (levelOf v s = q):=by
   show _ = _
   unfold levelOf
   rw [if_neg h,← ht,← hq]
  clear hq ht h
  go_enter Tryz.func359,Tryz.ntmps359
  go_wp2_with fail
  go_ret
  exact ⟨by rw [HR.out];rfl,rfl⟩
end Go.Proofs.YthednemlahioeaaGreatDoor

