/-
  quant.each with quant.Level: quant.Coarse.
-/
import Derived.Test.YtmkopcojnibhlaaGreatDoorP9
import Derived.Test.YtmkopcojnibhlaaGreatDoorP13
import Derived.Test.YtmkopcojnibhlaaGreatDoorP8
import Derived.Test.YtmkopcojnibhlaaGreatDoorP0
namespace Go.Proofs.YtmkopcojnibhlaaGreatDoor
open Go.RowKit
set_option maxRecDepth 100000
set_option maxHeartbeats 8000000
theorem level_bd (v s:Int) (hs:1 ≤ s ∧ s ≤ 1008) (M:Int) (hM:0 ≤ M) (hv:-M ≤ v ∧ v ≤ M):-(M + 336) ≤ levelOf v s ∧ levelOf v s ≤ M + 336:=by
 obtain ⟨h1,h2⟩:=hs
 obtain ⟨h3,h4⟩:=hv
 have t0:0 ≤ s / 3 ∧ s / 3 ≤ 336:=by omega
 unfold levelOf
 generalize s / 3 = t at *
 split
 ·have a:=Int.ediv_le_self s (show 0 ≤ -v + t by omega)
  have b:0 ≤ (-v + t) / s:=Int.ediv_nonneg (by omega) (by omega)
  omega
 ·have a:=Int.ediv_le_self s (show 0 ≤ v + t by omega)
  have b:0 ≤ (v + t) / s:=Int.ediv_nonneg (by omega) (by omega)
  omega
def coarseAt (l:List Int) (q:Int) (i:Nat):Int:=levelOf (l.getD i 0) (stepOf q ((i % sideOf l.length:Nat):Int) ((i / sideOf l.length:Nat):Int))
def coarseL (l:List Int) (q:Int):List Int:=(List.range l.length).map (coarseAt l q)
def qCoarse (l:List Int) (q:Int):Option (List Int):=if allB 67108864 l = true ∧ (0 ≤ q ∧ q ≤ 31) ∧ ∀ i < l.length,inB 67108864 (coarseAt l q i) = true then some (coarseL l q) else none
def pcC (l:List Int) (q:Int) (k:Nat):List Int:=(List.range l.length).map fun i=>if i < k then coarseAt l q i else 0
theorem pcC_zero (l:List Int) (q:Int):pcC l q 0 = List.replicate l.length 0:=by
 unfold pcC
 apply List.ext_getElem
 ·simp
 ·intro i h1 h2;simp
theorem pcC_all (l:List Int) (q:Int):pcC l q l.length = coarseL l q:=by
 unfold pcC coarseL
 refine List.map_congr_left fun i hi=>?_
 rw [if_pos (List.mem_range.1 hi)]
theorem pcC_set (l:List Int) (q:Int) (k:Nat):(pcC l q k).set k (coarseAt l q k) = pcC l q (k + 1):=by
 unfold pcC
 apply List.ext_getElem
 ·simp
 ·intro i h1 h2
  rw [List.getElem_set]
  simp only [List.getElem_map,List.getElem_range]
  by_cases e:k = i
  ·subst e;rw [if_pos rfl,if_pos (by omega)]
  ·rw [if_neg e]
   by_cases e2:i < k
   ·rw [if_pos e2,if_pos (by omega)]
   ·rw [if_neg e2,if_neg (by omega)]
theorem pcC_length (l:List Int) (q:Int) (k:Nat):(pcC l q k).length = l.length:=by simp [pcC]
def CoarsePost (w:World) (l:List Int) (q:Int) (e:Ending) (w':World):Prop:=
 Mod (fun _=>False) w w' ∧ ((qCoarse l q = none ∧ e = .returned (.tuple #[.slice none 0 0,.int .i64 1])) ∨ ∃ v,qCoarse l q = some (coarseL l q) ∧ e = .returned (.tuple #[v,.int .i64 0]) ∧ IntsOwn w' w.heap.size v (coarseL l q))
def EachRelC (w4:World) (ob:Nat) (l:List Int) (q:Int) (i:Value) (wr:World):Prop:=
 ∃ k:Nat,k ≤ l.length ∧ i = .int .i64 k ∧ (∀ j < k,inB 67108864 (coarseAt l q j) = true) ∧ (0 < k → 0 ≤ q ∧ q ≤ 31) ∧ Blk wr ob 3 (i64s (pcC l q k)).toArray ∧ Mod (· = ob) w4 wr
theorem quantEachC (w:World) (A:Option Addr) (n c:Nat) (l:List Int) (q:Int) (hin:IntsIn w A n c l) (hn:n ≤ 1048576) :
  Calls Tryz.prog 207 #[.slice A n c,.int .i64 q,.func (.func 208) #[] #[]] w (CoarsePost w l q):=by
 obtain ⟨i0,hi0,hz0,hz1,hz2⟩:=info_parts int_info
 obtain rfl:l.length = n:=hin.1
 have HIN:=Lib.hid hin
 clear hin
 go_enter Tryz.func207,Tryz.ntmps207
 go_wp2_with fail
 refine (quantWithin _ 67108864).mono ?_
 rintro e w1 ⟨rfl,hb1,m1⟩
 obtain ⟨bb,hbb⟩:∃ bb,bb = w.heap.size:=⟨_,rfl⟩
 rw [← hbb] at hb1 ⊢
 have hbw:w.heap.size ≤ bb:=by omega
 clear hbb
 go_wp2_with fail
 refine (quantAll _ A l.length c bb l 67108864 (HIN.out.quiet m1) hn (by omega) hb1).mono ?_
 rintro e w2 ⟨rfl,rfl⟩
 cases hall:allB 67108864 l with
 | false=>
  have HQ:Hid (qCoarse l q = none):=if_neg (fun h=>by rw [hall] at h;cases h.1)
  clear hall hb1
  go_wp2_with fail
  go_ret2
  exact ⟨m1,.inl ⟨HQ.out,rfl⟩⟩
 | true=>
  obtain ⟨hsn,hins⟩:=allB_parts hall
  have hsc:=side_cases hsn
  have HALL:=Lib.hid (And.intro hall hins)
  clear hall hins
  go_wp2_with fail
  refine (quantSide _ l.length (by omega)).mono ?_
  rintro e w3 ⟨rfl,rfl⟩
  obtain ⟨s,hs⟩:∃ s,s = sideOf l.length:=⟨_,rfl⟩
  rw [← hs] at hsn hsc ⊢
  have HS:=Lib.hid hs
  clear hs
  have hl0:16 ≤ l.length ∧ l.length ≤ 64:=by omega
  have hs8:4 ≤ s ∧ s ≤ 8:=by omega
  have hls:l.length ≤ 8 * s ∧ l.length ≤ s * s:=by rcases hsc with ⟨e1,e2⟩ | ⟨e1,e2⟩ <;> rw [e1,e2] <;> decide
  clear hsc hsn
  have x1:i0.bytes * l.length ≤ 281474976710656:=by rw [hz2];omega
  have x2:l.length ≤ maxLen:=by unfold maxLen;omega
  have HX:=Lib.hid (And.intro x1 x2)
  clear x1 x2
  go_upto_region 6 with (with_reducible refine wpList_make_full _ rfl (.tmp 24) (.tmp 24) _ rfl w1.heap.size 3 i0 (.int .i64 0) 1 Tryz.underlying171 hi0 hz0 hz1 _ _ _ _ l.length rfl rfl rfl rfl HX.out.1 HX.out.2 (Nat.le_refl _) ?_;intro w4 hown4 hg4;have HO:=Lib.hid (And.intro hown4 hg4);clear hown4 hg4)
  have m4:Mod (fun _=>False) w1 w4:=(Mod.refl _ _).grown HO.out.2 (fun k hk=>by cases hk)
  obtain ⟨hob,_⟩:=own_whole HO.out.1
  rw [Nat.mul_one,made_int,← pcC_zero l q] at hob
  obtain ⟨ob,hobe⟩:∃ ob,ob = w1.heap.size:=⟨_,rfl⟩
  rw [← hobe] at hob ⊢
  have hbl:=hb1.lt
  have hbo:¬ bb = ob:=by omega
  have how:w.heap.size ≤ ob:=by have:=m1.size;omega
  have hb4:=hb1.keep m4 (fun h=>h)
  have M4:=m1.trans m4
  have hin4:=HIN.out.quiet M4
  have hlen:=HIN.out.2.2.2 (by omega)
  clear HO m1 m4 hb1 hobe
  obtain ⟨b,off,hA,_,hc⟩:=hin4.place (by omega)
  subst hA
  have hbw2:b < w.heap.size:=hlen _ rfl
  have HC:=Lib.hid hc
  clear hc hin4 hlen
  go_wp2_with fail
  go_loopw [28] (EachRelC w4 ob l q) (fun i _=>l.length - (intOf i).toNat)
  case atStart=>exact ⟨0,by omega,rfl,(fun j hj=>by omega),(fun h=>by omega),hob,Mod.refl _ _⟩
  case round=>
   clear hob
   obtain ⟨k,hk,rfl,hpre,hqk,hob,hM⟩:=hrel
   have HPRE:=Lib.hid (And.intro hpre hqk)
   clear hpre hqk
   by_cases hlt:k < l.length
   ·have hck:wr.cell? ⟨b,off + k,none⟩ = some (.int .i64 (l.getD k 0)):=(World.cell?_of_block (hM.block b (World.block_lt_of_cell? _ _ (HC.out k hlt)) (by omega))).trans (HC.out k hlt)
    have hvin:=HALL.out.2 k hlt
    have HFA:Hid (coarseAt l q k = levelOf (l.getD k 0) (stepOf q ((k % s:Nat):Int) ((k / s:Nat):Int))):=by show _ = _;unfold coarseAt;rw [HS.out]
    generalize hvv:l.getD k 0 = v at *
    clear hvv
    unfold inB at hvin
    simp only [decide_eq_true_eq] at hvin
    obtain ⟨v1,v2⟩:=hvin
    have i1:(0:Int) ≤ (k:Int):=by omega
    have i2:(k:Int) < (l.length:Int):=by omega
    obtain ⟨kx,hkx⟩:∃ kx,kx = k % s:=⟨_,rfl⟩
    obtain ⟨ky,hky⟩:∃ ky,ky = k / s:=⟨_,rfl⟩
    have hks:kx < s:=by rw [hkx];exact Nat.mod_lt _ (by omega)
    have hkd:ky < s:=by rw [hky];exact Nat.div_lt_of_lt_mul (by omega)
    have t1:((k:Int).tmod (s:Int)) = (kx:Int):=by rw [Int.tmod_eq_emod_of_nonneg (by omega),hkx];exact (Int.natCast_emod k s).symm
    have t2:((k:Int).tdiv (s:Int)) = (ky:Int):=by rw [Int.tdiv_eq_ediv_of_nonneg (by omega),hky];exact (Int.natCast_ediv k s).symm
    have t3:((k:Int) % (s:Int)) = (kx:Int):=by rw [hkx];exact (Int.natCast_emod k s).symm
    have t4:((k:Int) / (s:Int)) = (ky:Int):=by rw [hky];exact (Int.natCast_ediv k s).symm
    have hs0:((s:Int) == 0) = false:=beq_eq_false_iff_ne.2 (by omega)
    rw [← hkx,← hky] at HFA
    have HT:=Lib.hid (And.intro t1 (And.intro t2 (And.intro t3 t4)))
    clear hkx hky t1 t2 t3 t4
    by_cases hq:0 ≤ q ∧ q ≤ 31
    ·have hok:stepOk q (kx:Int) (ky:Int) = true:=by unfold stepOk;rw [decide_eq_true_eq];omega
     go_upto_region 9 with (fail)
     obtain ⟨t1,t2,t3,t4⟩:=HT.out
     go_quiet ((go_at_call 133;exact Calls.quiet_of_same (quiet_step_yes _ q kx ky hok _)))
     clear t1 t2 t3 t4
     have hbd:=step_bd q kx ky hok
     obtain ⟨_,st1,st2,_⟩:=hbd
     obtain ⟨st,hst⟩:∃ st,st = stepOf q kx ky:=⟨_,rfl⟩
     rw [← hst] at st1 st2 HFA ⊢
     clear hst hok HT hck
     have hpb:=level_bd v st ⟨st1,st2⟩ 67108864 (by omega) ⟨v1,v2⟩
     have hob2:=hob.drewN nq
     have hM2:=hM.drewN nq
     have hb5:=(hb4.keep hM hbo).drewN nq
     generalize wr.drewN nq = w5 at *
     clear hob hM
     go_wp2_with fail
     refine (quantLevel _ v st (by omega) (by omega)).mono ?_
     rintro e w6 ⟨rfl,rfl⟩
     obtain ⟨pr,hpr⟩:∃ pr,pr = levelOf v st:=⟨_,rfl⟩
     rw [← hpr] at hpb HFA ⊢
     clear hpr
     have hoc:w5.cell? ⟨ob,k,none⟩ = some (.int .i64 ((pcC l q k).getD k 0)):=by rw [hob2.cell k];simp [i64s,pcC_length,hlt]
     have hof:=hob2.frozen k
     have hob3:Blk (w5.setCell ⟨ob,k,none⟩ (.int .i64 pr)) ob 3 (i64s (pcC l q (k + 1))).toArray:=hob2.put (by rw [← pcC_set,HFA.out,i64s_set];simp)
     have hM3:Mod (· = ob) w4 (w5.setCell ⟨ob,k,none⟩ (.int .i64 pr)):=hM2.setCell (p:=⟨ob,k,none⟩) (.inl rfl) _
     have hb6:Blk (w5.setCell ⟨ob,k,none⟩ (.int .i64 pr)) bb 3 #[.int .i64 67108864]:=hb5.far hbo _
     have HB:=Lib.hid (And.intro hob3 (And.intro hM3 hb6))
     clear hob2 hM2 hb5 hob3 hM3 hb6
     generalize (pcC l q k).getD k 0 = old at *
     cases hv:inB 67108864 pr with
     | true=>
      go_wp2_with fail
      refine (quantIn _ bb 67108864 pr (by omega) HB.out.2.2).mono ?_
      rintro e w7 ⟨rfl,rfl⟩
      rw [hv]
      have HV:=Lib.hid hv
      clear hv hoc hof
      go_wp2_with fail
      go_roundw
      case rel=>
       refine ⟨k + 1,by omega,by go_num,fun j hj=>?_,fun _=>hq,HB.out.1,HB.out.2.1⟩
       by_cases e:j = k
       ·subst e;rw [HFA.out];exact HV.out
       ·exact HPRE.out.1 j (by omega)
      case measure=>simp [intOf];omega
     | false=>
      have HQ:Hid (qCoarse l q = none):=if_neg (fun h=>by have:=h.2.2 k hlt;rw [HFA.out,hv] at this;cases this)
      go_wp2_with fail
      refine (quantIn _ bb 67108864 pr (by omega) HB.out.2.2).mono ?_
      rintro e w7 ⟨rfl,rfl⟩
      rw [hv]
      clear hv hoc hof
      go_wp2_with fail
      go_ret2
      exact ⟨M4.into HB.out.2.1 (fun i e=>.inr (by omega)),.inl ⟨HQ.out,rfl⟩⟩
    ·have hok:stepOk q (kx:Int) (ky:Int) = false:=by unfold stepOk;rw [decide_eq_false_iff_not];omega
     have HQ:Hid (qCoarse l q = none):=if_neg (fun h=>hq h.2.1)
     go_upto_region 9 with (fail)
     obtain ⟨t1,t2,t3,t4⟩:=HT.out
     go_quiet ((go_at_call 133;exact Calls.quiet_of_same (quiet_step_no _ q kx ky hok _)))
     clear t1 t2 t3 t4
     go_wp2_with fail
     go_ret2
     exact ⟨(M4.into hM (fun i e=>.inr (by omega))).drewN _,.inl ⟨HQ.out,rfl⟩⟩
   ·obtain rfl:k = l.length:=by omega
    have HQ:Hid (qCoarse l q = some (coarseL l q)):=if_pos ⟨HALL.out.1,HPRE.out.2 (by omega),HPRE.out.1⟩
    have HB:=Lib.hid (And.intro hob hM)
    clear hob hM
    go_wp2_with fail
    go_ret2
    refine ⟨M4.into HB.out.2 (fun i e=>.inr (by omega)),.inr ⟨_,HQ.out,rfl,?_⟩⟩
    have hob:=HB.out.1
    rw [pcC_all] at hob
    have hfl:(coarseL l q).length = l.length:=by simp [coarseL]
    unfold IntsOwn
    rw [hfl]
    exact ⟨by rw [i64s_length,hfl,Nat.mul_one],.inr ⟨ob,l.length,_,rfl,how,hob,Nat.le_refl _,HX.out.2,by simp [i64s_length,hfl],by rw [Nat.mul_one];exact List.take_of_length_le (by simp [i64s_length,hfl])⟩⟩
theorem quantCoarse (w:World) (A:Option Addr) (n c:Nat) (l:List Int) (q:Int) (hin:IntsIn w A n c l) (hn:n ≤ 1048576):Calls Tryz.prog 147 #[.slice A n c,.int .i64 q] w (CoarsePost w l q):=by
 go_enter Tryz.func147,Tryz.ntmps147
 go_wp2_with fail
 refine (quantEachC _ A n c l q hin hn).mono ?_
 rintro e w1 ⟨hm,⟨h1,rfl⟩ | ⟨v,h1,rfl,h2⟩⟩
 ·have HQ:=Lib.hid h1
  clear h1
  go_wp2_with fail
  go_ret2
  exact ⟨hm,.inl ⟨HQ.out,rfl⟩⟩
 ·have HQ:=Lib.hid (And.intro h1 h2)
  obtain ⟨A1,c1,hv⟩:=own_shape h2
  subst hv
  clear h1 h2
  go_wp2_with fail
  go_ret2
  exact ⟨hm,.inr ⟨_,HQ.out.1,rfl,HQ.out.2⟩⟩
def lowAt (l:List Int) (i:Nat):Int:=(l.getD (2 * i) 0 + l.getD (2 * i + 1) 0) / 2
def highAt (l:List Int) (i:Nat):Int:=l.getD (2 * i) 0 - l.getD (2 * i + 1) 0
def dnLo (l:List Int):Nat → List Int
 | 0=>[0,0,0,0]
 | i + 1=>(dnLo l i).set i (lowAt l i)
def dnHi (l:List Int):Nat → List Int
 | 0=>[0,0,0,0]
 | i + 1=>(dnHi l i).set i (highAt l i)
def dnL (m:Nat) (l:List Int):List Int:=splice (splice l 0 ((dnLo l m).take m)) m ((dnHi l m).take m)
def fwd8 (l:List Int):List Int:=dnL 1 (dnL 2 (dnL 4 l))
theorem dnLo_length (l:List Int) (i:Nat):(dnLo l i).length = 4:=by
 induction i with
 | zero=>rfl
 | succ i ih=>simp [dnLo,ih]
theorem dnHi_length (l:List Int) (i:Nat):(dnHi l i).length = 4:=by
 induction i with
 | zero=>rfl
 | succ i ih=>simp [dnHi,ih]
theorem z4_getD (j:Nat):([0,0,0,0]:List Int).getD j 0 = 0:=by
 match j with
 | 0 | 1 | 2 | 3=>rfl
 | j + 4=>rfl
theorem dnLo_getD (l:List Int) (k j:Nat) (hk:k ≤ 4):(dnLo l k).getD j 0 = if j < k then lowAt l j else 0:=by
 induction k with
 | zero=>rw [if_neg (by omega)];exact z4_getD j
 | succ k ih=>
  rw [dnLo,getD_set,dnLo_length,ih (by omega)]
  by_cases e:k = j
  ·subst e
   rw [if_pos ⟨rfl,by omega⟩,if_pos (by omega)]
  ·rw [if_neg (fun h=>e h.1)]
   by_cases e2:j < k
   ·rw [if_pos e2,if_pos (by omega)]
   ·rw [if_neg e2,if_neg (by omega)]
theorem dnHi_getD (l:List Int) (k j:Nat) (hk:k ≤ 4):(dnHi l k).getD j 0 = if j < k then highAt l j else 0:=by
 induction k with
 | zero=>rw [if_neg (by omega)];exact z4_getD j
 | succ k ih=>
  rw [dnHi,getD_set,dnHi_length,ih (by omega)]
  by_cases e:k = j
  ·subst e
   rw [if_pos ⟨rfl,by omega⟩,if_pos (by omega)]
  ·rw [if_neg (fun h=>e h.1)]
   by_cases e2:j < k
   ·rw [if_pos e2,if_pos (by omega)]
   ·rw [if_neg e2,if_neg (by omega)]
theorem getD_take (l:List Int) (m j:Nat):(l.take m).getD j 0 = if j < m then l.getD j 0 else 0:=by
 simp only [List.getD_eq_getElem?_getD,List.getElem?_take]
 split <;> rfl
theorem dnL_length (m:Nat) (l:List Int) (hm:2 * m ≤ l.length) (h4:m ≤ 4):(dnL m l).length = l.length:=by
 have h1:((dnLo l m).take m).length = m:=by rw [List.length_take,dnLo_length];omega
 have h2:((dnHi l m).take m).length = m:=by rw [List.length_take,dnHi_length];omega
 have h3:(splice l 0 ((dnLo l m).take m)).length = l.length:=length_splice _ _ _ (by omega)
 unfold dnL
 rw [length_splice _ _ _ (by omega),h3]
theorem dnL_getD (m:Nat) (l:List Int) (hm:2 * m ≤ l.length) (h4:m ≤ 4) (i:Nat):(dnL m l).getD i 0 = if i < m then lowAt l i else if i < 2 * m then highAt l (i - m) else l.getD i 0:=by
 have h1:((dnLo l m).take m).length = m:=by rw [List.length_take,dnLo_length];omega
 have h2:((dnHi l m).take m).length = m:=by rw [List.length_take,dnHi_length];omega
 have h3:(splice l 0 ((dnLo l m).take m)).length = l.length:=length_splice _ _ _ (by omega)
 unfold dnL
 rw [splice_getD _ _ _ (by omega),splice_getD _ _ _ (by omega),h1,h2,getD_take,getD_take,dnHi_getD _ _ _ h4,dnLo_getD _ _ _ h4]
 by_cases e1:i < m
 ·rw [if_neg (by omega),if_pos (by omega),if_pos e1,Nat.sub_zero,if_pos e1,if_pos e1]
 ·rw [if_neg e1]
  by_cases e2:i < 2 * m
  ·rw [if_pos (by omega),if_pos (by omega),if_pos (by omega),if_pos e2]
  ·rw [if_neg (by omega),if_neg (by omega),if_neg e2]
theorem dnL_within {M:Int} {m:Nat} {l:List Int} (hm:2 * m ≤ l.length) (h4:m ≤ 4) (h:Within M l):Within (2 * M) (dnL m l):=by
 intro i
 rw [dnL_getD m l hm h4]
 split
 ·have h1:=h (2 * i)
  have h2:=h (2 * i + 1)
  unfold lowAt
  omega
 ·split
  ·have h1:=h (2 * (i - m))
   have h2:=h (2 * (i - m) + 1)
   unfold highAt
   omega
  ·have:=h i
   omega
theorem fwd8_length (l:List Int) (h:l.length = 8):(fwd8 l).length = 8:=by
 have h1:=dnL_length 4 l (by omega) (by omega)
 have h2:=dnL_length 2 (dnL 4 l) (by omega) (by omega)
 have h3:=dnL_length 1 (dnL 2 (dnL 4 l)) (by omega) (by omega)
 unfold fwd8
 omega
theorem fwd8_within {M:Int} {l:List Int} (hl:l.length = 8) (_h0:0 ≤ M) (h:Within M l):Within (8 * M) (fwd8 l):=by
 have h1:=dnL_length 4 l (by omega) (by omega)
 have h2:=dnL_length 2 (dnL 4 l) (by omega) (by omega)
 have w1:=dnL_within (m:=4) (by omega) (by omega) h
 have w2:=dnL_within (m:=2) (by omega) (by omega) w1
 have w3:=dnL_within (m:=1) (by omega) (by omega) w2
 intro i
 have:=w3 i
 unfold fwd8
 omega
def FwAt (l:List Int) (n:Nat) (l':List Int):Prop:=(n = 8 ∧ l' = l) ∨ (n = 4 ∧ l' = dnL 4 l) ∨ (n = 2 ∧ l' = dnL 2 (dnL 4 l)) ∨ (n = 1 ∧ l' = fwd8 l)
theorem fwAt_facts {l l':List Int} {n:Nat} (hl:l.length = 8) (hM:Within 1099511627776 l) (h:FwAt l n l'):l'.length = 8 ∧ Within 8796093022208 l':=by
 have h1:=dnL_length 4 l (by omega) (by omega)
 have h2:=dnL_length 2 (dnL 4 l) (by omega) (by omega)
 have h3:=dnL_length 1 (dnL 2 (dnL 4 l)) (by omega) (by omega)
 have w1:=dnL_within (m:=4) (by omega) (by omega) hM
 have w2:=dnL_within (m:=2) (by omega) (by omega) w1
 have w3:=dnL_within (m:=1) (by omega) (by omega) w2
 have mono:∀ {A B:Int} {x:List Int},Within A x → A ≤ B → Within B x:=fun h hab i=>by have:=h i;omega
 rcases h with ⟨_,rfl⟩ | ⟨_,rfl⟩ | ⟨_,rfl⟩ | ⟨_,rfl⟩
 ·exact ⟨hl,mono hM (by omega)⟩
 ·exact ⟨by omega,mono w1 (by omega)⟩
 ·exact ⟨by omega,mono w2 (by omega)⟩
 ·exact ⟨by unfold fwd8;omega,by unfold fwd8;exact mono w3 (by omega)⟩
theorem fwAt_next {l l':List Int} {m:Nat} (h:FwAt l (2 * m) l'):FwAt l m (dnL m l'):=by
 rcases h with ⟨h,rfl⟩ | ⟨h,rfl⟩ | ⟨h,rfl⟩ | ⟨h,_⟩
 ·obtain rfl:m = 4:=by omega
  exact .inr (.inl ⟨rfl,rfl⟩)
 ·obtain rfl:m = 2:=by omega
  exact .inr (.inr (.inl ⟨rfl,rfl⟩))
 ·obtain rfl:m = 1:=by omega
  exact .inr (.inr (.inr ⟨rfl,rfl⟩))
 ·omega
def FwRel (w:World) (g:Nat) (l:List Int) (v1:Value) (wr:World):Prop:=∃ n l',FwAt l n l' ∧ v1 = .int .i64 (n:Int) ∧ Sat (· = g) w wr [⟨g,302,(i64s l').toArray⟩] []
def FwRel2 (w:World) (g lo hi m:Nat) (l':List Int) (v17:Value) (wr:World):Prop:=∃ i:Nat,i ≤ m ∧ v17 = .int .i64 (i:Int) ∧ Sat (· = g) w wr [⟨hi,300,(i64s (dnHi l' i)).toArray⟩,⟨lo,300,(i64s (dnLo l' i)).toArray⟩,⟨g,302,(i64s l').toArray⟩] []
theorem i64s_take (l:List Int) (m:Nat):(i64s l).take m = i64s (l.take m):=by simp [i64s]
theorem i64s_splice (L c:List Int) (a:Nat):splice (i64s L) a (i64s c) = i64s (splice L a c):=by
 simp only [splice,i64s,List.map_append,List.map_take,List.map_drop,List.length_map]
theorem lineFwd (w:World) (g:Nat) (l:List Int) (hl:l.length = 8) (hM:Within 1099511627776 l) (hb:Blk w g 302 (i64s l).toArray) :
  Calls Tryz.prog 204 #[.pointer (some ⟨g,0,none⟩),.int .i64 8] w fun e w'=>e = .returned (.tuple #[]) ∧ Blk w' g 302 (i64s (fwd8 l)).toArray ∧ Mod (· = g) w w':=by
 have HB:=Lib.hid (Sat.own1 hb)
 clear hb
 go_enter Tryz.func204,Tryz.ntmps204
 go_wp2_with fail
 go_loopw [1] (FwRel w g l) (fun n _=>(intOf n).toNat)
 case atStart=>exact ⟨8,l,.inl ⟨rfl,rfl⟩,rfl,HB.out⟩
 case round=>
  rename World=>wr
  obtain ⟨n,l',hat,rfl,hs⟩:=hrel
  obtain ⟨hl',hw'⟩:=fwAt_facts hl hM hat
  by_cases h1:1 < n
  ·obtain ⟨m,rfl⟩:∃ m,n = 2 * m:=by
    unfold FwAt at hat
    have:n = 8 ∨ n = 4 ∨ n = 2 ∨ n = 1:=by omega
    exact ⟨n / 2,by omega⟩
   have hm4:1 ≤ m ∧ m ≤ 4:=by unfold FwAt at hat;omega
   obtain ⟨n,hn⟩:∃ n,n = 2 * m:=⟨_,rfl⟩
   have HN:=Lib.hid hn
   rw [← hn] at hat h1 ⊢
   have d1:decide (1 < (n:Int)) = true:=decide_eq_true (by omega)
   have q1:(n:Int).tdiv 2 = (m:Int):=by rw [Int.tdiv_eq_ediv_of_nonneg (by omega)];omega
   have HA:=Lib.hid (And.intro hat (And.intro hl' hw'))
   have hgl:=(hs.own_ 0 rfl).lt
   dsimp only at hgl
   have HS:=Lib.hid ((hs.alloc 300 (i64s (dnLo l' 0)).toArray rfl).alloc (g:=wr.heap.size + 1) 300 (i64s (dnHi l' 0)).toArray (by simp))
   clear hat hs hw' hl'
   go_upto_region 4 with (fail)
   change Hid (Sat (· = g) w ((wr.alloc (.cells #[.int .i64 0,.int .i64 0,.int .i64 0,.int .i64 0] 300)).alloc (.cells #[.int .i64 0,.int .i64 0,.int .i64 0,.int .i64 0] 300)) _ _) at HS
   generalize (wr.alloc (.cells #[.int .i64 0,.int .i64 0,.int .i64 0,.int .i64 0] 300)).alloc (.cells #[.int .i64 0,.int .i64 0,.int .i64 0,.int .i64 0] 300) = w1 at *
   have i1:(0:Int) ≤ (m:Int):=by omega
   have i2:(m:Int) ≤ 4:=by omega
   have i3:(n:Int) ≤ 8:=by omega
   have i4:(m:Int) ≤ (n:Int):=by omega
   have i5:(m:Int) ≤ 8:=by omega
   clear hn
   go_wp2_with fail
   go_loopw [17] (FwRel2 w g wr.heap.size (wr.heap.size + 1) m l') (fun i _=>m - (intOf i).toNat)
   case atStart=>exact ⟨0,by omega,rfl,HS.out⟩
   case round=>
    clear HS
    rename World=>w2
    obtain ⟨i,hi,rfl,hs⟩:=hrel
    by_cases hlt:i < m
    ·have hg:=hs.own_ 2 rfl
     have hlo:=hs.own_ 1 rfl
     have hhi:=hs.own_ 0 rfl
     dsimp only at hg hlo hhi
     obtain ⟨k,hk⟩:∃ k,k = 2 * i:=⟨_,rfl⟩
     have ek:(2:Int) * (i:Int) = (k:Int):=by omega
     have ek2:IntKind.i64.wrap (k:Int) = (k:Int):=IntWalk.i64_in _ ⟨by omega,by omega⟩
     have ek3:IntKind.i64.wrap ((k:Int) + 1) = (k:Int) + 1:=IntWalk.i64_in _ ⟨by omega,by omega⟩
     have j0:(0:Int) ≤ (i:Int):=by omega
     have j1:(i:Int) < 4:=by omega
     have j2:(0:Int) ≤ (k:Int):=by omega
     have j3:(k:Int) + 1 < 8:=by omega
     have j4:(k:Int) < 8:=by omega
     have c0:=hg.cell k
     have c1:=hg.cell (k + 1)
     rw [List.getElem?_toArray,getD_i64s _ _ (by have:=HA.out.2.1;omega)] at c0 c1
     have b0:=HA.out.2.2 k
     have b1:=HA.out.2.2 (k + 1)
     have HV:Hid (lowAt l' i = (l'.getD k 0 + l'.getD (k + 1) 0) / 2 ∧ highAt l' i = l'.getD k 0 - l'.getD (k + 1) 0):=by show _ ∧ _;rw [hk];exact ⟨rfl,rfl⟩
     generalize l'.getD k 0 = a at *
     generalize l'.getD (k + 1) 0 = b at *
     have cl:=hlo.cell i
     have ch:=hhi.cell i
     rw [List.getElem?_toArray,getD_i64s _ _ (by rw [dnLo_length];omega)] at cl
     rw [List.getElem?_toArray,getD_i64s _ _ (by rw [dnHi_length];omega)] at ch
     have fl:=hlo.frozen i
     have fh:=hhi.frozen i
     generalize (dnLo l' i).getD i 0 = ol at *
     generalize (dnHi l' i).getD i 0 = oh at *
     have l1:=hlo.lt
     have l2:=hhi.lt
     have HK:=Lib.hid hs
     clear hs hg hlo hhi hk
     go_wp2_with fail
     go_quiet (fail)
     have HQ:=Lib.hid (HK.out.drewN nq)
     have cl':(w2.drewN nq).cell? ⟨wr.heap.size,i,none⟩ = some (.int .i64 ol):=cl
     have ch':(w2.drewN nq).cell? ⟨wr.heap.size + 1,i,none⟩ = some (.int .i64 oh):=ch
     have fl':(w2.drewN nq).frozen? ⟨wr.heap.size,i,none⟩ = false:=fl
     have fh':(w2.drewN nq).frozen? ⟨wr.heap.size + 1,i,none⟩ = false:=fh
     have l1':wr.heap.size < (w2.drewN nq).heap.size:=l1
     have l2':wr.heap.size + 1 < (w2.drewN nq).heap.size:=l2
     clear c0 c1 cl ch fl fh HK l1 l2
     generalize w2.drewN nq = w3 at *
     go_wp2_with fail
     go_roundw
     case rel=>exact ⟨i + 1,by omega,by go_num,by
      have:=(HQ.out.put (.there (.here (set_i64s (dnLo l' i) i (lowAt l' i))))).put (.here (set_i64s (dnHi l' i) i (highAt l' i)))
      rw [HV.out.1,HV.out.2] at this
      rw [dnLo,dnHi,HV.out.1,HV.out.2]
      exact this⟩
     case measure=>simp [intOf];omega
    ·obtain rfl:i = m:=by omega
     have hg:=hs.own_ 2 rfl
     have hlo:=hs.own_ 1 rfl
     have hhi:=hs.own_ 0 rfl
     dsimp only at hg hlo hhi
     have S1:Hid (Src w2.drew 1 (some ⟨wr.heap.size,0,none⟩) i (i64s (((dnLo l' i).drop 0).take i))):=src_blk hlo.drew 0 i (by rw [dnLo_length];omega)
     have HNN:Hid (i = Nat.min i i ∧ 0 + i ≤ (i64s l').length):=⟨(Nat.min_self i).symm,by rw [i64s_length,HA.out.2.1];omega⟩
     have HK:=Lib.hid hs
     have HG:=Lib.hid hg.drew
     clear hs hg hlo hhi
     go_upto_region 11 with (fail)
     go_region_law (refine step_copy_blk rfl (.tmp 48) (.tmp 50) _ _ rfl 3 Tryz.underlying171 (by kernel_rfl) (some ⟨g,0,none⟩) i 8 (some ⟨wr.heap.size,0,none⟩) i 4 _ rfl rfl S1.out g 0 (i64s l') 302 HG.out i HNN.out.1 (fun _=>rfl) HNN.out.2 (i64s_one _) ?_;intro w3 hb3 hm3;have HW3:=Lib.hid (And.intro hb3 hm3);clear hb3 hm3)
     obtain ⟨hb3,hm3⟩:=HW3.out
     have hm3':Mod (· = g) w2 w3:=((Mod.refl _ w2).drew).trans hm3
     have HK3:=Lib.hid (Sat.turn hm3' HK.out hb3 (.there (.there .here)))
     clear hb3 hm3 hm3' HK HW3 HG S1
     have hhi:=HK3.out.own_ 0 rfl
     have hg:=HK3.out.own_ 2 rfl
     dsimp only at hhi hg
     have S2:Hid (Src w3.drew 1 (some ⟨wr.heap.size + 1,0,none⟩) i (i64s (((dnHi l' i).drop 0).take i))):=src_blk hhi.drew 0 i (by rw [dnHi_length];omega)
     have hlen:(splice (i64s l') 0 ((i64s (((dnLo l' i).drop 0).take i)).take i)).length = 8:=by
      rw [length_splice _ _ _ (by simp [i64s,dnLo_length,HA.out.2.1];omega),i64s_length,HA.out.2.1]
     have HNN2:Hid (i = Nat.min i i ∧ i + i ≤ (splice (i64s l') 0 ((i64s (((dnLo l' i).drop 0).take i)).take i)).length):=⟨(Nat.min_self i).symm,by rw [hlen];omega⟩
     have HG2:=Lib.hid hg.drew
     have e1:n - i = i:=by have:=HN.out;omega
     have e2:¬ 8 = i:=by omega
     clear hhi hg hlen
     go_upto_region 12 with (fail)
     go_region_law (refine step_copy_blk rfl (.tmp 56) (.tmp 58) _ _ rfl 3 Tryz.underlying171 (by kernel_rfl) (some ⟨g,i,none⟩) i (8 - i) (some ⟨wr.heap.size + 1,0,none⟩) i 4 _ (by simp [Act.eval,Act.put]) (by simp [Act.eval,Act.put]) S2.out g i _ 302 HG2.out i HNN2.out.1 (fun _=>rfl) HNN2.out.2 (i64s_one _) ?_;intro w4 hb4 hm4;have HW4:=Lib.hid (And.intro hb4 hm4);clear hb4 hm4)
     obtain ⟨hb4,hm4⟩:=HW4.out
     have hm4':Mod (· = g) w3 w4:=((Mod.refl _ w3).drew).trans hm4
     have hb5:Blk w4 g 302 (i64s (dnL i l')).toArray:=by
      rw [List.drop_zero,List.drop_zero,i64s_take,i64s_take,i64s_splice,i64s_splice,List.take_take,List.take_take,Nat.min_self] at hb4
      exact hb4
     have HK4:=Lib.hid ((Sat.turn hm4' HK3.out hb5 (.there (.there .here))).drop_own.drop_own)
     have hnx:=HA.out.1
     rw [HN.out] at hnx
     have HNX:=Lib.hid (fwAt_next hnx)
     clear hb4 hm4 hm4' hb5 HK3 HW4 HG2 S2 HNN2 hnx e1 e2
     go_wp2_with fail
     go_roundw
     case rel=>exact ⟨i,_,HNX.out,rfl,HK4.out⟩
     case measure=>have hn2:=HN.out;simp [intOf];omega
  ·obtain rfl:n = 1:=by unfold FwAt at hat;omega
   obtain rfl:l' = fwd8 l:=by
    unfold FwAt at hat
    rcases hat with ⟨h,_⟩ | ⟨h,_⟩ | ⟨h,_⟩ | ⟨_,h⟩
    ·omega
    ·omega
    ·omega
    ·exact h
   have HF:=Lib.hid hs
   clear hs hat hw' hl'
   go_wp2_with fail
   go_end0
   exact ⟨rfl,HF.out.own_ 0 rfl,HF.out.mod⟩
theorem doFwd (w:World) (g nb:Nat) (l:List Int) (hl:l.length = 8) (hM:Within 1099511627776 l) (hb:Blk w g 302 (i64s l).toArray) (hn:Blk w nb 3 #[.int .i64 8]) :
  Calls Tryz.prog 203 #[.pointer (some ⟨g,0,none⟩),.pointer (some ⟨nb,0,none⟩)] w fun e w'=>e = .returned (.tuple #[]) ∧ Blk w' g 302 (i64s (fwd8 l)).toArray ∧ Mod (· = g) w w':=by
 obtain ⟨hc,hf⟩:=hn.both
 have HB:=Lib.hid hb
 clear hb hn
 go_enter Tryz.func203,Tryz.ntmps203
 go_wp2_with fail
 refine (lineFwd _ g l hl hM HB.out).mono ?_
 rintro e w1 ⟨rfl,hb1,hm1⟩
 have HF:=Lib.hid (And.intro hb1 hm1)
 clear hb1 hm1
 go_wp2_with fail
 go_end0
 exact ⟨rfl,HF.out⟩
def fcolsK (L:List Int):Nat → List Int
 | 0=>L
 | x + 1=>colK x (fwd8 (colOf x (fcolsK L x))) (fcolsK L x) 8
theorem fcolsK_length (L:List Int) (x:Nat):(fcolsK L x).length = L.length:=by
 induction x with
 | zero=>rfl
 | succ x ih=>simp [fcolsK,colK_length,ih]
theorem fcolsK_getD (L:List Int) (hL:L.length = 64) (n y x:Nat) (hn:n ≤ 8) (hx:x < 8) (hy:y < 8) :
  (fcolsK L n).getD (y * 8 + x) 0 = if x < n then (fwd8 (colOf x L)).getD y 0 else L.getD (y * 8 + x) 0:=by
 induction n generalizing x y with
 | zero=>simp [fcolsK]
 | succ n ih=>
  rw [fcolsK,colK_getD n _ _ (by rw [fcolsK_length];exact hL) (by omega) 8 y x (by omega) hx hy,ih y x (by omega) hx hy]
  by_cases e:x = n
  ·subst e
   rw [if_pos ⟨rfl,hy⟩,if_pos (by omega)]
   congr 2
   unfold colOf
   apply List.map_congr_left
   intro a ha
   rw [ih a x (by omega) hx (by simpa using ha),if_neg (by omega)]
  ·rw [if_neg (fun h=>e h.1)]
   by_cases e2:x < n
   ·rw [if_pos e2,if_pos (by omega)]
   ·rw [if_neg e2,if_neg (by omega)]
theorem fcolsK_within {M:Int} {L:List Int} (hL:L.length = 64) (h:Within M L) (h0:0 ≤ M) (n:Nat) (hn:n ≤ 8):Within (8 * M) (fcolsK L n):=by
 refine within_of (by rw [fcolsK_length];exact hL) (fun y hy x hx=>?_) (by omega)
 rw [fcolsK_getD L hL n y x hn hx hy]
 split
 ·exact fwd8_within (colOf_length _ _) h0 (colOf_within h h0 x) y
 ·have:=h (y * 8 + x);omega
def fcolsRel (w:World) (r nb:Nat) (L:List Int) (tl:List Value) (v:Value) (wr:World):Prop:=
 ∃ x:Nat,x ≤ 8 ∧ v = .int .i64 (x:Int) ∧ Blk wr r 3 (i64s (fcolsK L x) ++ tl).toArray ∧ Blk wr nb 3 #[.int .i64 8] ∧ Mod (· = r) w wr
theorem liftColsF (w:World) (r nb cap:Nat) (L:List Int) (tl:List Value) (hL:L.length = 64) (hM:Within 34359738368 L) (hne:r ≠ nb) (hb:Blk w r 3 (i64s L ++ tl).toArray) (hn:Blk w nb 3 #[.int .i64 8]) :
  Calls Tryz.prog 206 #[.slice (some ⟨r,0,none⟩) 64 cap,.int .i64 8,.func (.func 203) #[] #[.pointer (some ⟨nb,0,none⟩)]] w fun e w'=>e = .returned (.tuple #[]) ∧ Blk w' r 3 (i64s (fcolsK L 8) ++ tl).toArray ∧ Blk w' nb 3 #[.int .i64 8] ∧ Mod (· = r) w w':=by
 have HB:=Lib.hid (And.intro hb hn)
 have hrl:=hb.lt
 have hnl:=hn.lt
 clear hb hn
 go_enter Tryz.func206,Tryz.ntmps206
 go_wp2_with fail
 go_loopw [11] (fcolsRel w r nb L tl) (fun x _=>8 - (intOf x).toNat)
 case atStart=>exact ⟨0,by omega,rfl,HB.out.1,HB.out.2,Mod.refl _ _⟩
 case round=>
  revert hrel
  generalize wr = wr0
  intro hrel
  obtain ⟨x,hx,rfl,hb,hn,hm⟩:=hrel
  by_cases hlt:x < 8
  ·have HW:=Lib.hid (And.intro hb (And.intro hn hm))
   have hsz:=hm.size
   clear hb hn hm
   go_upto_region 4 with (fail)
   have HI:Hid (Blk (wr0.alloc (.cells #[.int .i64 0,.int .i64 0,.int .i64 0,.int .i64 0,.int .i64 0,.int .i64 0,.int .i64 0,.int .i64 0] 302)) wr0.heap.size 302 (i64s (fillK (colOf x (fcolsK L x)) 0)).toArray ∧ Blk (wr0.alloc (.cells #[.int .i64 0,.int .i64 0,.int .i64 0,.int .i64 0,.int .i64 0,.int .i64 0,.int .i64 0,.int .i64 0] 302)) r 3 (i64s (fcolsK L x) ++ tl).toArray ∧ Blk (wr0.alloc (.cells #[.int .i64 0,.int .i64 0,.int .i64 0,.int .i64 0,.int .i64 0,.int .i64 0,.int .i64 0,.int .i64 0] 302)) nb 3 #[.int .i64 8] ∧ Mod (· = r) w (wr0.alloc (.cells #[.int .i64 0,.int .i64 0,.int .i64 0,.int .i64 0,.int .i64 0,.int .i64 0,.int .i64 0,.int .i64 0] 302))):=⟨Blk.new _ _ _,HW.out.1.alloc _,HW.out.2.1.alloc _,HW.out.2.2.alloc _⟩
   generalize wr0.alloc (.cells #[.int .i64 0,.int .i64 0,.int .i64 0,.int .i64 0,.int .i64 0,.int .i64 0,.int .i64 0,.int .i64 0] 302) = w1 at *
   have hlx:(fcolsK L x).length = 64:=by rw [fcolsK_length];exact hL
   have HWI:Hid (Within 1099511627776 (colOf x (fcolsK L x))):=fun i=>by
    have:=colOf_within (fcolsK_within hL hM (by omega) x (by omega)) (by omega) x i
    omega
   generalize hL':fcolsK L x = L' at *
   have HL':=Lib.hid hL'
   clear hL' HW
   go_wp2_with fail
   go_loopw [15] (fillRel w r nb wr0.heap.size (colOf x L') L' tl) (fun y _=>8 - (intOf y).toNat)
   case atStart=>exact ⟨0,by omega,rfl,HI.out⟩
   case round=>
    obtain ⟨y,hy,rfl,bg,br,bn,hm⟩:=hrel
    by_cases hly:y < 8
    ·have c1:=row_cell br (y * 8 + x) (by omega)
     have c2:=bg.cell y
     rw [List.getElem?_toArray,getD_i64s _ _ (by rw [fillK_length];omega)] at c2
     have c3:=bg.frozen
     generalize hv:L'.getD (y * 8 + x) 0 = v at *
     have HV:=Lib.hid hv
     have HK:=Lib.hid (And.intro bg (And.intro br (And.intro bn hm)))
     clear bg br bn hm hv
     have j1:(0:Int) ≤ (y:Int) * 8 + (x:Int):=by omega
     have j2:(y:Int) * 8 + (x:Int) < 64:=by omega
     go_wp2_with fail
     refine ⟨⟨y + 1,by omega,by go_num,?_,HK.out.2.1.far (p:=⟨wr0.heap.size,y,none⟩) (by show ¬ r = wr0.heap.size;omega) _,HK.out.2.2.1.far (p:=⟨wr0.heap.size,y,none⟩) (by show ¬ nb = wr0.heap.size;omega) _,HK.out.2.2.2.setCell (.inr hsz) _⟩,by simp [intOf];omega⟩
     have hb':=HK.out.1.set_ y (.int .i64 v)
     rw [set_i64s] at hb'
     rw [fillK,colOf_getD _ _ _ hly,HV.out]
     exact hb'
    ·obtain rfl:y = 8:=by omega
     rw [fillK_all _ (colOf_length _ _)] at bg
     have hnb2:¬ nb = wr0.heap.size:=by omega
     have hrb2:¬ r = wr0.heap.size:=by omega
     have HK:=Lib.hid (And.intro bg (And.intro br (And.intro bn hm)))
     clear bg br bn hm
     go_wp2_with fail
     refine (doFwd _ wr0.heap.size nb _ (colOf_length _ _) HWI.out HK.out.1 HK.out.2.2.1).mono ?_
     rintro e w2 ⟨rfl,hb2,hm2⟩
     have br2:=HK.out.2.1.keep hm2 hrb2
     have bn2:=HK.out.2.2.1.keep hm2 hnb2
     have hmf:=HK.out.2.2.2.then_ hm2 (fun k hk e=>by omega)
     have HK2:=Lib.hid (And.intro hb2 (And.intro br2 (And.intro bn2 hmf)))
     have hc8:(fwd8 (colOf x L')).length = 8:=by rw [fwd8_length _ (colOf_length _ _)]
     generalize hcc:fwd8 (colOf x L') = cc at *
     have HCC:=Lib.hid hcc
     clear hb2 hm2 br2 bn2 hmf HK hcc
     go_wp2_with fail
     go_loopw [32] (putRel w r nb wr0.heap.size x cc L' tl) (fun y _=>8 - (intOf y).toNat)
     case atStart=>exact ⟨0,by omega,rfl,HK2.out.1,HK2.out.2⟩
     case round=>
      obtain ⟨y,hy,rfl,bg,br,bn,hm⟩:=hrel
      by_cases hly:y < 8
      ·have hlk:(colK x cc L' y).length = 64:=by rw [colK_length];exact hlx
       have c1:=row_cell br (y * 8 + x) (by omega)
       have c2:=bg.cell y
       rw [List.getElem?_toArray,getD_i64s _ _ (by omega)] at c2
       have c3:=br.frozen
       generalize hv:cc.getD y 0 = v at *
       have HV:=Lib.hid hv
       have HK:=Lib.hid (And.intro bg (And.intro br (And.intro bn hm)))
       clear bg br bn hm hv
       have j1:(0:Int) ≤ (y:Int) * 8 + (x:Int):=by omega
       have j2:(y:Int) * 8 + (x:Int) < 64:=by omega
       go_wp2_with fail
       refine ⟨⟨y + 1,by omega,by go_num,HK.out.1.far (p:=⟨r,y * 8 + x,none⟩) (by show ¬ wr0.heap.size = r;omega) _,?_,HK.out.2.2.1.far (p:=⟨r,y * 8 + x,none⟩) (by show ¬ nb = r;omega) _,HK.out.2.2.2.setCell (.inl rfl) _⟩,by simp [intOf];omega⟩
       rw [colK,HV.out]
       exact row_set HK.out.2.1 (y * 8 + x) (by omega) v
      ·obtain rfl:y = 8:=by omega
       have HK:=Lib.hid (And.intro br (And.intro bn hm))
       clear bg br bn hm
       go_wp2_with fail
       refine ⟨⟨x + 1,by omega,by go_num,?_,HK.out.2⟩,by simp [intOf];omega⟩
       rw [fcolsK,HL'.out,HCC.out]
       exact HK.out.1
  ·obtain rfl:x = 8:=by omega
   have HF:=Lib.hid (And.intro hb (And.intro hn hm))
   clear hb hn hm
   go_wp2_with fail
   go_end0
   exact ⟨rfl,HF.out⟩
def frowsK (L:List Int):Nat → List Int
 | 0=>L
 | y + 1=>splice (frowsK L y) (y * 8) (fwd8 (rowOf y (frowsK L y)))
theorem frowsK_length (L:List Int) (hL:L.length = 64) (y:Nat) (hy:y ≤ 8):(frowsK L y).length = 64:=by
 induction y with
 | zero=>exact hL
 | succ y ih=>
  have h:=ih (by omega)
  rw [frowsK,length_splice _ _ _ (by rw [fwd8_length _ (rowOf_length y _ h (by omega))];omega),h]
theorem frowsK_getD (L:List Int) (hL:L.length = 64) (n y x:Nat) (hn:n ≤ 8) (hx:x < 8) (hy:y < 8) :
  (frowsK L n).getD (y * 8 + x) 0 = if y < n then (fwd8 (rowOf y L)).getD x 0 else L.getD (y * 8 + x) 0:=by
 induction n generalizing x y with
 | zero=>simp [frowsK]
 | succ n ih=>
  have hl:=frowsK_length L hL n (by omega)
  have h8:(fwd8 (rowOf n (frowsK L n))).length = 8:=fwd8_length _ (rowOf_length n _ hl (by omega))
  rw [frowsK,splice_getD _ _ _ (by omega),h8,ih y x (by omega) hx hy]
  by_cases e:y = n
  ·subst e
   rw [if_pos (by omega),if_pos (by omega),show y * 8 + x - y * 8 = x by omega]
   have e1:rowOf y (frowsK L y) = rowOf y L:=by
    rw [eight _ (rowOf_length y _ hl hy),eight _ (rowOf_length y L hL hy)]
    simp only [rowOf_getD _ _ _ (show 0 < 8 by omega),rowOf_getD _ _ _ (show 1 < 8 by omega),rowOf_getD _ _ _ (show 2 < 8 by omega),rowOf_getD _ _ _ (show 3 < 8 by omega),rowOf_getD _ _ _ (show 4 < 8 by omega),rowOf_getD _ _ _ (show 5 < 8 by omega),rowOf_getD _ _ _ (show 6 < 8 by omega),rowOf_getD _ _ _ (show 7 < 8 by omega)]
    have h:=fun x hx=>(ih y x (by omega) hx hy).trans (if_neg (by omega))
    rw [h 0 (by omega),h 1 (by omega),h 2 (by omega),h 3 (by omega),h 4 (by omega),h 5 (by omega),h 6 (by omega),h 7 (by omega)]
   rw [e1]
  ·rw [if_neg (by omega)]
   by_cases e2:y < n
   ·rw [if_pos e2,if_pos (by omega)]
   ·rw [if_neg e2,if_neg (by omega)]
theorem frowsK_within {M:Int} {L:List Int} (hL:L.length = 64) (h:Within M L) (h0:0 ≤ M) (n:Nat) (hn:n ≤ 8):Within (8 * M) (frowsK L n):=by
 refine within_of (frowsK_length L hL n hn) (fun y hy x hx=>?_) (by omega)
 rw [frowsK_getD L hL n y x hn hx hy]
 split
 ·exact fwd8_within (rowOf_length y L hL hy) h0 (rowOf_within h h0 y) x
 ·have:=h (y * 8 + x);omega
def frowsRel (w:World) (r nb:Nat) (L:List Int) (tl:List Value) (v:Value) (wr:World):Prop:=
 ∃ y:Nat,y ≤ 8 ∧ v = .int .i64 (y:Int) ∧ Blk wr r 3 (i64s (frowsK L y) ++ tl).toArray ∧ Blk wr nb 3 #[.int .i64 8] ∧ Mod (· = r) w wr
theorem liftRowsF (w:World) (r nb cap:Nat) (L:List Int) (tl:List Value) (hL:L.length = 64) (hcap:64 ≤ cap) (hM:Within 34359738368 L) (hne:r ≠ nb) (hb:Blk w r 3 (i64s L ++ tl).toArray) (hn:Blk w nb 3 #[.int .i64 8]) :
  Calls Tryz.prog 205 #[.slice (some ⟨r,0,none⟩) 64 cap,.int .i64 8,.func (.func 203) #[] #[.pointer (some ⟨nb,0,none⟩)]] w fun e w'=>e = .returned (.tuple #[]) ∧ Blk w' r 3 (i64s (frowsK L 8) ++ tl).toArray ∧ Blk w' nb 3 #[.int .i64 8] ∧ Mod (· = r) w w':=by
 have HB:=Lib.hid (And.intro hb hn)
 have hrl:=hb.lt
 have hnl:=hn.lt
 clear hb hn
 go_enter Tryz.func205,Tryz.ntmps205
 go_wp2_with fail
 go_loopw [9] (frowsRel w r nb L tl) (fun x _=>8 - (intOf x).toNat)
 case atStart=>exact ⟨0,by omega,rfl,HB.out.1,HB.out.2,Mod.refl _ _⟩
 case round=>
  revert hrel
  generalize wr = wr0
  intro hrel
  obtain ⟨y,hy,rfl,hb,hn,hm⟩:=hrel
  by_cases hlt:y < 8
  ·have HW:=Lib.hid (And.intro hb (And.intro hn hm))
   have hsz:=hm.size
   clear hb hn hm
   go_upto_region 4 with (fail)
   have HI:Hid (Blk (wr0.alloc (.cells #[.int .i64 0,.int .i64 0,.int .i64 0,.int .i64 0,.int .i64 0,.int .i64 0,.int .i64 0,.int .i64 0] 302)) wr0.heap.size 302 z8.toArray ∧ Blk (wr0.alloc (.cells #[.int .i64 0,.int .i64 0,.int .i64 0,.int .i64 0,.int .i64 0,.int .i64 0,.int .i64 0,.int .i64 0] 302)) r 3 (i64s (frowsK L y) ++ tl).toArray ∧ Blk (wr0.alloc (.cells #[.int .i64 0,.int .i64 0,.int .i64 0,.int .i64 0,.int .i64 0,.int .i64 0,.int .i64 0,.int .i64 0] 302)) nb 3 #[.int .i64 8] ∧ Mod (· = r) w (wr0.alloc (.cells #[.int .i64 0,.int .i64 0,.int .i64 0,.int .i64 0,.int .i64 0,.int .i64 0,.int .i64 0,.int .i64 0] 302))):=⟨Blk.new _ _ _,HW.out.1.alloc _,HW.out.2.1.alloc _,HW.out.2.2.alloc _⟩
   generalize wr0.alloc (.cells #[.int .i64 0,.int .i64 0,.int .i64 0,.int .i64 0,.int .i64 0,.int .i64 0,.int .i64 0,.int .i64 0] 302) = w1 at *
   have hlx:(frowsK L y).length = 64:=frowsK_length L hL y (by omega)
   have HWI:Hid (Within 1099511627776 (rowOf y (frowsK L y))):=fun i=>by
    have:=rowOf_within (frowsK_within hL hM (by omega) y (by omega)) (by omega) y i
    omega
   generalize hL':frowsK L y = L' at *
   have HL':=Lib.hid hL'
   clear hL' HW
   have HS:Hid (Src w1 1 (some ⟨r,y * 8,none⟩) 8 (i64s ((L'.drop (y * 8)).take 8))):=src_row HI.out.2.1 (y * 8) 8 (by omega)
   have HN:Hid (8 = Nat.min 8 8 ∧ 0 + 8 ≤ z8.length):=⟨by decide,by decide⟩
   have e1:¬ cap = y * 8:=by omega
   have e2:y * 8 + 8 - y * 8 = 8:=by omega
   have e3:(y:Int) * 8 + 8 ≤ 64:=by omega
   have e4:(y:Int) * 8 + 8 ≤ (cap:Int):=by omega
   have e5:(y:Int) * 8 ≤ (y:Int) * 8 + 8:=by omega
   have e6:(0:Int) ≤ (y:Int) * 8:=by omega
   have e7:IntKind.i64.wrap ((y:Int) * 8) = (y:Int) * 8:=by rw [IntKind.wrap_i64];omega
   have e8:IntKind.i64.wrap ((y:Int) * 8 + 8) = (y:Int) * 8 + 8:=by rw [IntKind.wrap_i64];omega
   have HT:Hid (((y:Int) * 8).toNat = y * 8 ∧ ((y:Int) * 8 + 8).toNat = y * 8 + 8):=⟨by omega,by omega⟩
   go_region_law (refine step_copy_blk rfl (.tmp 13) (.tmp 23) _ _ rfl 3 Tryz.underlying171 (by kernel_rfl) (some ⟨wr0.heap.size,0,none⟩) 8 8 (some ⟨r,y * 8,none⟩) 8 (cap - y * 8) _ (by simp [Act.eval,Act.put]) (by simp [Act.eval,Act.put,HT.out.1,HT.out.2,e1]) HS.out wr0.heap.size 0 z8 302 HI.out.1 8 HN.out.1 (fun _=>rfl) HN.out.2 (i64s_one _) ?_;intro w2 hb2 hm2;have HW2:=Lib.hid (And.intro hb2 hm2);clear hb2 hm2)
   obtain ⟨hb2,hm2⟩:=HW2.out
   have hm2':Mod (· = wr0.heap.size) w1 w2:=((Mod.refl _ w1).drew).trans hm2
   have hrb2:¬ r = wr0.heap.size:=by omega
   have hnb2:¬ nb = wr0.heap.size:=by omega
   have br2:=HI.out.2.1.keep hm2' hrb2
   have bn2:=HI.out.2.2.1.keep hm2' hnb2
   have hmf:=HI.out.2.2.2.then_ hm2' (fun k hk e=>by omega)
   have hl8:(rowOf y L').length = 8:=rowOf_length y L' hlx hlt
   have hb2':Blk w2 wr0.heap.size 302 (i64s (rowOf y L')).toArray:=by
    have e:splice z8 0 (List.take 8 (i64s (List.take 8 (List.drop (y * 8) L')))) = i64s (rowOf y L'):=by
     rw [List.take_of_length_le (by simp [i64s];omega)]
     have:(i64s (rowOf y L')).length = 8:=by rw [i64s_length,hl8]
     show List.take 0 z8 ++ (i64s (rowOf y L') ++ List.drop (0 + (i64s (rowOf y L')).length) z8) = _
     rw [this]
     simp [z8]
    rw [← e]
    exact hb2
   have HK:=Lib.hid (And.intro hb2' (And.intro br2 (And.intro bn2 hmf)))
   clear hb2 hm2 hm2' br2 bn2 hmf hb2' HW2 HI HS
   go_wp2_with fail
   refine (doFwd _ wr0.heap.size nb _ hl8 HWI.out HK.out.1 HK.out.2.2.1).mono ?_
   rintro e w3 ⟨rfl,hb3,hm3⟩
   have br3:=HK.out.2.1.keep hm3 hrb2
   have bn3:=HK.out.2.2.1.keep hm3 hnb2
   have hmf3:=HK.out.2.2.2.then_ hm3 (fun k hk e=>by omega)
   have hc8:(fwd8 (rowOf y L')).length = 8:=fwd8_length _ hl8
   generalize hcc:fwd8 (rowOf y L') = cc at *
   have HCC:=Lib.hid hcc
   have HS:Hid (Src w3 1 (some ⟨wr0.heap.size,0,none⟩) 8 (i64s ((cc.drop 0).take 8))):=src_blk hb3 0 8 (by omega)
   have HF:Hid (y * 8 + 8 ≤ (i64s L' ++ tl).length):=by show _ ≤ _;simp [i64s];omega
   have HK3:=Lib.hid (And.intro hb3 (And.intro br3 (And.intro bn3 hmf3)))
   clear hb3 hm3 br3 bn3 hmf3 HK hcc
   go_upto_region 6 with (fail)
   go_region_law (refine step_copy_blk rfl (.tmp 36) (.tmp 38) _ _ rfl 3 Tryz.underlying171 (by kernel_rfl) (some ⟨r,y * 8,none⟩) 8 (cap - y * 8) (some ⟨wr0.heap.size,0,none⟩) 8 8 _ (by simp [Act.eval,Act.put,HT.out.1,HT.out.2]) (by simp [Act.eval,Act.put]) HS.out r (y * 8) (i64s L' ++ tl) 3 HK3.out.2.1 8 HN.out.1 (fun _=>rfl) HF.out (i64s_one _) ?_;intro w4 hb4 hm4;have HW4:=Lib.hid (And.intro hb4 hm4);clear hb4 hm4)
   go_wp2_with fail
   obtain ⟨hb4,hm4⟩:=HW4.out
   have hm4':Mod (· = r) w3 w4:=((Mod.refl _ w3).drew).trans hm4
   have bn4:=HK3.out.2.2.1.keep hm4' (by omega)
   refine ⟨⟨y + 1,by omega,by go_num,?_,bn4,HK3.out.2.2.2.trans hm4'⟩,by simp [intOf];omega⟩
   rw [frowsK,HL'.out,HCC.out,← splice_row _ _ _ _ (by omega)]
   have e:List.take 8 (i64s (List.take 8 (List.drop 0 cc))) = i64s cc:=by
    rw [List.drop_zero,List.take_of_length_le (l:=cc) (by omega),List.take_of_length_le (by rw [i64s_length];omega)]
   rw [e] at hb4
   exact hb4
  ·obtain rfl:y = 8:=by omega
   have HF:=Lib.hid (And.intro hb (And.intro hn hm))
   clear hb hn hm
   go_wp2_with fail
   go_end0
   exact ⟨rfl,HF.out⟩
def fwdL (l:List Int):List Int:=fcolsK (frowsK l 8) 8
theorem fwdL_length (l:List Int) (h:l.length = 64):(fwdL l).length = 64:=by unfold fwdL;rw [fcolsK_length];exact frowsK_length _ h 8 (by omega)
theorem fwdL_within {M:Int} {l:List Int} (hl:l.length = 64) (h0:0 ≤ M) (h:Within M l):Within (64 * M) (fwdL l):=by
 have h1:=frowsK_within hl h h0 8 (by omega)
 have h2:=fcolsK_within (frowsK_length l hl 8 (by omega)) h1 (by omega) 8 (by omega)
 intro i
 have:=h2 i
 unfold fwdL
 omega
def FwdPost (w:World) (l:List Int) (e:Ending) (w':World):Prop:=
 Mod (fun _=>False) w w' ∧ ((allB 1048576 l = false ∧ e = .returned (.tuple #[.slice none 0 0,.int .i64 1])) ∨ ∃ v,allB 1048576 l = true ∧ e = .returned (.tuple #[v,.int .i64 0]) ∧ IntsOwn w' w.heap.size v (fwdL l))
theorem liftForward (w:World) (A:Option Addr) (c:Nat) (l:List Int) (hin:IntsIn w A 64 c l):Calls Tryz.prog 145 #[.slice A 64 c] w (FwdPost w l):=by
 have hl:l.length = 64:=hin.1
 have HIN:=Lib.hid hin
 clear hin
 go_enter Tryz.func145,Tryz.ntmps145
 go_wp2_with fail
 refine (liftWithin _ 1048576).mono ?_
 rintro e w1 ⟨rfl,hb1,hm1⟩
 have hw1:=hm1.size
 have HW1:=Lib.hid (And.intro hb1 hm1)
 clear hb1 hm1
 go_wp2_with fail
 refine (liftBlock _ A 64 c w.heap.size l 1048576 (HIN.out.quiet HW1.out.2) (by omega) (by omega) HW1.out.1).mono ?_
 rintro e w2 ⟨hm2,⟨h1,rfl⟩ | ⟨v,h1,rfl,h2⟩⟩
 ·have HF:=Lib.hid (And.intro h1 (HW1.out.2.trans hm2))
  clear h1 hm2
  go_wp2_with fail
  go_ret2
  exact ⟨HF.out.2.alloc _,.inl ⟨HF.out.1,rfl⟩⟩
 ·obtain ⟨r,cap,tl,rfl,hcap,hcm,hB,hcl,hbr⟩:=own_open h2 (by omega)
  have HLE:=Lib.hid hl
  rw [hl] at hcap ⊢
  clear hl
  have hrl:=hbr.lt
  have h8:((sideOf 64:Nat):Int) = 8:=rfl
  rw [h8]
  have HF:=Lib.hid (And.intro h1 (And.intro (HW1.out.2.trans hm2) hbr))
  have HC:=Lib.hid (And.intro hcm hcl)
  clear h1 hm2 hbr h2 h8 hcm hcl
  go_upto_region 2 with (fail)
  have HK:Hid (Blk (w2.alloc (.cells #[.int .i64 8] 3)) r 3 (i64s l ++ tl).toArray ∧ Blk (w2.alloc (.cells #[.int .i64 8] 3)) w2.heap.size 3 #[.int .i64 8] ∧ Mod (fun _=>False) w (w2.alloc (.cells #[.int .i64 8] 3))):=⟨HF.out.2.2.alloc _,Blk.new _ _ _,HF.out.2.1.alloc _⟩
  have hne:r ≠ w2.heap.size:=by omega
  generalize w2.heap.size = nb at *
  generalize w2.alloc (.cells #[.int .i64 8] 3) = w3 at *
  have cn:=HK.out.2.1.cell 0
  have hw67:=allB_within (by omega) HF.out.1
  have hwi:Within 34359738368 l:=fun i=>by have:=hw67 i;omega
  have hwi2:Within 34359738368 (frowsK l 8):=fun i=>by have:=frowsK_within HLE.out hw67 (by omega) 8 (by omega) i;omega
  have HWI:=Lib.hid (And.intro hwi hwi2)
  clear hwi hwi2 hw67
  go_wp2_with fail
  refine (liftRowsF _ r nb cap l tl HLE.out (by omega) HWI.out.1 hne HK.out.1 HK.out.2.1).mono ?_
  rintro e w4 ⟨rfl,hb4,hn4,hm4⟩
  have c4:=hn4.cell 0
  have HK4:=Lib.hid (And.intro hb4 (And.intro hn4 (HK.out.2.2.into hm4 (fun i e=>.inr (by omega)))))
  clear hb4 hn4 hm4 cn
  go_wp2_with fail
  refine (liftColsF _ r nb cap (frowsK l 8) tl (frowsK_length _ HLE.out 8 (by omega)) HWI.out.2 hne HK4.out.1 HK4.out.2.1).mono ?_
  rintro e w5 ⟨rfl,hb5,hn5,hm5⟩
  have HK5:=Lib.hid (And.intro hb5 (HK4.out.2.2.into hm5 (fun i e=>.inr (by omega))))
  clear hb5 hn5 hm5 c4
  go_wp2_with fail
  go_ret2
  refine ⟨HK5.out.2,.inr ⟨_,HF.out.1,rfl,?_⟩⟩
  have hbl:=fwdL_length l HLE.out
  have hll:=HLE.out
  have:=own_close (B:=w.heap.size) (cap:=cap) (l:=fwdL l) (tl:=tl) (by omega) (by omega) HC.out.1 (by have:=HC.out.2;simp only [List.length_append,i64s_length] at this ⊢;omega) HK5.out.1
  rwa [hbl] at this
end Go.Proofs.YtmkopcojnibhlaaGreatDoor

