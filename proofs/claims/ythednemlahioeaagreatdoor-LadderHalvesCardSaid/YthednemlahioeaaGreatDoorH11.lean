/-
  quant.each with quant.Value: quant.Fine.
-/
import Derived.Test.YthednemlahioeaaGreatDoorH4
import Derived.Test.YthednemlahioeaaGreatDoorH10
import Derived.Test.YthednemlahioeaaGreatDoorH2
import Derived.Test.YthednemlahioeaaGreatDoorH9
import Derived.Test.YthednemlahioeaaGreatDoorH1
import Derived.BigQuiet
namespace Go.Proofs.YthednemlahioeaaGreatDoor
open Go.RowKit
set_option maxRecDepth 100000
set_option maxHeartbeats 8000000
def fineAt (l:List Int) (q:Int) (i:Nat):Int:=l.getD i 0 * stepOf q ((i % sideOf l.length:Nat):Int) ((i / sideOf l.length:Nat):Int)
def fineL (l:List Int) (q:Int):List Int:=(List.range l.length).map (fineAt l q)
def qFine (l:List Int) (q:Int):Option (List Int):=if allB 67108864 l = true ∧ (0 ≤ q ∧ q ≤ 31) ∧ ∀ i < l.length,inB 67108864 (fineAt l q i) = true then some (fineL l q) else none
def pcL (l:List Int) (q:Int) (k:Nat):List Int:=(List.range l.length).map fun i=>if i < k then fineAt l q i else 0
theorem pcL_zero (l:List Int) (q:Int):pcL l q 0 = List.replicate l.length 0:=by
 unfold pcL
 apply List.ext_getElem
 ·simp
 ·intro i h1 h2;simp
theorem pcL_all (l:List Int) (q:Int):pcL l q l.length = fineL l q:=by
 unfold pcL fineL
 refine List.map_congr_left fun i hi=>?_
 rw [if_pos (List.mem_range.1 hi)]
theorem pcL_set (l:List Int) (q:Int) (k:Nat):(pcL l q k).set k (fineAt l q k) = pcL l q (k + 1):=by
 unfold pcL
 apply List.ext_getElem
 ·simp
 ·intro i h1 h2
  rw [List.getElem_set]
  simp only [List.getElem_map,List.getElem_range]
  by_cases e:k = i
  ·subst e;rw [if_pos rfl,if_pos (by omega)]
  ·rw [if_neg e]
   by_cases e2:i < k
   ·rw [if_pos e2,if_pos (by omega)]
   ·rw [if_neg e2,if_neg (by omega)]
theorem pcL_length (l:List Int) (q:Int) (k:Nat):(pcL l q k).length = l.length:=by simp [pcL]
theorem side_cases {n:Nat} (h:sideOf n ≠ 0):(n = 16 ∧ sideOf n = 4) ∨ (n = 64 ∧ sideOf n = 8):=by
 unfold sideOf at h ⊢
 by_cases h1:n = 16
 ·left;simp [h1]
 ·rw [if_neg h1] at h ⊢
  by_cases h2:n = 64
  ·right;simp [h2]
  ·rw [if_neg h2] at h;exact absurd rfl h
theorem allB_parts {m:Int} {l:List Int} (h:allB m l = true):sideOf l.length ≠ 0 ∧ ∀ j < l.length,inB m (l.getD j 0) = true:=by
 unfold allB at h
 rw [Bool.and_eq_true,decide_eq_true_eq,List.all_eq_true] at h
 refine ⟨h.1,fun j hj=>?_⟩
 rw [List.getD_eq_getElem?_getD,List.getElem?_eq_getElem hj]
 exact h.2 _ (List.getElem_mem hj)
def FinePost (w:World) (l:List Int) (q:Int) (e:Ending) (w':World):Prop:=
 Mod (fun _=>False) w w' ∧ ((qFine l q = none ∧ e = .returned (.tuple #[.slice none 0 0,.int .i64 1])) ∨ ∃ v,qFine l q = some (fineL l q) ∧ e = .returned (.tuple #[v,.int .i64 0]) ∧ IntsOwn w' w.heap.size v (fineL l q))
theorem made_int (n:Nat):(madeCells (Value.cells (.int .i64 0)) n).toList = i64s (List.replicate n 0):=by
 apply List.ext_getElem
 ·simp [size_madeCells,i64s]
 ·intro i h1 h2
  simp [madeCells,i64s,Value.cells,Nat.mod_one]
theorem i64s_set (l:List Int) (k:Nat) (v:Int):i64s (l.set k v) = (i64s l).set k (.int .i64 v):=by simp [i64s,List.map_set]
theorem mul_bd (v st:Int) (v1:-67108864 ≤ v) (v2:v ≤ 67108864) (s1:1 ≤ st) (s2:st ≤ 1008):-67645734912 ≤ v * st ∧ v * st ≤ 67645734912:=by
 have a:=Int.mul_le_mul_of_nonneg_right v2 (show 0 ≤ st by omega)
 have b:=Int.mul_le_mul_of_nonneg_right v1 (show 0 ≤ st by omega)
 omega
def EachRel (w4:World) (ob:Nat) (l:List Int) (q:Int) (i:Value) (wr:World):Prop:=
 ∃ k:Nat,k ≤ l.length ∧ i = .int .i64 k ∧ (∀ j < k,inB 67108864 (fineAt l q j) = true) ∧ (0 < k → 0 ≤ q ∧ q ≤ 31) ∧ Blk wr ob 3 (i64s (pcL l q k)).toArray ∧ Mod (· = ob) w4 wr
theorem quiet_step_yes (w:World) (q x y:Int) (h:stepOk q x y = true) (n:Nat):Calls Tryz.prog 287 #[.int .i64 q,.int .i64 x,.int .i64 y] (w.drewN n) fun e w'=>e = .returned (.tuple #[.int .i64 (stepOf q x y),.int .i64 0]) ∧ w' = w.drewN n:=(quantStep_yes _ q x y h).mono fun _ _ hh=>⟨hh.1,hh.2.symm⟩
theorem quiet_step_no (w:World) (q x y:Int) (h:stepOk q x y = false) (n:Nat):Calls Tryz.prog 287 #[.int .i64 q,.int .i64 x,.int .i64 y] (w.drewN n) fun e w'=>e = .returned (.tuple #[.int .i64 0,.int .i64 1]) ∧ w' = w.drewN n:=(quantStep_no _ q x y h).mono fun _ _ hh=>⟨hh.1,hh.2.symm⟩
theorem quantEach (w:World) (A:Option Addr) (n c:Nat) (l:List Int) (q:Int) (hin:IntsIn w A n c l) (hn:n ≤ 1048576) :
  Calls Tryz.prog 358 #[.slice A n c,.int .i64 q,.func (.func 405) #[] #[]] w (FinePost w l q):=by
 obtain ⟨i0,hi0,hz0,hz1,hz2⟩:=info_parts int_info
 obtain rfl:l.length = n:=hin.1
 have HIN:=Lib.hid hin
 clear hin
 go_enter Tryz.func358,Tryz.ntmps358
 go_wp2_with fail
 refine (quantWithin _ 67108864).mono ?_
 rintro e w1 ⟨rfl,hb1,m1⟩
 obtain ⟨bb,hbb⟩:∃ bb,bb = w.heap.size:=⟨_,rfl⟩
 rw [← hbb] at hb1 ⊢
 have hbw:w.heap.size ≤ bb:=by omega
 clear hbb
 go_wp2_with fail
 refine (quantAll _ A l.length c bb l 67108864 (HIN.out.quiet m1) hn (by omega) hb1).mono ?_
 rintro e w2 ⟨rfl,rfl⟩
 cases hall:allB 67108864 l with
 | false=>
  have HQ:Hid (qFine l q = none):=if_neg (fun h=>by rw [hall] at h;cases h.1)
  clear hall hb1
  go_wp2_with fail
  go_ret2
  exact ⟨m1,.inl ⟨HQ.out,rfl⟩⟩
 | true=>
  obtain ⟨hsn,hins⟩:=allB_parts hall
  have hsc:=side_cases hsn
  have HALL:=Lib.hid (And.intro hall hins)
  clear hall hins
  go_wp2_with fail
  refine (quantSide _ l.length (by omega)).mono ?_
  rintro e w3 ⟨rfl,rfl⟩
  obtain ⟨s,hs⟩:∃ s,s = sideOf l.length:=⟨_,rfl⟩
  rw [← hs] at hsn hsc ⊢
  have HS:=Lib.hid hs
  clear hs
  have hl0:16 ≤ l.length ∧ l.length ≤ 64:=by omega
  have hs8:4 ≤ s ∧ s ≤ 8:=by omega
  have hls:l.length ≤ 8 * s ∧ l.length ≤ s * s:=by rcases hsc with ⟨e1,e2⟩ | ⟨e1,e2⟩ <;> rw [e1,e2] <;> decide
  clear hsc hsn
  have x1:i0.bytes * l.length ≤ 281474976710656:=by rw [hz2];omega
  have x2:l.length ≤ maxLen:=by unfold maxLen;omega
  have HX:=Lib.hid (And.intro x1 x2)
  clear x1 x2
  go_upto_region 6 with (with_reducible refine wpList_make_full _ rfl (.tmp 24) (.tmp 24) _ rfl w1.heap.size 3 i0 (.int .i64 0) 1 Tryz.underlying63 hi0 hz0 hz1 _ _ _ _ l.length rfl rfl rfl rfl HX.out.1 HX.out.2 (Nat.le_refl _) ?_;intro w4 hown4 hg4;have HO:=Lib.hid (And.intro hown4 hg4);clear hown4 hg4)
  have m4:Mod (fun _=>False) w1 w4:=(Mod.refl _ _).grown HO.out.2 (fun k hk=>by cases hk)
  obtain ⟨hob,_⟩:=own_whole HO.out.1
  rw [Nat.mul_one,made_int,← pcL_zero l q] at hob
  obtain ⟨ob,hobe⟩:∃ ob,ob = w1.heap.size:=⟨_,rfl⟩
  rw [← hobe] at hob ⊢
  have hbl:=hb1.lt
  have hbo:¬ bb = ob:=by omega
  have how:w.heap.size ≤ ob:=by have:=m1.size;omega
  have hb4:=hb1.keep m4 (fun h=>h)
  have M4:=m1.trans m4
  have hin4:=HIN.out.quiet M4
  have hlen:=HIN.out.2.2.2 (by omega)
  clear HO m1 m4 hb1 hobe
  obtain ⟨b,off,hA,_,hc⟩:=hin4.place (by omega)
  subst hA
  have hbw2:b < w.heap.size:=hlen _ rfl
  have HC:=Lib.hid hc
  clear hc hin4 hlen
  go_wp2_with fail
  go_loopw [28] (EachRel w4 ob l q) (fun i _=>l.length - (intOf i).toNat)
  case atStart=>exact ⟨0,by omega,rfl,(fun j hj=>by omega),(fun h=>by omega),hob,Mod.refl _ _⟩
  case round=>
   clear hob
   obtain ⟨k,hk,rfl,hpre,hqk,hob,hM⟩:=hrel
   have HPRE:=Lib.hid (And.intro hpre hqk)
   clear hpre hqk
   by_cases hlt:k < l.length
   ·have hck:wr.cell? ⟨b,off + k,none⟩ = some (.int .i64 (l.getD k 0)):=(World.cell?_of_block (hM.block b (World.block_lt_of_cell? _ _ (HC.out k hlt)) (by omega))).trans (HC.out k hlt)
    have hvin:=HALL.out.2 k hlt
    have HFA:Hid (fineAt l q k = l.getD k 0 * stepOf q ((k % s:Nat):Int) ((k / s:Nat):Int)):=by show _ = _;unfold fineAt;rw [HS.out]
    generalize hvv:l.getD k 0 = v at *
    clear hvv
    unfold inB at hvin
    simp only [decide_eq_true_eq] at hvin
    obtain ⟨v1,v2⟩:=hvin
    have i1:(0:Int) ≤ (k:Int):=by omega
    have i2:(k:Int) < (l.length:Int):=by omega
    obtain ⟨kx,hkx⟩:∃ kx,kx = k % s:=⟨_,rfl⟩
    obtain ⟨ky,hky⟩:∃ ky,ky = k / s:=⟨_,rfl⟩
    have hks:kx < s:=by rw [hkx];exact Nat.mod_lt _ (by omega)
    have hkd:ky < s:=by rw [hky];exact Nat.div_lt_of_lt_mul (by omega)
    have t1:((k:Int).tmod (s:Int)) = (kx:Int):=by rw [Int.tmod_eq_emod_of_nonneg (by omega),hkx];exact (Int.natCast_emod k s).symm
    have t2:((k:Int).tdiv (s:Int)) = (ky:Int):=by rw [Int.tdiv_eq_ediv_of_nonneg (by omega),hky];exact (Int.natCast_ediv k s).symm
    have t3:((k:Int) % (s:Int)) = (kx:Int):=by rw [hkx];exact (Int.natCast_emod k s).symm
    have t4:((k:Int) / (s:Int)) = (ky:Int):=by rw [hky];exact (Int.natCast_ediv k s).symm
    have hs0:((s:Int) == 0) = false:=beq_eq_false_iff_ne.2 (by omega)
    rw [← hkx,← hky] at HFA
    have HT:=Lib.hid (And.intro t1 (And.intro t2 (And.intro t3 t4)))
    clear hkx hky t1 t2 t3 t4
    by_cases hq:0 ≤ q ∧ q ≤ 31
    ·have hok:stepOk q (kx:Int) (ky:Int) = true:=by unfold stepOk;rw [decide_eq_true_eq];omega
     go_upto_region 9 with (fail)
     obtain ⟨t1,t2,t3,t4⟩:=HT.out
     go_quiet ((go_at_call 287;exact Calls.quiet_of_same (quiet_step_yes _ q kx ky hok _)))
     clear t1 t2 t3 t4
     have hbd:=step_bd q kx ky hok
     obtain ⟨_,st1,st2,_⟩:=hbd
     obtain ⟨st,hst⟩:∃ st,st = stepOf q kx ky:=⟨_,rfl⟩
     rw [← hst] at st1 st2 HFA ⊢
     clear hst hok HT hck
     have hpb:=mul_bd v st v1 v2 st1 st2
     have hob2:=hob.drewN nq
     have hM2:=hM.drewN nq
     have hb5:=(hb4.keep hM hbo).drewN nq
     generalize wr.drewN nq = w5 at *
     clear hob hM
     go_wp2_with fail
     refine (quantValue _ v st (by omega) (by omega)).mono ?_
     rintro e w6 ⟨rfl,rfl⟩
     obtain ⟨pr,hpr⟩:∃ pr,pr = v * st:=⟨_,rfl⟩
     rw [← hpr] at hpb HFA ⊢
     clear hpr
     have hoc:w5.cell? ⟨ob,k,none⟩ = some (.int .i64 ((pcL l q k).getD k 0)):=by rw [hob2.cell k];simp [i64s,pcL_length,hlt]
     have hof:=hob2.frozen k
     have hob3:Blk (w5.setCell ⟨ob,k,none⟩ (.int .i64 pr)) ob 3 (i64s (pcL l q (k + 1))).toArray:=hob2.put (by rw [← pcL_set,HFA.out,i64s_set];simp)
     have hM3:Mod (· = ob) w4 (w5.setCell ⟨ob,k,none⟩ (.int .i64 pr)):=hM2.setCell (p:=⟨ob,k,none⟩) (.inl rfl) _
     have hb6:Blk (w5.setCell ⟨ob,k,none⟩ (.int .i64 pr)) bb 3 #[.int .i64 67108864]:=hb5.far hbo _
     have HB:=Lib.hid (And.intro hob3 (And.intro hM3 hb6))
     clear hob2 hM2 hb5 hob3 hM3 hb6
     generalize (pcL l q k).getD k 0 = old at *
     cases hv:inB 67108864 pr with
     | true=>
      go_wp2_with fail
      refine (quantIn _ bb 67108864 pr (by omega) HB.out.2.2).mono ?_
      rintro e w7 ⟨rfl,rfl⟩
      rw [hv]
      have HV:=Lib.hid hv
      clear hv hoc hof
      go_wp2_with fail
      go_roundw
      case rel=>
       refine ⟨k + 1,by omega,by go_num,fun j hj=>?_,fun _=>hq,HB.out.1,HB.out.2.1⟩
       by_cases e:j = k
       ·subst e;rw [HFA.out];exact HV.out
       ·exact HPRE.out.1 j (by omega)
      case measure=>simp [intOf];omega
     | false=>
      have HQ:Hid (qFine l q = none):=if_neg (fun h=>by have:=h.2.2 k hlt;rw [HFA.out,hv] at this;cases this)
      go_wp2_with fail
      refine (quantIn _ bb 67108864 pr (by omega) HB.out.2.2).mono ?_
      rintro e w7 ⟨rfl,rfl⟩
      rw [hv]
      clear hv hoc hof
      go_wp2_with fail
      go_ret2
      exact ⟨M4.into HB.out.2.1 (fun i e=>.inr (by omega)),.inl ⟨HQ.out,rfl⟩⟩
    ·have hok:stepOk q (kx:Int) (ky:Int) = false:=by unfold stepOk;rw [decide_eq_false_iff_not];omega
     have HQ:Hid (qFine l q = none):=if_neg (fun h=>hq h.2.1)
     go_upto_region 9 with (fail)
     obtain ⟨t1,t2,t3,t4⟩:=HT.out
     go_quiet ((go_at_call 287;exact Calls.quiet_of_same (quiet_step_no _ q kx ky hok _)))
     clear t1 t2 t3 t4
     go_wp2_with fail
     go_ret2
     exact ⟨(M4.into hM (fun i e=>.inr (by omega))).drewN _,.inl ⟨HQ.out,rfl⟩⟩
   ·obtain rfl:k = l.length:=by omega
    have HQ:Hid (qFine l q = some (fineL l q)):=if_pos ⟨HALL.out.1,HPRE.out.2 (by omega),HPRE.out.1⟩
    have HB:=Lib.hid (And.intro hob hM)
    clear hob hM
    go_wp2_with fail
    go_ret2
    refine ⟨M4.into HB.out.2 (fun i e=>.inr (by omega)),.inr ⟨_,HQ.out,rfl,?_⟩⟩
    have hob:=HB.out.1
    rw [pcL_all] at hob
    have hfl:(fineL l q).length = l.length:=by simp [fineL]
    unfold IntsOwn
    rw [hfl]
    exact ⟨by rw [i64s_length,hfl,Nat.mul_one],.inr ⟨ob,l.length,_,rfl,how,hob,Nat.le_refl _,HX.out.2,by simp [i64s_length,hfl],by rw [Nat.mul_one];exact List.take_of_length_le (by simp [i64s_length,hfl])⟩⟩
theorem quantFine (w:World) (A:Option Addr) (n c:Nat) (l:List Int) (q:Int) (hin:IntsIn w A n c l) (hn:n ≤ 1048576):Calls Tryz.prog 364 #[.slice A n c,.int .i64 q] w (FinePost w l q):=by
 go_enter Tryz.func364,Tryz.ntmps364
 go_wp2_with fail
 refine (quantEach _ A n c l q hin hn).mono ?_
 rintro e w1 ⟨hm,⟨h1,rfl⟩ | ⟨v,h1,rfl,h2⟩⟩
 ·have HQ:=Lib.hid h1
  clear h1
  go_wp2_with fail
  go_ret2
  exact ⟨hm,.inl ⟨HQ.out,rfl⟩⟩
 ·have HQ:=Lib.hid (And.intro h1 h2)
  obtain ⟨A1,c1,hv⟩:=own_shape h2
  subst hv
  clear h1 h2
  go_wp2_with fail
  go_ret2
  exact ⟨hm,.inr ⟨_,HQ.out.1,rfl,HQ.out.2⟩⟩
def backL (l:List Int):List Int:=rowsK (colsK l 8) 8
theorem backL_length (l:List Int) (h:l.length = 64):(backL l).length = 64:=rowsK_length _ (by rw [colsK_length];exact h) 8 (by omega)
theorem allB_within {m:Int} {l:List Int} (h0:0 ≤ m) (h:allB m l = true):Within m l:=by
 unfold allB at h
 rw [Bool.and_eq_true,List.all_eq_true] at h
 intro i
 by_cases hi:i < l.length
 ·have:=h.2 _ (List.getElem_mem hi)
  rw [List.getD_eq_getElem?_getD,List.getElem?_eq_getElem hi]
  unfold inB at this
  simpa using this
 ·rw [List.getD_eq_getElem?_getD,List.getElem?_eq_none (by omega)]
  show -m ≤ 0 ∧ 0 ≤ m
  omega
theorem own_open {w:World} {B:Nat} {v:Value} {l:List Int} (h:IntsOwn w B v l) (h0:0 < l.length):∃ r cap tl,v = .slice (some ⟨r,0,none⟩) l.length cap ∧ l.length ≤ cap ∧ cap ≤ maxLen ∧ B ≤ r ∧ (i64s l ++ tl).length = cap ∧ Blk w r 3 (i64s l ++ tl).toArray:=by
 rcases h.2 with ⟨_,h1⟩ | ⟨r,cap,cur,hv,hB,hg,hc,hm,hs,ht⟩
 ·omega
 ·refine ⟨r,cap,cur.toList.drop (l.length * 1),hv,by omega,hm,hB,?_,?_⟩
  ·rw [← ht,List.take_append_drop];simp;omega
  ·rw [← ht,List.take_append_drop];exact hg
theorem own_close {w:World} {B r cap:Nat} {l:List Int} {tl:List Value} (hB:B ≤ r) (hc:l.length ≤ cap) (hm:cap ≤ maxLen) (hl:(i64s l ++ tl).length = cap) (hb:Blk w r 3 (i64s l ++ tl).toArray):IntsOwn w B (.slice (some ⟨r,0,none⟩) l.length cap) l:=
 ⟨by rw [i64s_length,Nat.mul_one],.inr ⟨r,cap,_,rfl,hB,hb,hc,hm,by simp only [List.size_toArray];omega,by rw [Nat.mul_one];rw [List.take_append_of_le_length (by rw [i64s_length];omega)];exact List.take_of_length_le (by rw [i64s_length];omega)⟩⟩
def BackPost (w:World) (l:List Int) (e:Ending) (w':World):Prop:=
 Mod (fun _=>False) w w' ∧ ((allB 67108864 l = false ∧ e = .returned (.tuple #[.slice none 0 0,.int .i64 1])) ∨ ∃ v,allB 67108864 l = true ∧ e = .returned (.tuple #[v,.int .i64 0]) ∧ IntsOwn w' w.heap.size v (backL l))
theorem liftBack (w:World) (A:Option Addr) (c:Nat) (l:List Int) (hin:IntsIn w A 64 c l):Calls Tryz.prog 365 #[.slice A 64 c] w (BackPost w l):=by
 have hl:l.length = 64:=hin.1
 have HIN:=Lib.hid hin
 clear hin
 go_enter Tryz.func365,Tryz.ntmps365
 go_wp2_with fail
 refine (liftWithin _ 67108864).mono ?_
 rintro e w1 ⟨rfl,hb1,hm1⟩
 have hw1:=hm1.size
 have HW1:=Lib.hid (And.intro hb1 hm1)
 clear hb1 hm1
 go_wp2_with fail
 refine (liftBlock _ A 64 c w.heap.size l 67108864 (HIN.out.quiet HW1.out.2) (by omega) (by omega) HW1.out.1).mono ?_
 rintro e w2 ⟨hm2,⟨h1,rfl⟩ | ⟨v,h1,rfl,h2⟩⟩
 ·have HF:=Lib.hid (And.intro h1 (HW1.out.2.trans hm2))
  clear h1 hm2
  go_wp2_with fail
  go_ret2
  exact ⟨HF.out.2.alloc _,.inl ⟨HF.out.1,rfl⟩⟩
 ·obtain ⟨r,cap,tl,rfl,hcap,hcm,hB,hcl,hbr⟩:=own_open h2 (by omega)
  have HLE:=Lib.hid hl
  rw [hl] at hcap ⊢
  clear hl
  have hrl:=hbr.lt
  have h8:((sideOf 64:Nat):Int) = 8:=rfl
  rw [h8]
  have HF:=Lib.hid (And.intro h1 (And.intro (HW1.out.2.trans hm2) hbr))
  have HC:=Lib.hid (And.intro hcm hcl)
  clear h1 hm2 hbr h2 h8 hcm hcl
  go_upto_region 2 with (fail)
  have HK:Hid (Blk (w2.alloc (.cells #[.int .i64 8] 3)) r 3 (i64s l ++ tl).toArray ∧ Blk (w2.alloc (.cells #[.int .i64 8] 3)) w2.heap.size 3 #[.int .i64 8] ∧ Mod (fun _=>False) w (w2.alloc (.cells #[.int .i64 8] 3))):=⟨HF.out.2.2.alloc _,Blk.new _ _ _,HF.out.2.1.alloc _⟩
  have hne:r ≠ w2.heap.size:=by omega
  generalize w2.heap.size = nb at *
  generalize w2.alloc (.cells #[.int .i64 8] 3) = w3 at *
  have cn:=HK.out.2.1.cell 0
  have hw67:=allB_within (by omega) HF.out.1
  have hwi:Within 34359738368 l:=fun i=>by have:=hw67 i;omega
  have hwi2:Within 34359738368 (colsK l 8):=fun i=>by have:=colsK_within HLE.out hw67 (by omega) 8 (by omega) i;omega
  have HWI:=Lib.hid (And.intro hwi hwi2)
  clear hwi hwi2 hw67
  go_wp2_with fail
  refine (liftCols _ r nb cap l tl HLE.out HWI.out.1 hne HK.out.1 HK.out.2.1).mono ?_
  rintro e w4 ⟨rfl,hb4,hn4,hm4⟩
  have c4:=hn4.cell 0
  have HK4:=Lib.hid (And.intro hb4 (And.intro hn4 (HK.out.2.2.into hm4 (fun i e=>.inr (by omega)))))
  clear hb4 hn4 hm4 cn
  go_wp2_with fail
  refine (liftRows _ r nb cap (colsK l 8) tl (by rw [colsK_length];exact HLE.out) (by omega) HWI.out.2 hne HK4.out.1 HK4.out.2.1).mono ?_
  rintro e w5 ⟨rfl,hb5,hn5,hm5⟩
  have HK5:=Lib.hid (And.intro hb5 (HK4.out.2.2.into hm5 (fun i e=>.inr (by omega))))
  clear hb5 hn5 hm5 c4
  go_wp2_with fail
  go_ret2
  refine ⟨HK5.out.2,.inr ⟨_,HF.out.1,rfl,?_⟩⟩
  have hbl:=backL_length l HLE.out
  have hll:=HLE.out
  have:=own_close (B:=w.heap.size) (cap:=cap) (l:=backL l) (tl:=tl) (by omega) (by omega) HC.out.1 (by have:=HC.out.2;simp only [List.length_append,i64s_length] at this ⊢;omega) HK5.out.1
  rwa [hbl] at this
def buildL (g:List UInt8) (l:List Int) (q:Int):Option (List UInt8):=if g.length = 64 ∧ l.length = 64 then (qFine l q).map (fun v=>clipL g (backL v)) else none
theorem qFine_all {l v:List Int} {q:Int} (h:qFine l q = some v) (hl:l.length = 64):v.length = 64 ∧ allB 67108864 v = true:=by
 unfold qFine at h
 split at h
 ·rename_i hc
  injection h with h
  subst h
  have h1:(fineL l q).length = 64:=by simp [fineL,hl]
  refine ⟨h1,allB_yes (by rw [h1];decide) (fun j hj=>?_)⟩
  have:=hc.2.2 j (by omega)
  rw [h1] at hj
  have e:(fineL l q).getD j 0 = fineAt l q j:=by simp [fineL,List.getD_eq_getElem?_getD,hl,hj]
  rw [e];exact this
 ·cases h
def BuildPost (w:World) (g:List UInt8) (l:List Int) (q:Int) (e:Ending) (w':World):Prop:=
 Mod (fun _=>False) w w' ∧ ((buildL g l q = none ∧ e = .returned (.tuple #[.slice none 0 0,.int .i64 1])) ∨ ∃ v bs,buildL g l q = some bs ∧ e = .returned (.tuple #[v,.int .i64 0]) ∧ Bytes w' w.heap.size v bs)
theorem decBuild (w:World) (A:Option Addr) (n c:Nat) (g:List UInt8) (A2:Option Addr) (n2 c2:Nat) (l:List Int) (q:Int) (hg:BytesIn w A n c g) (hl:IntsIn w A2 n2 c2 l) (hn:n ≤ 1048576) (hn2:n2 ≤ 1048576) :
  Calls Tryz.prog 302 #[.slice A n c,.slice A2 n2 c2,.int .i64 q] w (BuildPost w g l q):=by
 obtain rfl:g.length = n:=hg.1
 obtain rfl:l.length = n2:=hl.1
 by_cases h1:g.length = 64
 ·by_cases h2:l.length = 64
  ·have HG:=Lib.hid hg
   have HL:=Lib.hid hl
   have HBD:Hid (buildL g l q = (qFine l q).map (fun v=>clipL g (backL v))):=if_pos ⟨h1,h2⟩
   rw [h1] at HG ⊢
   rw [h2] at HL ⊢
   clear hg hl
   have HH:=Lib.hid (And.intro h1 h2)
   clear h1 h2
   go_enter Tryz.func302,Tryz.ntmps302
   go_wp2_with fail
   refine (quantFine _ A2 64 c2 l q HL.out (by omega)).mono ?_
   rintro e w1 ⟨hm1,⟨hq,rfl⟩ | ⟨v,hq,rfl,hv⟩⟩
   ·have HQ:=Lib.hid (And.intro hq hm1)
    clear hq hm1
    go_wp2_with fail
    go_ret2
    exact ⟨HQ.out.2,.inl ⟨by rw [HBD.out,HQ.out.1];rfl,rfl⟩⟩
   ·obtain ⟨hfl,hfa⟩:=qFine_all hq HH.out.2
    obtain ⟨A3,c3,hv3⟩:=own_shape hv
    subst hv3
    rw [hfl]
    have hin3:=hv.in_
    rw [hfl] at hin3
    have HV:=Lib.hid (And.intro hq (And.intro hm1 (And.intro hin3 hfa)))
    clear hq hm1 hv hin3 hfa
    go_wp2_with fail
    refine (liftBack _ A3 c3 _ HV.out.2.2.1).mono ?_
    rintro e w2 ⟨hm2,⟨h1,rfl⟩ | ⟨v2,h1,rfl,h2⟩⟩
    ·exact absurd h1 (by rw [HV.out.2.2.2];decide)
    ·have hbl:=backL_length _ hfl
     obtain ⟨A4,c4,hv4⟩:=own_shape h2
     subst hv4
     rw [hbl]
     have hin4:=h2.in_
     rw [hbl] at hin4
     have HV2:=Lib.hid (And.intro hin4 (HV.out.2.1.trans hm2))
     clear h1 h2 hin4 hm2
     go_wp2_with fail
     refine (clipAll _ A 64 c g A4 c4 _ (HG.out.quiet HV2.out.2) HV2.out.1 (by omega) (by omega)).mono ?_
     rintro e w3 ⟨v3,rfl,hb3,hm3⟩
     obtain ⟨A5,c5,hv5⟩:=own_shape hb3
     subst hv5
     have HV3:=Lib.hid (And.intro hb3 (HV2.out.2.trans hm3))
     have hsz:=HV2.out.2.size
     clear hb3 hm3
     go_wp2_with fail
     go_ret2
     exact ⟨HV3.out.2,.inr ⟨_,_,by rw [HBD.out,HV.out.1];rfl,rfl,own_base HV3.out.1 hsz⟩⟩
  ·have hz:((l.length:Int) != 64) = true:=by simp;omega
   have HBD:Hid (buildL g l q = none):=if_neg (fun h=>h2 h.2)
   rw [h1]
   clear hg hl h1
   go_enter Tryz.func302,Tryz.ntmps302
   go_wp2_with fail
   go_ret2
   exact ⟨Mod.refl _ _,.inl ⟨HBD.out,rfl⟩⟩
 ·have hz:((g.length:Int) != 64) = true:=by simp;omega
  have HBD:Hid (buildL g l q = none):=if_neg (fun h=>h1 h.1)
  clear hg hl
  go_enter Tryz.func302,Tryz.ntmps302
  go_wp2_with fail
  go_ret2
  exact ⟨Mod.refl _ _,.inl ⟨HBD.out,rfl⟩⟩
def layTo (W x y:Nat) (l pix:List UInt8):Nat → List UInt8
 | 0=>pix
 | j + 1=>splice (layTo W x y l pix j) ((y + j) * W + x) ((l.drop (j * 8)).take 8)
theorem lay_in {W H x y j:Nat} (hx:x + 8 ≤ W) (hy:y + 8 ≤ H) (hj:j < 8):(y + j) * W + x + 8 ≤ W * H:=by
 have h1:(y + j + 1) * W ≤ H * W:=Nat.mul_le_mul_right W (by omega)
 rw [Nat.add_mul,Nat.one_mul,Nat.mul_comm H W] at h1
 omega
theorem lay_row {l:List UInt8} (hl:l.length = 64) {j:Nat} (hj:j < 8):((l.drop (j * 8)).take 8).length = 8:=by simp;omega
theorem layTo_length {W H x y:Nat} {l pix:List UInt8} (hx:x + 8 ≤ W) (hy:y + 8 ≤ H) (hp:pix.length = W * H) (hl:l.length = 64):∀ j,j ≤ 8 → (layTo W x y l pix j).length = W * H:=by
 intro j
 induction j with
 | zero=>intro _;exact hp
 | succ j ih=>
  intro h
  show (splice _ _ _).length = _
  rw [length_splice _ _ _ (by rw [lay_row hl (by omega),ih (by omega)];exact lay_in hx hy (by omega)),ih (by omega)]
theorem u8s_splice (L c:List UInt8) (a:Nat):splice (u8s L) a (u8s c) = u8s (splice L a c):=by
 simp only [splice,u8s,List.map_append,List.map_take,List.map_drop,List.length_map]
theorem intsIn_blk {w:World} {g:Nat} {l:List Int} (hb:Blk w g 3 (i64s l).toArray) (hl:l.length = 64):IntsIn w (some ⟨g,0,none⟩) 64 64 l:=
 ⟨hl,(fun h=>by cases h),by have:=src_blk hb 0 64 (by omega);rwa [List.drop_zero,List.take_of_length_le (by omega)] at this,fun _ ad e=>by injection e with e;subst e;exact hb.lt⟩
theorem buildL_length {a bs:List UInt8} {b:List Int} {q:Int} (h:buildL a b q = some bs):bs.length = a.length:=by
 unfold buildL at h
 split at h
 ·simp only [Option.map_eq_some_iff] at h
  obtain ⟨v,_,rfl⟩:=h
  exact cpL_length _ _ _
 ·cases h
def hdrFits (K:Bool) (N Q W H G:Int):Bool:=seqRight W H G && decide (0 ≤ Q ∧ Q ≤ 31 ∧ 0 ≤ N ∧ N < G) && (K == (N == 0))
theorem synFits_yes (w:World) (K:Bool) (N Q W H G:Int) (h:hdrFits K N Q W H G = true):Calls Tryz.prog 210 #[.agg #[.bool K,.int .i64 N,.int .i64 Q],.agg #[.int .i64 W,.int .i64 H,.int .i64 G]] w fun e w'=>e = .returned (.bool true) ∧ Mod (fun _=>False) w w':=by
 unfold hdrFits at h
 simp only [Bool.and_eq_true,decide_eq_true_eq] at h
 obtain ⟨⟨hr,a1,a2,a3,a4⟩,hk⟩:=h
 have hb2:Blk (w.alloc (.cells #[.bool K,.int .i64 N,.int .i64 Q] 195)) w.heap.size 195 #[.bool K,.int .i64 N,.int .i64 Q]:=Blk.new _ _ _
 have hb3:Blk ((w.alloc (.cells #[.bool K,.int .i64 N,.int .i64 Q] 195)).alloc (.cells #[.int .i64 W,.int .i64 H,.int .i64 G] 40)) (w.alloc (.cells #[.bool K,.int .i64 N,.int .i64 Q] 195)).heap.size 40 #[.int .i64 W,.int .i64 H,.int .i64 G]:=Blk.new _ _ _
 replace hb2:=hb2.alloc (.cells #[.int .i64 W,.int .i64 H,.int .i64 G] 40)
 have M:Mod (fun _=>False) w ((w.alloc (.cells #[.bool K,.int .i64 N,.int .i64 Q] 195)).alloc (.cells #[.int .i64 W,.int .i64 H,.int .i64 G] 40)):=((Mod.refl _ _).alloc _).alloc _
 have e1:(w.alloc (.cells #[.bool K,.int .i64 N,.int .i64 Q] 195)).heap.size = w.heap.size + 1:=by simp
 rw [e1] at hb3
 clear e1
 go_enter Tryz.func210,Tryz.ntmps210
 go_wp2_with fail
 generalize (w.alloc (.cells #[.bool K,.int .i64 N,.int .i64 Q] 195)).alloc (.cells #[.int .i64 W,.int .i64 H,.int .i64 G] 40) = w1 at *
 refine (synRight_yes _ W H G hr).mono ?_
 rintro e w2 ⟨rfl,m2⟩
 have M2:=M.trans m2
 obtain ⟨hc2,hf2⟩:=(hb2.keep m2 (fun h=>h)).both
 obtain ⟨hc3,hf3⟩:=(hb3.keep m2 (fun h=>h)).both
 clear hb2 hb3 M m2 hr
 go_wp2_with fail
 go_ret
 exact ⟨by simp,M2⟩
def noFrame:List Value:=[.int .i64 0,.int .i64 0,.slice none 0 0,.int .i64 0,.int .i64 0,.slice none 0 0,.int .i64 0,.int .i64 0,.slice none 0 0]
def Pix.get (f:Pix) (pl:Nat):List UInt8:=if pl = 0 then f.Y else if pl = 1 then f.U else f.V
def Pix.set (f:Pix) (pl:Nat) (l:List UInt8):Pix:=if pl = 0 then ⟨l,f.U,f.V⟩ else if pl = 1 then ⟨f.Y,l,f.V⟩ else ⟨f.Y,f.U,l⟩
def Dim.wOf (d:Dim) (pl:Nat):Nat:=if pl = 0 then d.W else d.W2
def Dim.hOf (d:Dim) (pl:Nat):Nat:=if pl = 0 then d.H else d.H2
def pcP (i:Nat):Nat:=if i < 4 then 0 else i - 3
def pcX (x i:Nat):Nat:=if 4 ≤ i then x / 2 else if i % 2 = 1 then x + 8 else x
def pcY (y i:Nat):Nat:=if 4 ≤ i then y / 2 else if 2 ≤ i then y + 8 else y
theorem pc_in {d:Dim} (hd:d.Ok) {x y i:Nat} (hi:i < 6) (hx:x + 16 ≤ d.W) (hy:y + 16 ≤ d.H):pcP i < 3 ∧ pcX x i + 8 ≤ d.wOf (pcP i) ∧ pcY y i + 8 ≤ d.hOf (pcP i):=by
 have:=hd.w2
 have:=hd.h2
 have h6:i = 0 ∨ i = 1 ∨ i = 2 ∨ i = 3 ∨ i = 4 ∨ i = 5:=by omega
 rcases h6 with rfl | rfl | rfl | rfl | rfl | rfl <;> simp [pcP,pcX,pcY,Dim.wOf,Dim.hOf] <;> omega
def encV (W H G q tg nu:Int) (fr:List Value):Array Value:=(.int .i64 W :: .int .i64 H :: .int .i64 G :: .int .i64 q :: .int .i64 tg :: .int .i64 nu :: fr).toArray
theorem encEnd (w:World) (g:Nat) (W H G q tg nu:Int) (fr:List Value) (h:Blk w g 250 (encV W H G q tg nu fr)):Calls Tryz.prog 98 #[.pointer (some ⟨g,0,none⟩)] w fun e w'=>e = .returned (.tuple #[]) ∧ Blk w' g 250 (encV W H G q tg 0 fr) ∧ Mod (· = g) w w':=by
 have c:w.cell? ⟨g,5,none⟩ = some (.int .i64 nu):=h.cell 5
 have f:=h.frozen 5
 have l:=h.lt
 have H1:=Lib.hid h
 clear h
 go_enter Tryz.func98,Tryz.ntmps98
 go_wp2_with fail
 go_end0
 exact ⟨rfl,H1.out.put (i:=5) (u:=.int .i64 0) rfl,(Mod.refl (fun j=>j = g) w).setCell (p:=⟨g,5,none⟩) (.inl rfl) _⟩
theorem tup3 {a b c a' b' c':Int} (h1:a = a') (h2:b = b') (h3:c = c'):Ending.returned (.tuple #[.int .i64 a,.int .i64 b,.int .i64 c]) = Ending.returned (.tuple #[.int .i64 a',.int .i64 b',.int .i64 c']):=by rw [h1,h2,h3]
def placesV:Array Value:=#[.int .i64 0,.int .i64 0,.int .i64 0,.int .i64 0,.int .i64 8,.int .i64 0,.int .i64 0,.int .i64 0,.int .i64 8,.int .i64 0,.int .i64 8,.int .i64 8,.int .i64 1,.int .i64 0,.int .i64 0,.int .i64 2,.int .i64 0,.int .i64 0]
structure EnvP (w:World):Prop where
 cells:∀ i,i < 18 → w.cell? ⟨5,i,none⟩ = placesV[i]?
 lt:5 < w.heap.size
theorem EnvP.keep {S:Nat → Prop} {w w':World} (h:EnvP w) (hm:Mod S w w') (h0:¬ S 5):EnvP w':=
 ⟨fun i hi=>(World.cell?_of_block (hm.block 5 h.lt h0)).trans (h.cells i hi),Nat.lt_of_lt_of_le h.lt hm.size⟩
theorem EnvP.quiet {w w':World} (h:EnvP w) (hm:Mod (fun _=>False) w w'):EnvP w':=h.keep hm (fun h=>h)
theorem eSpot (w:World) (he:EnvP w) (i sx sy:Nat) (hi:i < 6) (hx:sx ≤ 256) (hy:sy ≤ 256) :
  Calls Tryz.prog 284 #[.int .i64 (i:Int),.int .i64 (sx:Int),.int .i64 (sy:Int)] w fun e w'=>e = .returned (.tuple #[.int .i64 (pcP i:Int),.int .i64 (pcX (16 * sx) i:Int),.int .i64 (pcY (16 * sy) i:Int)]) ∧ Mod (fun _=>False) w w':=by
 have hc:=he.cells
 clear he
 have h6:i = 0 ∨ i = 1 ∨ i = 2 ∨ i = 3 ∨ i = 4 ∨ i = 5:=by omega
 rcases h6 with rfl | rfl | rfl | rfl | rfl | rfl
 all_goals
  have c0:=hc 0 (by omega)
  have c1:=hc 1 (by omega)
  have c2:=hc 2 (by omega)
  have c3:=hc 3 (by omega)
  have c4:=hc 4 (by omega)
  have c5:=hc 5 (by omega)
  have c6:=hc 6 (by omega)
  have c7:=hc 7 (by omega)
  have c8:=hc 8 (by omega)
  have c9:=hc 9 (by omega)
  have c10:=hc 10 (by omega)
  have c11:=hc 11 (by omega)
  have c12:=hc 12 (by omega)
  have c13:=hc 13 (by omega)
  have c14:=hc 14 (by omega)
  have c15:=hc 15 (by omega)
  have c16:=hc 16 (by omega)
  have c17:=hc 17 (by omega)
  simp only [placesV] at c0 c1 c2 c3 c4 c5 c6 c7 c8 c9 c10 c11 c12 c13 c14 c15 c16 c17
  clear hc
  go_enter Tryz.func284,Tryz.ntmps284
  go_upto_region 4 with (fail)
  clear c0 c1 c2 c3 c4 c5 c6 c7 c8 c9 c10 c11 c12 c13 c14 c15 c16 c17
  go_quiet (fail)
  go_wp2_with fail
  go_ret3
  refine ⟨tup3 ?_ ?_ ?_,((Mod.refl _ _).alloc _).drewN _⟩ <;> simp only [pcP,pcX,pcY] <;> (try simp) <;> (try omega)
end Go.Proofs.YthednemlahioeaaGreatDoor

