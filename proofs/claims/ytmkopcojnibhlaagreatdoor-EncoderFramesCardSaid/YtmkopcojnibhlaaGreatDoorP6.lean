/-
  intra.Guess.
-/
import Derived.Test.YtmkopcojnibhlaaGreatDoorP5
import Derived.Test.YtmkopcojnibhlaaGreatDoorP1
import Derived.Test.YtmkopcojnibhlaaGreatDoorP3
import Derived.Test.YtmkopcojnibhlaaGreatDoorP2
import Derived.Laws.EntriesVeiled
namespace Go.Proofs.YtmkopcojnibhlaaGreatDoor
open Go.RowKit
set_option maxRecDepth 100000
set_option maxHeartbeats 8000000
theorem iModes (w:World):Calls Tryz.prog 199 #[] w fun e w'=>e = .returned (.agg #[.func (.func 243) #[] #[],.func (.func 244) #[] #[],.func (.func 245) #[] #[],.func (.func 246) #[] #[]]) ∧ Mod (fun _=>False) w w':=by
 go_enter Tryz.func199,Tryz.ntmps199
 go_wp2_with fail
 refine bodyPost_ret (v:=.agg #[.func (.func 243) #[] #[],.func (.func 244) #[] #[],.func (.func 245) #[] #[],.func (.func 246) #[] #[]]) (by simp [results,Tryz.results199,go_sem]) rfl ⟨rfl,?_⟩
 exact (Mod.refl _ _).alloc _
def gsN (m:Nat) (ab lf:List UInt8) (co:UInt8) (i j:Nat):Nat:=
 if m = 0 then flatN ab lf else if m = 1 then (ab.getD i 0).toNat else if m = 2 then (lf.getD j 0).toNat else slopeN ab lf co i j
theorem gsN_lt (m:Nat) (ab lf:List UInt8) (co:UInt8) (i j:Nat):gsN m ab lf co i j < 256:=by
 unfold gsN
 split
 ·have:=flS_le ab lf 8
  unfold flatN
  omega
 ·split
  ·exact UInt8.toNat_lt _
  ·split
   ·exact UInt8.toNat_lt _
   ·exact clipN_lt _
def guessF (W:Nat) (pix:List UInt8) (x y m k:Nat):UInt8:=UInt8.ofNat (gsN m (lkAb W pix x y) (lkLf W pix x y) (lkCo W pix x y) (k % 8) (k / 8))
def guessL (W:Nat) (pix:List UInt8) (x y m:Nat):List UInt8:=(List.range 64).map (guessF W pix x y m)
theorem guessF_n (W:Nat) (pix:List UInt8) (x y m k:Nat):(guessF W pix x y m k).toNat = gsN m (lkAb W pix x y) (lkLf W pix x y) (lkCo W pix x y) (k % 8) (k / 8):=by
 unfold guessF
 rw [UInt8.toNat_ofNat']
 exact Nat.mod_eq_of_lt (gsN_lt _ _ _ _ _ _)
def fnOf (m:Nat):Nat:=if m = 0 then 243 else if m = 1 then 244 else if m = 2 then 245 else 246
theorem iMode (w:World) (m:Nat) (hm:m < 4) (ab lf:List UInt8) (co:UInt8) (h1:ab.length = 8) (h2:lf.length = 8) (i j:Nat) (hi:i < 8) (hj:j < 8) :
  Calls Tryz.prog (fnOf m) #[.agg (arV ab lf co),.int .i64 (i:Int),.int .i64 (j:Int)] w fun e w'=>e = .returned (.int .u8 ((gsN m ab lf co i j:Nat):Int)) ∧ Mod (fun _=>False) w w':=by
 have hc:m = 0 ∨ m = 1 ∨ m = 2 ∨ m = 3:=by omega
 rcases hc with rfl | rfl | rfl | rfl
 ·exact iFlat w ab lf co h1 h2 _ _
 ·exact iDown w ab lf co h1 i _ hi
 ·exact iAcross w ab lf co h1 h2 _ j hj
 ·exact iSlope w ab lf co h1 h2 i j hi hj
theorem run_fnOf (m:Nat) (hm:m < 4) (args:Array Value) (w:World):(callFunc (fnOf m) args).run Tryz.prog w = .ok (.enter (fnOf m) args) w:=by
 have hc:m = 0 ∨ m = 1 ∨ m = 2 ∨ m = 3:=by omega
 rcases hc with rfl | rfl | rfl | rfl
 ·exact (show (callFunc 243 args).run Tryz.prog w = .ok (.enter 243 args) w by go_simp)
 ·exact (show (callFunc 244 args).run Tryz.prog w = .ok (.enter 244 args) w by go_simp)
 ·exact (show (callFunc 245 args).run Tryz.prog w = .ok (.enter 245 args) w by go_simp)
 ·exact (show (callFunc 246 args).run Tryz.prog w = .ok (.enter 246 args) w by go_simp)
def GsRel (w:World) (q a l p:Nat) (lv av pv:Array Value) (f:Nat → UInt8) (s69:Value) (wr:World):Prop:=
 ∃ k:Nat,k ≤ 64 ∧ s69 = .int .i64 (k:Int) ∧ Sat (fun _=>False) w wr [⟨q,5,(u8s (fillL f 64 k)).toArray⟩,⟨a,298,av⟩,⟨l,276,lv⟩,⟨p,38,pv⟩] []
theorem iGuess (w:World) (W H:Nat) (A:Option Addr) (n c:Nat) (pix:List UInt8) (h:sidesB W H = true) (hn:n = W * H) (hin:BytesIn w A n c pix) (hnc:n ≤ c) (x y m:Nat) (hx:x + 8 ≤ W) (hy:y + 8 ≤ H) (hm:m < 4) :
  Calls Tryz.prog 200 #[.agg #[.int .i64 (W:Int),.int .i64 (H:Int),.slice A n c],.int .i64 (x:Int),.int .i64 (y:Int),.int .i64 8,.int .i64 (m:Int)] w
   fun e w'=>∃ g,e = .returned (.tuple #[.slice (some ⟨g,0,none⟩) 64 64,.int .i64 0]) ∧ Blk w' g 5 (u8s (guessL W pix x y m)).toArray ∧ w.heap.size ≤ g ∧ Mod (fun _=>False) w w':=by
 obtain ⟨_,hW1,hW2,hH1,hH2,_⟩:=area_le h
 have HI:=Lib.hid (And.intro h (And.intro hin (And.intro hn hnc)))
 clear h hin hn hnc
 have t1:decide ((x:Int) < 0) = false:=decide_eq_false (by omega)
 have t2:decide ((W:Int) - 8 < (x:Int)) = false:=decide_eq_false (by omega)
 have t3:decide ((y:Int) < 0) = false:=decide_eq_false (by omega)
 have t4:decide ((H:Int) - 8 < (y:Int)) = false:=decide_eq_false (by omega)
 have t5:decide ((m:Int) < 0) = false:=decide_eq_false (by omega)
 have t6:decide (4 ≤ (m:Int)) = false:=decide_eq_false (by omega)
 have h0:=(Sat.nil (fun _=>False) w).alloc 38 #[.int .i64 (W:Int),.int .i64 (H:Int),.slice A n c] rfl
 have H0:=Lib.hid h0
 clear h0
 go_enter Tryz.func200,Tryz.ntmps200
 go_wp2_with fail
 refine (pRight' _ W H A n c HI.out.1 HI.out.2.2.1).mono ?_
 rintro e w1 ⟨rfl,hm1⟩
 have HS:=Lib.hid (Sat.after hm1 H0.out)
 clear hm1 H0
 go_wp2_with fail
 refine (iModes _).mono ?_
 rintro e w2 ⟨rfl,hm2⟩
 have HS2:=(HS.out.quiet hm2).alloc 276 #[.func (.func 243) #[] #[],.func (.func 244) #[] #[],.func (.func 245) #[] #[],.func (.func 246) #[] #[]] rfl
 obtain ⟨pc,pf⟩:=(HS2.own_ 1 rfl).both
 have H2:=Lib.hid HS2
 have pl:w.heap.size < w2.heap.size:=((HS.out.quiet hm2).own_ 0 rfl).lt
 clear hm2 HS HS2
 go_wp2_with fail
 refine (iLook _ W H A n c pix HI.out.1 HI.out.2.2.1 (HI.out.2.1.quiet H2.out.mod) HI.out.2.2.2 x y hx hy).mono ?_
 rintro e w3 ⟨rfl,hm3⟩
 have HS3:=(H2.out.quiet hm3).alloc 298 #[.int .i64 0,.int .u8 0,.int .u8 0,.int .u8 0,.int .u8 0,.int .u8 0,.int .u8 0,.int .u8 0,.int .u8 0,.int .u8 0,.int .u8 0,.int .u8 0,.int .u8 0,.int .u8 0,.int .u8 0,.int .u8 0,.int .u8 0,.int .u8 0] rfl
 have H3:=Lib.hid HS3
 clear hm3 HS3 pc pf pl H2
 go_upto_region 7 with (refine wpList_store_part rfl 298 (.tmp 13) (.tmp 62) rfl w3.heap.size 0 (arL (lkAb W pix x y) (lkLf W pix x y) (lkCo W pix x y)) rfl rfl 298 [.int .i64 0,.int .u8 0,.int .u8 0,.int .u8 0,.int .u8 0,.int .u8 0,.int .u8 0,.int .u8 0,.int .u8 0,.int .u8 0,.int .u8 0,.int .u8 0,.int .u8 0,.int .u8 0,.int .u8 0,.int .u8 0,.int .u8 0,.int .u8 0] (Blk.new _ _ _) (by kernel_rfl) (by simp [arL,u8s,lkAb,lkLf]) (arL_one _ _ _) ?_;intro w4 hb4 hm4;have HB4:=Lib.hid (And.intro hb4 hm4);clear hb4 hm4)
 have hb4:=HB4.out.1
 rw [splice_all (by simp [arL,u8s,lkAb,lkLf])] at hb4
 have HS4:=Sat.turn HB4.out.2 H3.out hb4 .here
 have H4:=Lib.hid HS4
 clear hb4 HS4 HB4 H3
 go_upto_region 8 with (refine wpList_mk_u8 _ rfl (.tmp 65) (.tmp 65) rfl 64 rfl rfl (by omega) ?_;intro w5 hb5 hm5;have HB5:=Lib.hid (And.intro hb5 hm5);clear hb5 hm5)
 have HS5:=Sat.grew HB5.out.2 H4.out HB5.out.1 (Nat.le_refl _)
 rw [madeFill (guessF W pix x y m)] at HS5
 obtain ⟨q,hq⟩:∃ q,q = w4.heap.size:=⟨_,rfl⟩
 obtain ⟨a,ha⟩:∃ a,a = w3.heap.size:=⟨_,rfl⟩
 obtain ⟨l,hl⟩:∃ l,l = w2.heap.size:=⟨_,rfl⟩
 rw [← hq,← ha,← hl] at HS5
 rw [← hq,← ha,← hl]
 have H5:=Lib.hid HS5
 clear hq ha hl HS5 HB5 H4
 go_wp2_with fail
 go_loopw [69] (GsRel w q a l w.heap.size #[.func (.func 243) #[] #[],.func (.func 244) #[] #[],.func (.func 245) #[] #[],.func (.func 246) #[] #[]] (arV (lkAb W pix x y) (lkLf W pix x y) (lkCo W pix x y)) #[.int .i64 (W:Int),.int .i64 (H:Int),.slice A n c] (guessF W pix x y m)) (fun s _=>64 - (intOf s).toNat)
 case atStart=>exact ⟨0,by omega,rfl,H5.out⟩
 case round=>
  clear H5
  obtain ⟨k,hk,rfl,HS⟩:=hrel
  by_cases hlt:k < 64
  ·have d1:decide ((k:Int) < 64) = true:=decide_eq_true (by omega)
   have lf0:wr.cell? ⟨l,m,none⟩ = some (.func (.func (fnOf m)) #[] #[]):=by
    have h:=(HS.own_ 2 rfl).cell m
    dsimp only at h
    rw [h]
    have hc:m = 0 ∨ m = 1 ∨ m = 2 ∨ m = 3:=by omega
    rcases hc with rfl | rfl | rfl | rfl <;> rfl
   have q0:=fill_cell (HS.own_ 0 rfl) hlt
   have p0:(0:Int) ≤ (m:Int):=by omega
   have p1:(m:Int) < 4:=by omega
   have p2:(0:Int) ≤ (k:Int):=by omega
   have p3:(k:Int) < 64:=by omega
   have e1:IntKind.i64.wrap ((k:Int) / 8) = ((k / 8:Nat):Int):=by rw [IntWalk.i64_in _ ⟨by omega,by omega⟩];omega
   have e2:(k:Int).tmod 8 = ((k % 8:Nat):Int):=by rw [Int.tmod_eq_emod_of_nonneg (by omega)];omega
   have HK:=Lib.hid (And.intro HS (And.intro e1 e2))
   clear HS q0 e1 e2
   go_upto_region 11 with (fail)
   refine wp_region_plan [12,14] [0,1] [2,3,4,5,6,7,8,9,10,11,0,1,12,13,14] (by kernel_rfl) (by kernel_rfl) (fun _ _ _ d _ h=>by cases d <;> exact h) ?_
   iterate 3 (refine plan_still rfl rfl (fun K hK=>?_);go_simp;refine hK _ ?_;clear hK K)
   refine plan_row rfl rfl rfl 298 (.tmp 13) rfl a rfl 298 _ _ (HK.out.1.drew.own_ 1 rfl) Tryz.underlying298 rfl (by kernel_rfl) ?_
   iterate 6 (refine plan_still rfl rfl (fun K hK=>?_);go_simp;refine hK _ ?_;clear hK K)
   iterate 2 (refine plan_pure rfl rfl rfl (fun _=>rfl) ?_)
   refine plan_loud rfl rfl (fun K hK=>?_)
   have hcf:=run_fnOf m hm
   have e1:=HK.out.2.1
   have e2:=HK.out.2.2
   go_simp
   clear hcf e1 e2
   refine (iMode _ m hm _ _ _ (lkAb_length _ _ _ _) (lkLf_length _ _ _ _) (k % 8) (k / 8) (by omega) (by omega)).mono ?_
   rintro e w6 ⟨rfl,hm6⟩
   have HS6:=HK.out.1.drew.quiet hm6
   have q0:=fill_cell (HS6.own_ 0 rfl) hlt
   have qf:=(HS6.own_ 0 rfl).frozen
   have ql:=(HS6.own_ 0 rfl).lt
   rw [← guessF_n]
   have H6:=Lib.hid HS6
   clear HS6 hm6
   dsimp only []
   refine hK _ _ ?_
   clear hK K
   refine plan_still rfl rfl (fun K hK=>?_);go_simp;refine hK _ ?_;clear hK K
   refine plan_loud rfl rfl (fun K hK=>?_);go_simp;refine hK _ _ ?_;clear hK K
   refine plan_done ?_
   go_wp2_with fail
   go_roundw
   case rel=>exact ⟨k + 1,by omega,by go_num,H6.out.put (.here (fill_set _ 64 k))⟩
   case measure=>simp [intOf];omega
  ·obtain rfl:k = 64:=by omega
   have HK:=Lib.hid HS
   clear HS
   go_wp2_with fail
   go_ret2
   have hb:=HK.out.own_ 0 rfl
   dsimp only at hb
   rw [fillL_all] at hb
   exact ⟨q,rfl,hb,HK.out.low 0 rfl,HK.out.mod⟩
theorem mChroma (w:World) (vx vy:Int) (hx:-1048576 ≤ vx ∧ vx ≤ 1048576) (hy:-1048576 ≤ vy ∧ vy ≤ 1048576):Calls Tryz.prog 141 #[.agg #[.int .i64 vx,.int .i64 vy]] w fun e w'=>e = .returned (.agg #[.int .i64 (vx / 2),.int .i64 (vy / 2)]) ∧ Mod (fun _=>False) w w':=by
 obtain ⟨hx1,hx2⟩:=hx
 obtain ⟨hy1,hy2⟩:=hy
 go_enter Tryz.func141,Tryz.ntmps141
 go_wp2_with fail
 refine bodyPost_ret (v:=.agg #[.int .i64 (vx / 2),.int .i64 (vy / 2)]) (by simp [results,Tryz.results141,go_sem]) rfl ⟨rfl,?_⟩
 exact ((Mod.refl _ _).alloc _).alloc _
def plL (x y:Nat):List Value:=
 [.int .i64 0,.int .i64 (x:Int),.int .i64 (y:Int),.int .i64 0,.int .i64 ((x:Int) + 8),.int .i64 (y:Int),.int .i64 0,.int .i64 (x:Int),.int .i64 ((y:Int) + 8),.int .i64 0,.int .i64 ((x:Int) + 8),.int .i64 ((y:Int) + 8),
  .int .i64 1,.int .i64 ((x:Int) / 2),.int .i64 ((y:Int) / 2),.int .i64 2,.int .i64 ((x:Int) / 2),.int .i64 ((y:Int) / 2)]
def ordRow (s y:Nat):List Int:=((List.range y).filter (fun y'=>decide (y' ≤ s ∧ s < y' + 8))).map fun y'=>((y' * 8 + (s - y'):Nat):Int)
def ordTo (s y:Nat):List Int:=(List.range s).flatMap (fun s'=>ordRow s' 8) ++ ordRow s y
theorem ordTo_succ (s:Nat):ordTo s 8 = ordTo (s + 1) 0:=by simp [ordTo,List.range_succ,ordRow]
theorem ordTo_yes (s y:Nat) (h:y ≤ s ∧ s < y + 8):ordTo s (y + 1) = ordTo s y ++ [((y * 8 + (s - y):Nat):Int)]:=by
 simp [ordTo,ordRow,List.range_succ,List.filter_append,h.1,h.2]
theorem ordTo_no (s y:Nat) (h:¬ (y ≤ s ∧ s < y + 8)):ordTo s (y + 1) = ordTo s y:=by
 have:decide (y ≤ s ∧ s < y + 8) = false:=decide_eq_false h
 simp only [ordTo,ordRow,List.range_succ,List.filter_append,List.filter_cons,this]
 simp
theorem ordRow_le (s y:Nat):(ordRow s y).length ≤ y:=by
 unfold ordRow
 rw [List.length_map]
 exact Nat.le_trans (List.length_filter_le _ _) (by simp)
theorem ordTo_le (s y:Nat):(ordTo s y).length ≤ s * 8 + y:=by
 unfold ordTo
 rw [List.length_append]
 have h:∀ s,((List.range s).flatMap (fun s'=>ordRow s' 8)).length ≤ s * 8:=by
  intro s
  induction s with
  | zero=>simp
  | succ s ih=>
   rw [List.range_succ,List.flatMap_append,List.length_append]
   have:=ordRow_le s 8
   simp at *
   omega
 have:=h s
 have:=ordRow_le s y
 omega
def ord8:List Int:=ordTo 15 0
theorem ord8_facts:ord8.length = 64 ∧ (∀ i < 64,0 ≤ ord8.getD i 0 ∧ ord8.getD i 0 < 64):=by decide +kernel
def OrdRel (w:World) (v3 v20:Value) (wr:World):Prop:=∃ s:Nat,s ≤ 15 ∧ v20 = .int .i64 (s:Int) ∧ IntsOwn wr w.heap.size v3 (ordTo s 0) ∧ Mod (fun _=>False) w wr
def OrdIn (w:World) (s:Nat) (v3 v24:Value) (wr:World):Prop:=∃ y:Nat,y ≤ 8 ∧ v24 = .int .i64 (y:Int) ∧ IntsOwn wr w.heap.size v3 (ordTo s y) ∧ Mod (fun _=>False) w wr
theorem lOrder (w:World):Calls Tryz.prog 252 #[.int .i64 8] w fun e w'=>∃ b c,e = .returned (.slice (some ⟨b,0,none⟩) 64 c) ∧ w.heap.size ≤ b ∧ IntsIn w' (some ⟨b,0,none⟩) 64 c ord8 ∧ Mod (fun _=>False) w w':=by
 go_enter Tryz.func252,Tryz.ntmps252
 go_wp2_with (refine wpList_mk_int0 _ rfl (.const (.int .i64 0)) (.tmp 15) rfl 64 rfl rfl (by omega) ?_;intro w1 hown1 hm1;have HO:=Lib.hid (And.intro hown1 hm1);clear hown1 hm1)
 go_loopw [3,20] (OrdRel w) (fun _ i _=>15 - (intOf i).toNat)
 case atStart=>exact ⟨0,by omega,rfl,HO.out.1,HO.out.2⟩
 case round=>
  clear HO
  obtain ⟨s,hs,rfl,hown,hM⟩:=hrel
  by_cases hlt:s < 15
  ·obtain ⟨wo,rfl⟩:∃ wo:World,wo = wr:=⟨_,rfl⟩
   have HB:=Lib.hid (And.intro hown hM)
   clear hown hM
   have dx:decide ((s:Int) < 15) = true:=decide_eq_true (by omega)
   go_wp2_with fail
   go_loopw [3,24] (OrdIn w s) (fun _ i _=>8 - (intOf i).toNat)
   case atStart=>exact ⟨0,by omega,rfl,HB.out.1,HB.out.2⟩
   case round=>
    clear HB
    obtain ⟨y,hy,rfl,hown,hM⟩:=hrel
    by_cases hly:y < 8
    ·have dy:decide ((y:Int) < 8) = true:=decide_eq_true (by omega)
     obtain ⟨A3,c3,hv3⟩:=own_shape hown
     subst hv3
     have hle:=ordTo_le s y
     generalize hlen:(ordTo s y).length = n3 at *
     have HB:=Lib.hid (And.intro hown (And.intro hM (And.intro hM.size hlen)))
     clear hown hM hlen
     by_cases h1:y ≤ s
     ·have d1:decide ((0:Int) ≤ (s:Int) - (y:Int)) = true:=decide_eq_true (by omega)
      have d1':decide ((y:Int) ≤ (s:Int)) = true:=decide_eq_true (by omega)
      by_cases h2:s < y + 8
      ·have d2:decide ((s:Int) - (y:Int) < 8) = true:=decide_eq_true (by omega)
       have HS:=Lib.hid (ordTo_yes s y ⟨h1,h2⟩)
       have ev:(y:Int) * 8 + ((s:Int) - (y:Int)) = ((y * 8 + (s - y):Nat):Int):=by omega
       have HE:=Lib.hid ev
       clear ev
       go_wp2_with (at_builtin;have _t:=HB;refine wpList_app_int _ rfl (.tmp 37) (.tmp 43) rfl w.heap.size _ _ ((y:Int) * 8 + ((s:Int) - (y:Int))) rfl rfl HB.out.1 HB.out.2.2.1 (by rw [HB.out.2.2.2];omega) ?_;intro v8 w8 hown8 hMa hMb hF;have HO:=Lib.hid (And.intro hown8 (hMb w (fun _=>False) (Nat.le_refl _) HB.out.2.1));clear hown8 hMa hMb hF)
       go_roundw
       case rel=>
        refine ⟨y + 1,by omega,by go_num,?_,HO.out.2⟩
        rw [HS.out,← HE.out]
        exact HO.out.1
       case measure=>simp [intOf];omega
      ·have d2:decide ((s:Int) - (y:Int) < 8) = false:=decide_eq_false (by omega)
       have HS:=Lib.hid (ordTo_no s y (fun h=>h2 h.2))
       go_wp2_with fail
       go_roundw
       case rel=>
        refine ⟨y + 1,by omega,by go_num,?_,HB.out.2.1⟩
        rw [HS.out]
        exact HB.out.1
       case measure=>simp [intOf];omega
     ·have d1:decide ((0:Int) ≤ (s:Int) - (y:Int)) = false:=decide_eq_false (by omega)
      have d1':decide ((y:Int) ≤ (s:Int)) = false:=decide_eq_false (by omega)
      have HS:=Lib.hid (ordTo_no s y (fun h=>h1 h.1))
      go_wp2_with fail
      go_roundw
      case rel=>
       refine ⟨y + 1,by omega,by go_num,?_,HB.out.2.1⟩
       rw [HS.out]
       exact HB.out.1
      case measure=>simp [intOf];omega
    ·obtain rfl:y = 8:=by omega
     have HB:=Lib.hid (And.intro hown hM)
     clear hown hM
     go_wp2_with fail
     go_roundw
     case rel=>exact ⟨s + 1,by omega,by go_num,by rw [← ordTo_succ];exact HB.out.1,HB.out.2⟩
     case measure=>simp [intOf];omega
  ·obtain rfl:s = 15:=by omega
   have HB:=Lib.hid (And.intro hown hM)
   clear hown hM
   go_wp2_with fail
   go_ret
   obtain ⟨h9,hM9⟩:=HB.out
   have h9':IntsOwn _ _ _ ord8:=h9
   obtain ⟨A9,c9,hv9⟩:=own_shape h9'
   subst hv9
   have hl:=ord8_facts.1
   have hin:=h9'.in_
   rw [hl] at hin
   rcases h9'.2 with ⟨hv,h0⟩ | ⟨g,cap,cur,hv,hB,_⟩
   ·rw [hl] at h0;cases h0
   ·injection hv with e1 e2 e3
    subst e1
    exact ⟨g,c9,by rw [hl];rfl,hB,hin,hM9⟩
def chanceOk (c:Nat):Bool:=decide (31 ≤ c ∧ c ≤ 2017)
theorem cRight (w:World) (c:Nat):Calls Tryz.prog 238 #[.int .u16 (c:Int)] w fun e w'=>e = .returned (.bool (chanceOk c)) ∧ w = w':=by
 unfold chanceOk
 by_cases h1:31 ≤ c
 ·have d1:decide (31 ≤ (c:Int)) = true:=decide_eq_true (by omega)
  by_cases h2:c ≤ 2017
  ·have d2:decide ((c:Int) ≤ 2017) = true:=decide_eq_true (by omega)
   rw [decide_eq_true (And.intro h1 h2)]
   go_enter Tryz.func238,Tryz.ntmps238
   go_wp2_with fail
   go_ret
   exact ⟨rfl,rfl⟩
  ·have d2:decide ((c:Int) ≤ 2017) = false:=decide_eq_false (by omega)
   rw [decide_eq_false (fun h=>h2 h.2)]
   go_enter Tryz.func238,Tryz.ntmps238
   go_wp2_with fail
   go_ret
   exact ⟨rfl,rfl⟩
 ·have d1:decide (31 ≤ (c:Int)) = false:=decide_eq_false (by omega)
  rw [decide_eq_false (fun h=>h1 h.1)]
  go_enter Tryz.func238,Tryz.ntmps238
  go_wp2_with fail
  go_ret
  exact ⟨rfl,rfl⟩
def cnext (c bit:Nat):Nat:=if bit = 0 then c + (2048 - c) / 32 else c - c / 32
theorem cnext_ok (c bit:Nat) (h:chanceOk c = true):chanceOk (cnext c bit) = true:=by
 unfold chanceOk cnext at *
 rw [decide_eq_true_eq] at *
 split <;> omega
theorem cNext (w:World) (c bit:Nat) (hb:bit ≤ 1) (h:chanceOk c = true):Calls Tryz.prog 197 #[.int .u16 (c:Int),.int .i64 (bit:Int)] w fun e w'=>e = .returned (.int .u16 ((cnext c bit:Nat):Int)) ∧ w = w':=by
 unfold chanceOk at h
 rw [decide_eq_true_eq] at h
 obtain ⟨h1,h2⟩:=h
 have m1:max (c:Int) 31 = (c:Int):=by omega
 have m2:min (c:Int) 2017 = (c:Int):=by omega
 rcases Nat.eq_zero_or_pos bit with e | e
 ·subst e
  have r1:IntKind.u16.wrap ((c:Int) + IntKind.u16.wrap ((2048 - (c:Int)).tdiv 32)) = ((cnext c 0:Nat):Int):=by
   have t:(2048 - (c:Int)).tdiv 32 = (2048 - (c:Int)) / 32:=Int.tdiv_eq_ediv_of_nonneg (by omega)
   rw [t,IntWalk.u16_in ((2048 - (c:Int)) / 32) ⟨by omega,by omega⟩,IntWalk.u16_in _ ⟨by omega,by omega⟩]
   unfold cnext
   rw [if_pos rfl]
   omega
  have R:=Lib.hid r1
  clear r1
  go_enter Tryz.func197,Tryz.ntmps197
  go_wp2_with fail
  go_ret
  exact ⟨congrArg (fun z=>Ending.returned (.int .u16 z)) R.out,rfl⟩
 ·obtain rfl:bit = 1:=by omega
  have r1:(c:Int) - (c:Int) / 32 = ((cnext c 1:Nat):Int):=by
   unfold cnext
   rw [if_neg (by omega)]
   omega
  have R:=Lib.hid r1
  clear r1
  go_enter Tryz.func197,Tryz.ntmps197
  go_wp2_with fail
  go_ret
  exact ⟨congrArg (fun z=>Ending.returned (.int .u16 z)) R.out,rfl⟩
def be (l:List UInt8):Nat:=l.foldl (fun a b=>a * 256 + b.toNat) 0
def u16s (l:List Nat):List Value:=l.map fun x=>.int .u16 ((x:Nat):Int)
def atIdx (i ahead:Nat):Nat:=20 + (2 ^ i - 1 + ahead)
theorem bAt0 (w:World) (bk off:Nat):Calls Tryz.prog 193 #[.pointer (some ⟨bk,off,none⟩),.int .i64 0,.int .i64 0] w fun e w'=>e = .returned (.pointer (some ⟨bk,off + 20,none⟩)) ∧ Mod (fun _=>False) w w':=by
 go_enter Tryz.func193,Tryz.ntmps193
 go_wp2_with fail
 go_quiet (fail)
 go_wp2_with fail
 go_ret
 exact ⟨rfl,(Mod.refl _ _).drewN _⟩
theorem bAt1 (w:World) (bk off ahead:Nat) (ha:ahead < 2):Calls Tryz.prog 193 #[.pointer (some ⟨bk,off,none⟩),.int .i64 1,.int .i64 (ahead:Int)] w fun e w'=>e = .returned (.pointer (some ⟨bk,off + 20 + (1 + ahead),none⟩)) ∧ Mod (fun _=>False) w w':=by
 have p0:(0:Int) ≤ (ahead:Int):=by omega
 have p1:(ahead:Int) < 2:=by omega
 go_enter Tryz.func193,Tryz.ntmps193
 go_wp2_with fail
 have s1:IntKind.i64.wrap (1 + (ahead:Int)) = 1 + (ahead:Int):=IntWalk.i64_in _ ⟨by omega,by omega⟩
 have s2:(1 + (ahead:Int)).toNat = 1 + ahead:=by omega
 have s3:(0:Int) ≤ 1 + (ahead:Int):=by omega
 have s4:1 + (ahead:Int) < 16:=by omega
 go_quiet (fail)
 go_wp2_with fail
 go_ret
 exact ⟨rfl,(Mod.refl _ _).drewN _⟩
theorem bAt2 (w:World) (bk off ahead:Nat) (ha:ahead < 4):Calls Tryz.prog 193 #[.pointer (some ⟨bk,off,none⟩),.int .i64 2,.int .i64 (ahead:Int)] w fun e w'=>e = .returned (.pointer (some ⟨bk,off + 20 + (3 + ahead),none⟩)) ∧ Mod (fun _=>False) w w':=by
 have p0:(0:Int) ≤ (ahead:Int):=by omega
 have p1:(ahead:Int) < 4:=by omega
 go_enter Tryz.func193,Tryz.ntmps193
 go_wp2_with fail
 have s1:IntKind.i64.wrap (3 + (ahead:Int)) = 3 + (ahead:Int):=IntWalk.i64_in _ ⟨by omega,by omega⟩
 have s2:(3 + (ahead:Int)).toNat = 3 + ahead:=by omega
 have s3:(0:Int) ≤ 3 + (ahead:Int):=by omega
 have s4:3 + (ahead:Int) < 16:=by omega
 go_quiet (fail)
 go_wp2_with fail
 go_ret
 exact ⟨rfl,(Mod.refl _ _).drewN _⟩
theorem bAt3 (w:World) (bk off ahead:Nat) (ha:ahead < 8):Calls Tryz.prog 193 #[.pointer (some ⟨bk,off,none⟩),.int .i64 3,.int .i64 (ahead:Int)] w fun e w'=>e = .returned (.pointer (some ⟨bk,off + 20 + (7 + ahead),none⟩)) ∧ Mod (fun _=>False) w w':=by
 have p0:(0:Int) ≤ (ahead:Int):=by omega
 have p1:(ahead:Int) < 8:=by omega
 go_enter Tryz.func193,Tryz.ntmps193
 go_wp2_with fail
 have s1:IntKind.i64.wrap (7 + (ahead:Int)) = 7 + (ahead:Int):=IntWalk.i64_in _ ⟨by omega,by omega⟩
 have s2:(7 + (ahead:Int)).toNat = 7 + ahead:=by omega
 have s3:(0:Int) ≤ 7 + (ahead:Int):=by omega
 have s4:7 + (ahead:Int) < 16:=by omega
 go_quiet (fail)
 go_wp2_with fail
 go_ret
 exact ⟨rfl,(Mod.refl _ _).drewN _⟩
theorem bAt (w:World) (bk off i ahead:Nat) (hi:i < 4) (ha:ahead < 2 ^ i):Calls Tryz.prog 193 #[.pointer (some ⟨bk,off,none⟩),.int .i64 (i:Int),.int .i64 (ahead:Int)] w fun e w'=>e = .returned (.pointer (some ⟨bk,off + atIdx i ahead,none⟩)) ∧ Mod (fun _=>False) w w':=by
 unfold atIdx
 have h4:i = 0 ∨ i = 1 ∨ i = 2 ∨ i = 3:=by omega
 rcases h4 with rfl | rfl | rfl | rfl
 ·obtain rfl:ahead = 0:=by omega
  exact bAt0 w bk off
 ·have:=bAt1 w bk off ahead (by simpa using ha)
  rw [Nat.add_assoc] at this
  exact this
 ·have:=bAt2 w bk off ahead (by simpa using ha)
  rw [Nat.add_assoc] at this
  exact this
 ·have:=bAt3 w bk off ahead (by simpa using ha)
  rw [Nat.add_assoc] at this
  exact this
theorem bTopic (w:World) (bk t:Nat) (ht:t < 16):Calls Tryz.prog 136 #[.pointer (some ⟨bk,0,none⟩),.int .i64 (t:Int)] w fun e w'=>e = .returned (.pointer (some ⟨bk,t * 37,none⟩)) ∧ w = w':=by
 have p0:decide ((t:Int) < 0) = false:=decide_eq_false (by omega)
 have p1:decide (16 ≤ (t:Int)) = false:=decide_eq_false (by omega)
 have p2:(t:Int) < 16:=by omega
 have p3:(0:Int) ≤ (t:Int):=by omega
 go_enter Tryz.func136,Tryz.ntmps136
 go_wp2_with fail
 go_ret
 exact ⟨rfl,rfl⟩
theorem or64 (r x:Nat) (hr:r < 1099511627776) (hx:x ≤ 1):bits BinOp.or IntKind.i64 ((r:Int) * 2) (x:Int) = ((2 * r + x:Nat):Int):=by
 have e1:(BitVec.ofInt 64 ((r:Int) * 2)).toNat = r * 2:=by rw [BitVec.toNat_ofInt];omega
 have e2:(BitVec.ofInt 64 (x:Int)).toNat = x:=by rw [BitVec.toNat_ofInt];omega
 have key:(BitVec.ofInt 64 ((r:Int) * 2) ||| BitVec.ofInt 64 (x:Int)).toNat = 2 * r + x:=by
  rw [BitVec.toNat_or,e1,e2]
  have:=Nat.shiftLeft_add_eq_or_of_lt (i:=1) (b:=x) (by omega) r
  rw [Nat.shiftLeft_eq] at this
  have h2:r * 2 + x = r * 2 ||| x:=this
  omega
 show IntKind.i64.wrap ((BitVec.ofInt 64 ((r:Int) * 2) ||| BitVec.ofInt 64 (x:Int)).toNat:Nat) = _
 rw [key]
 exact IntWalk.i64_in _ ⟨by omega,by omega⟩
theorem bitsLen64_2 (w:World):Calls Tryz.prog 195 #[.int .u64 2] w fun e w'=>e = .returned (.int .i64 2) ∧ w = w':=by
 go_enter Tryz.func195,Tryz.ntmps195
 go_wp2_with fail
 go_ret
 exact ⟨by kernel_rfl,rfl⟩
theorem bitsLen2 (w:World):Calls Tryz.prog 138 #[.int .u64 2] w fun e w'=>e = .returned (.int .i64 2) ∧ w = w':=by
 go_enter Tryz.func138,Tryz.ntmps138
 go_wp2_with fail
 refine (bitsLen64_2 _).mono ?_
 rintro e w1 ⟨rfl,rfl⟩
 go_wp2_with fail
 go_ret
 exact ⟨rfl,rfl⟩
theorem bitsLen64_3 (w:World):Calls Tryz.prog 195 #[.int .u64 3] w fun e w'=>e = .returned (.int .i64 2) ∧ w = w':=by
 go_enter Tryz.func195,Tryz.ntmps195
 go_wp2_with fail
 go_ret
 exact ⟨by kernel_rfl,rfl⟩
theorem bitsLen3 (w:World):Calls Tryz.prog 138 #[.int .u64 3] w fun e w'=>e = .returned (.int .i64 2) ∧ w = w':=by
 go_enter Tryz.func138,Tryz.ntmps138
 go_wp2_with fail
 refine (bitsLen64_3 _).mono ?_
 rintro e w1 ⟨rfl,rfl⟩
 go_wp2_with fail
 go_ret
 exact ⟨rfl,rfl⟩
def apartN (a b:Nat):Nat:=max a b - min a b
theorem dApart (w:World) (a b:Nat) (ha:a < 256) (hb:b < 256):Calls Tryz.prog 216 #[.int .u8 (a:Int),.int .u8 (b:Int)] w fun e w'=>e = .returned (.int .i64 ((apartN a b:Nat):Int)) ∧ w = w':=by
 unfold apartN
 by_cases h:a ≤ b
 ·go_enter Tryz.func216,Tryz.ntmps216
  go_wp2_with fail
  all_goals (try go_ret)
  all_goals first | exact ⟨congrArg (fun z=>Ending.returned (.int .i64 z)) (by omega),rfl⟩ | omega
 ·go_enter Tryz.func216,Tryz.ntmps216
  go_wp2_with fail
  all_goals (try go_ret)
  all_goals first | exact ⟨congrArg (fun z=>Ending.returned (.int .i64 z)) (by omega),rfl⟩ | omega
theorem dClip (w:World) (v:Int) (hv:-9223372036854775808 ≤ v ∧ v ≤ 9223372036854775807):Calls Tryz.prog 217 #[.int .i64 v] w fun e w'=>e = .returned (.int .u8 ((clipN v:Nat):Int)) ∧ w = w':=by
 unfold clipN
 go_enter Tryz.func217,Tryz.ntmps217
 go_wp2_with fail
 all_goals
  go_ret
  refine ⟨congrArg (fun z=>Ending.returned (.int .u8 z)) ?_,rfl⟩
  (repeat' split) <;> omega
theorem dKnown (w:World) (q:Nat) (hq:q ≤ 31):Calls Tryz.prog 91 #[.int .i64 (q:Int)] w fun e w'=>e = .returned (.bool true) ∧ w = w':=by
 have d1:decide ((q:Int) ≤ 31) = true:=decide_eq_true (by omega)
 have d2:decide (0 ≤ (q:Int)) = true:=decide_eq_true (by omega)
 go_enter Tryz.func91,Tryz.ntmps91
 go_wp2_with fail
 go_ret
 exact ⟨rfl,rfl⟩
theorem ret2_u8 {a b a' b':Nat} (h:a = a') (k:b = b'):Ending.returned (.tuple #[.int .u8 (a:Int),.int .u8 (b:Int)]) = .returned (.tuple #[.int .u8 (a':Int),.int .u8 (b':Int)]):=by rw [h,k]
def lineM (a b c d s:Int):Int:=min (max ((4 * (c - b) + a - d + 4) / 8) (-s)) s
def lineN (a b c d q:Nat):Nat × Nat:=
 if 4 * (q / 2) ≤ apartN b c ∨ 2 * (q / 2) ≤ apartN a b ∨ 2 * (q / 2) ≤ apartN c d then (b,c)
 else (clipN ((b:Int) + lineM a b c d ((q / 2:Nat):Int)),clipN ((c:Int) - lineM a b c d ((q / 2:Nat):Int)))
theorem dLine (w:World) (a b c d q:Nat) (ha:a < 256) (hb:b < 256) (hc:c < 256) (hd:d < 256) (hq:q ≤ 31) :
  Calls Tryz.prog 151 #[.int .u8 (a:Int),.int .u8 (b:Int),.int .u8 (c:Int),.int .u8 (d:Int),.int .i64 (q:Int)] w
   fun e w'=>e = .returned (.tuple #[.int .u8 (((lineN a b c d q).1:Nat):Int),.int .u8 (((lineN a b c d q).2:Nat):Int)]) ∧ w = w':=by
 by_cases h1:4 * (q / 2) ≤ apartN b c
 ·have HR:=Lib.hid (show lineN a b c d q = (b,c) from if_pos (.inl h1))
  have d1:decide (4 * ((q:Int) / 2) ≤ (apartN b c:Int)) = true:=decide_eq_true (by omega)
  clear h1
  go_enter Tryz.func151,Tryz.ntmps151
  go_wp2_with fail
  refine (dKnown _ q hq).mono ?_
  rintro e w1 ⟨rfl,rfl⟩
  go_wp2_with fail
  refine (dApart _ b c hb hc).mono ?_
  rintro e w1 ⟨rfl,rfl⟩
  go_wp2_with fail
  go_ret2
  exact ⟨by rw [HR.out];rfl,rfl⟩
 ·have d1:decide (4 * ((q:Int) / 2) ≤ (apartN b c:Int)) = false:=decide_eq_false (by omega)
  by_cases h2:2 * (q / 2) ≤ apartN a b
  ·have HR:=Lib.hid (show lineN a b c d q = (b,c) from if_pos (.inr (.inl h2)))
   have d2:decide (2 * ((q:Int) / 2) ≤ (apartN a b:Int)) = true:=decide_eq_true (by omega)
   clear h1 h2
   go_enter Tryz.func151,Tryz.ntmps151
   go_wp2_with fail
   refine (dKnown _ q hq).mono ?_
   rintro e w1 ⟨rfl,rfl⟩
   go_wp2_with fail
   refine (dApart _ b c hb hc).mono ?_
   rintro e w1 ⟨rfl,rfl⟩
   go_wp2_with fail
   refine (dApart _ a b ha hb).mono ?_
   rintro e w1 ⟨rfl,rfl⟩
   go_wp2_with fail
   go_ret2
   exact ⟨by rw [HR.out];rfl,rfl⟩
  ·have d2:decide (2 * ((q:Int) / 2) ≤ (apartN a b:Int)) = false:=decide_eq_false (by omega)
   by_cases h3:2 * (q / 2) ≤ apartN c d
   ·have HR:=Lib.hid (show lineN a b c d q = (b,c) from if_pos (.inr (.inr h3)))
    have d3:decide (2 * ((q:Int) / 2) ≤ (apartN c d:Int)) = true:=decide_eq_true (by omega)
    clear h1 h2 h3
    go_enter Tryz.func151,Tryz.ntmps151
    go_wp2_with fail
    refine (dKnown _ q hq).mono ?_
    rintro e w1 ⟨rfl,rfl⟩
    go_wp2_with fail
    refine (dApart _ b c hb hc).mono ?_
    rintro e w1 ⟨rfl,rfl⟩
    go_wp2_with fail
    refine (dApart _ a b ha hb).mono ?_
    rintro e w1 ⟨rfl,rfl⟩
    go_wp2_with fail
    refine (dApart _ c d hc hd).mono ?_
    rintro e w1 ⟨rfl,rfl⟩
    go_wp2_with fail
    go_ret2
    exact ⟨by rw [HR.out];rfl,rfl⟩
   ·have HR:=Lib.hid (show lineN a b c d q = _ from if_neg (by omega))
    have d3:decide (2 * ((q:Int) / 2) ≤ (apartN c d:Int)) = false:=decide_eq_false (by omega)
    clear h1 h2 h3
    go_enter Tryz.func151,Tryz.ntmps151
    go_wp2_with fail
    refine (dKnown _ q hq).mono ?_
    rintro e w1 ⟨rfl,rfl⟩
    go_wp2_with fail
    refine (dApart _ b c hb hc).mono ?_
    rintro e w1 ⟨rfl,rfl⟩
    go_wp2_with fail
    refine (dApart _ a b ha hb).mono ?_
    rintro e w1 ⟨rfl,rfl⟩
    go_wp2_with fail
    refine (dApart _ c d hc hd).mono ?_
    rintro e w1 ⟨rfl,rfl⟩
    go_wp2_with fail
    all_goals
     clear d1 d2 d3
     refine (dClip _ _ ⟨by omega,by omega⟩).mono ?_
     rintro e w1 ⟨rfl,rfl⟩
     go_wp2_with fail
     refine (dClip _ _ ⟨by omega,by omega⟩).mono ?_
     rintro e w1 ⟨rfl,rfl⟩
     go_wp2_with fail
     go_ret2
     refine ⟨ret2_u8 ?_ ?_,rfl⟩
     ·rw [HR.out]
      exact congrArg clipN (by unfold lineM;omega)
     ·rw [HR.out]
      exact congrArg clipN (by unfold lineM;omega)
def smo (q:Nat) (L:List UInt8) (p s:Nat):List UInt8:=
 (L.set (p - s) (UInt8.ofNat (lineN (L.getD (p - 2 * s) 0).toNat (L.getD (p - s) 0).toNat (L.getD p 0).toNat (L.getD (p + s) 0).toNat q).1)).set p
  (UInt8.ofNat (lineN (L.getD (p - 2 * s) 0).toNat (L.getD (p - s) 0).toNat (L.getD p 0).toNat (L.getD (p + s) 0).toNat q).2)
theorem smo_length (q:Nat) (L:List UInt8) (p s:Nat):(smo q L p s).length = L.length:=by simp [smo]
theorem lineN_lt (a b c d q:Nat) (hb:b < 256) (hc:c < 256):(lineN a b c d q).1 < 256 ∧ (lineN a b c d q).2 < 256:=by
 unfold lineN
 split
 ·exact ⟨hb,hc⟩
 ·exact ⟨clipN_lt _,clipN_lt _⟩
theorem u8_cell {w:World} {g:Nat} {t:TypeId} {L:List UInt8} (hb:Blk w g t (u8s L).toArray) {i:Nat} (hi:i < L.length):w.cell? ⟨g,i,none⟩ = some (.int .u8 ((L.getD i 0).toNat:Int)):=by
 rw [hb.cell,List.getElem?_toArray]
 simp [u8s,hi]
theorem u8_set (L:List UInt8) (k v:Nat) (hv:v < 256):(u8s L).toArray.setIfInBounds k (.int .u8 (v:Int)) = (u8s (L.set k (UInt8.ofNat v))).toArray:=by
 rw [u8s_set L k v hv]
 simp
theorem dSmooth (w:World) (bp bq g n q p s:Nat) (L:List UInt8) (hL:L.length = n) (hq:q ≤ 31) (hs:1 ≤ s) (h1:2 * s ≤ p) (h2:p + s < n) (hn:n ≤ 16777216)
  (hbp:Blk w bp 36 #[.slice (some ⟨g,0,none⟩) n n]) (hbq:Blk w bq 3 #[.int .i64 (q:Int)]) (hb:Blk w g 5 (u8s L).toArray) :
  Calls Tryz.prog 150 #[.int .i64 (p:Int),.int .i64 (s:Int),.pointer (some ⟨bp,0,none⟩),.pointer (some ⟨bq,0,none⟩)] w fun e w'=>e = .returned (.tuple #[]) ∧ Blk w' g 5 (u8s (smo q L p s)).toArray ∧ Mod (· = g) w w':=by
 obtain ⟨p1,hp1⟩:∃ p1,p1 = p - s:=⟨_,rfl⟩
 obtain ⟨p0,hp0⟩:∃ p0,p0 = p - 2 * s:=⟨_,rfl⟩
 obtain ⟨p3,hp3⟩:∃ p3,p3 = p + s:=⟨_,rfl⟩
 have hR:smo q L p s = (L.set p1 (UInt8.ofNat (lineN (L.getD p0 0).toNat (L.getD p1 0).toNat (L.getD p 0).toNat (L.getD p3 0).toNat q).1)).set p
  (UInt8.ofNat (lineN (L.getD p0 0).toNat (L.getD p1 0).toNat (L.getD p 0).toNat (L.getD p3 0).toNat q).2):=by rw [hp1,hp0,hp3];rfl
 have k0:=u8_cell hb (i:=p0) (by omega)
 have k1:=u8_cell hb (i:=p1) (by omega)
 have k2:=u8_cell hb (i:=p) (by omega)
 have k3:=u8_cell hb (i:=p3) (by omega)
 have hlt:=lineN_lt (L.getD p0 0).toNat (L.getD p1 0).toNat (L.getD p 0).toNat (L.getD p3 0).toNat q (UInt8.toNat_lt _) (UInt8.toNat_lt _)
 have x0:(L.getD p0 0).toNat < 256:=UInt8.toNat_lt _
 have x1:(L.getD p1 0).toNat < 256:=UInt8.toNat_lt _
 have x2:(L.getD p 0).toNat < 256:=UInt8.toNat_lt _
 have x3:(L.getD p3 0).toNat < 256:=UInt8.toNat_lt _
 obtain ⟨v0,hv0⟩:∃ v,v = (L.getD p0 0).toNat:=⟨_,rfl⟩
 obtain ⟨v1,hv1⟩:∃ v,v = (L.getD p1 0).toNat:=⟨_,rfl⟩
 obtain ⟨v2,hv2⟩:∃ v,v = (L.getD p 0).toNat:=⟨_,rfl⟩
 obtain ⟨v3,hv3⟩:∃ v,v = (L.getD p3 0).toNat:=⟨_,rfl⟩
 rw [← hv0,← hv1,← hv2,← hv3] at hR hlt
 rw [← hv0] at k0 x0
 rw [← hv1] at k1 x1
 rw [← hv2] at k2 x2
 rw [← hv3] at k3 x3
 have y0:w.cell? ⟨bp,0,none⟩ = some (.slice (some ⟨g,0,none⟩) n n):=hbp.cell 0
 have y1:w.cell? ⟨bq,0,none⟩ = some (.int .i64 (q:Int)):=hbq.cell 0
 have e1:IntKind.i64.wrap ((p:Int) - (s:Int)) = (p1:Int):=by rw [IntWalk.i64_in _ ⟨by omega,by omega⟩];omega
 have e2:IntKind.i64.wrap (2 * (s:Int)) = 2 * (s:Int):=IntWalk.i64_in _ ⟨by omega,by omega⟩
 have e3:IntKind.i64.wrap ((p:Int) - 2 * (s:Int)) = (p0:Int):=by rw [IntWalk.i64_in _ ⟨by omega,by omega⟩];omega
 have e4:IntKind.i64.wrap ((p:Int) + (s:Int)) = (p3:Int):=by rw [IntWalk.i64_in _ ⟨by omega,by omega⟩];omega
 have i0:(0:Int) ≤ (p0:Int):=by omega
 have i1:(0:Int) ≤ (p1:Int):=by omega
 have i2:(0:Int) ≤ (p:Int):=by omega
 have i3:(0:Int) ≤ (p3:Int):=by omega
 have j0:(p0:Int) < (n:Int):=by omega
 have j1:(p1:Int) < (n:Int):=by omega
 have j2:(p:Int) < (n:Int):=by omega
 have j3:(p3:Int) < (n:Int):=by omega
 have hne:p1 ≠ p:=by omega
 have fz:=hb.frozen
 have gl:=hb.lt
 have HE:=Lib.hid (And.intro e1 (And.intro e2 (And.intro e3 e4)))
 have HH:=Lib.hid (And.intro hR (And.intro hb (And.intro hlt hL)))
 clear hR hb hlt hL hbp hbq hp0 hp1 hp3 hv0 hv1 hv2 hv3 e1 e2 e3 e4 h1 h2
 go_enter Tryz.func150,Tryz.ntmps150
 go_wp2_with fail
 have e1:=HE.out.1
 go_quiet (fail)
 clear e1
 go_upto_region 1 with (fail)
 obtain ⟨e1,e2,e3,e4⟩:=HE.out
 refine wp_region_plan [27,29] [1,25] [0,2,3,4,5,6,7,8,9,10,11,12,13,14,15,16,17,18,19,20,21,22,23,24,26,1,25,27,28,29] (by kernel_rfl) (by kernel_rfl) (fun _ _ _ d _ h=>by cases d <;> exact h) ?_
 iterate 21 (refine plan_still rfl rfl (fun K hK=>?_);go_simp;refine hK _ ?_;clear hK K)
 (refine plan_still rfl rfl (fun K hK=>?_);go_simp;refine ⟨_,(dLine _ v0 v1 v2 v3 q x0 x1 x2 x3 hq).mono (fun _ _ ⟨h1,h2⟩=>⟨h1,h2.symm⟩),hK _ ?_⟩;clear hK K)
 iterate 3 (refine plan_still rfl rfl (fun K hK=>?_);go_simp;refine hK _ ?_;clear hK K)
 iterate 2 (refine plan_pure rfl rfl rfl (fun _=>rfl) ?_)
 refine plan_loud rfl rfl (fun K hK=>?_);go_simp;refine hK _ _ ?_;clear hK K
 refine plan_still rfl rfl (fun K hK=>?_);go_simp;refine hK _ ?_;clear hK K
 refine plan_loud rfl rfl (fun K hK=>?_);go_simp;refine hK _ _ ?_;clear hK K
 refine plan_done ?_
 clear e1 e2 e3 e4
 go_wp2_with fail
 go_end0
 refine ⟨rfl,?_,?_⟩
 ·obtain ⟨hR,hb,hlt,hL⟩:=HH.out
  rw [hR]
  have h1:=((hb.drewN (nq + 1)).put (i:=p1) (u8_set L p1 _ hlt.1)).put (i:=p) (u8_set (L.set p1 (UInt8.ofNat (lineN v0 v1 v2 v3 q).1)) p _ hlt.2)
  exact h1
 ·exact (((Mod.refl (· = g) w).drewN _).setCell (p:=⟨g,p1,none⟩) (.inl rfl) _).setCell (p:=⟨g,p,none⟩) (.inl rfl) _
def smRow (q W y:Nat):Nat → Nat → List UInt8 → List UInt8
 | 0,_,L=>L
 | f + 1,x,L=>if x + 1 < W then smRow q W y f (x + 8) (smo q L (y * W + x) 1) else L
def smRows (q W:Nat):Nat → Nat → List UInt8 → List UInt8
 | 0,_,L=>L
 | n + 1,y,L=>smRows q W n (y + 1) (smRow q W y W 8 L)
def smCol (q W H x:Nat):Nat → Nat → List UInt8 → List UInt8
 | 0,_,L=>L
 | f + 1,y,L=>if y + 1 < H then smCol q W H x f (y + 8) (smo q L (y * W + x) W) else L
def smCols (q W H:Nat):Nat → Nat → List UInt8 → List UInt8
 | 0,_,L=>L
 | n + 1,x,L=>smCols q W H n (x + 1) (smCol q W H x H 8 L)
def smPlane (q W H:Nat) (L:List UInt8):List UInt8:=smCols q W H W 0 (smRows q W H 0 L)
theorem smRow_done {q W y f x:Nat} {L:List UInt8} (h:¬ x + 1 < W):smRow q W y f x L = L:=by cases f <;> simp [smRow,h]
theorem smCol_done {q W H x f y:Nat} {L:List UInt8} (h:¬ y + 1 < H):smCol q W H x f y L = L:=by cases f <;> simp [smCol,h]
theorem smRow_step {q W y f x:Nat} {L:List UInt8} (h:x + 1 < W):smRow q W y (f + 1) x L = smRow q W y f (x + 8) (smo q L (y * W + x) 1):=by simp [smRow,h]
theorem smCol_step {q W H x f y:Nat} {L:List UInt8} (h:y + 1 < H):smCol q W H x (f + 1) y L = smCol q W H x f (y + 8) (smo q L (y * W + x) W):=by simp [smCol,h]
theorem smRows_step {q W H y:Nat} {L:List UInt8} (h:y < H):smRows q W (H - y) y L = smRows q W (H - (y + 1)) (y + 1) (smRow q W y W 8 L):=by rw [show H - y = (H - (y + 1)) + 1 by omega];rfl
theorem smCols_step {q W H x:Nat} {L:List UInt8} (h:x < W):smCols q W H (W - x) x L = smCols q W H (W - (x + 1)) (x + 1) (smCol q W H x H 8 L):=by rw [show W - x = (W - (x + 1)) + 1 by omega];rfl
theorem smRow_length {q W y:Nat}:∀ {f x:Nat} {L:List UInt8},(smRow q W y f x L).length = L.length
 | 0,_,_=>rfl
 | f + 1,x,L=>by unfold smRow;split;rw [smRow_length,smo_length];rfl
theorem smCol_length {q W H x:Nat}:∀ {f y:Nat} {L:List UInt8},(smCol q W H x f y L).length = L.length
 | 0,_,_=>rfl
 | f + 1,y,L=>by unfold smCol;split;rw [smCol_length,smo_length];rfl
theorem smRows_length {q W:Nat}:∀ {n y:Nat} {L:List UInt8},(smRows q W n y L).length = L.length
 | 0,_,_=>rfl
 | n + 1,y,L=>by unfold smRows;rw [smRows_length,smRow_length]
theorem smCols_length {q W H:Nat}:∀ {n x:Nat} {L:List UInt8},(smCols q W H n x L).length = L.length
 | 0,_,_=>rfl
 | n + 1,x,L=>by unfold smCols;rw [smCols_length,smCol_length]
theorem smPlane_length {q W H:Nat} {L:List UInt8}:(smPlane q W H L).length = L.length:=by unfold smPlane;rw [smCols_length,smRows_length]
def dpL (v g res qb pb n W H q:Nat) (A:Option Addr) (c:Nat) (L:List UInt8):List Ent:=
 [⟨v,36,#[.slice (some ⟨g,0,none⟩) n n]⟩,⟨g,5,(u8s L).toArray⟩,⟨res,38,#[.int .i64 0,.int .i64 0,.slice none 0 0]⟩,⟨qb,3,#[.int .i64 (q:Int)]⟩,⟨pb,38,#[.int .i64 (W:Int),.int .i64 (H:Int),.slice A n c]⟩]
def DRows (w:World) (mk:List UInt8 → List Ent) (n q W H:Nat) (R:List UInt8) (s31:Value) (wr:World):Prop:=
 ∃ y L,y ≤ H ∧ s31 = .int .i64 (y:Int) ∧ L.length = n ∧ smRows q W (H - y) y L = R ∧ Sat (fun _=>False) w wr (mk L) []
def DRow (w:World) (mk:List UInt8 → List Ent) (n q W y:Nat) (R:List UInt8) (s9:Value) (wr:World):Prop:=
 ∃ x f L,8 ≤ x ∧ x ≤ W + 8 ∧ W ≤ x + f ∧ s9 = .int .i64 (x:Int) ∧ L.length = n ∧ smRow q W y f x L = R ∧ Sat (fun _=>False) w wr (mk L) []
def DCols (w:World) (mk:List UInt8 → List Ent) (n q W H:Nat) (R:List UInt8) (s52:Value) (wr:World):Prop:=
 ∃ x L,x ≤ W ∧ s52 = .int .i64 (x:Int) ∧ L.length = n ∧ smCols q W H (W - x) x L = R ∧ Sat (fun _=>False) w wr (mk L) []
def DCol (w:World) (mk:List UInt8 → List Ent) (n q W H x:Nat) (R:List UInt8) (s11:Value) (wr:World):Prop:=
 ∃ y f L,8 ≤ y ∧ y ≤ H + 8 ∧ H ≤ y + f ∧ s11 = .int .i64 (y:Int) ∧ L.length = n ∧ smCol q W H x f y L = R ∧ Sat (fun _=>False) w wr (mk L) []
theorem at_in {y x W H n:Nat} (hn:n = W * H) (hy:y < H) (hx:x < W):y * W + x < n ∧ y * W + W ≤ n:=by
 have h1:=Nat.mul_le_mul_right W (show y + 1 ≤ H by omega)
 rw [Nat.add_mul,Nat.one_mul,Nat.mul_comm H W,← hn] at h1
 omega
theorem dPlane (w:World) (W H:Nat) (A:Option Addr) (n c:Nat) (pix:List UInt8) (q:Nat) (h:sidesB W H = true) (hn:n = W * H) (hin:BytesIn w A (W * H) c pix) (hq:q ≤ 31) :
  Calls Tryz.prog 92 #[.agg #[.int .i64 (W:Int),.int .i64 (H:Int),.slice A n c],.int .i64 (q:Int)] w
   fun e w'=>∃ g,e = .returned (.tuple #[.agg #[.int .i64 (W:Int),.int .i64 (H:Int),.slice (some ⟨g,0,none⟩) n n],.int .i64 0]) ∧ Blk w' g 5 (u8s (smPlane q W H pix)).toArray ∧ w.heap.size ≤ g ∧ Mod (fun _=>False) w w':=by
 obtain ⟨ha,hW1,hW2,hH1,hH2,hn1⟩:=area_le h
 have hpl:pix.length = n:=by rw [hn];exact hin.1
 rw [← hn] at ha hn1
 have HI:=Lib.hid (And.intro h (And.intro hin (And.intro hn hpl)))
 clear h hin hn hpl
 have h0:=(Sat.nil (fun _=>False) w)
 go_enter Tryz.func92,Tryz.ntmps92
 go_wp2_with fail
 refine (pRight' _ W H A n c HI.out.1 HI.out.2.2.1).mono ?_
 rintro e w1 ⟨rfl,hm1⟩
 have HS:=Sat.after hm1 (((h0.alloc _ _ rfl).alloc (g:=w.heap.size + 1) _ _ (by simp)).alloc (g:=w.heap.size + 2) _ _ (by simp))
 clear hm1 h0
 obtain ⟨qc,qf⟩:=(HS.own_ 1 rfl).both
 have ql:=(HS.own_ 1 rfl).lt
 have HH:=Lib.hid HS
 clear HS
 go_wp2_with fail
 refine (dKnown _ q hq).mono ?_
 rintro e w2 ⟨rfl,rfl⟩
 clear qc qf ql
 have hs1:w.heap.size + 3 ≤ w1.heap.size:=(HH.out.own_ 0 rfl).lt
 have pc2:w1.cell? ⟨w.heap.size,2,none⟩ = some (.slice A n c):=(HH.out.own_ 2 rfl).cell 2
 go_upto_region 6 with (refine wpList_mk_u8 _ rfl (.tmp 22) (.tmp 22) rfl n rfl rfl (by omega) ?_;intro w3 hb3 hm3;have HO:=Lib.hid (And.intro hb3 hm3);clear hb3 hm3)
 clear pc2
 have HS3:=(HH.out.quiet HO.out.2).add_own (g:=w1.heap.size) HO.out.1 (.inr (by omega)) (by
  intro e he
  have:=(HH.out.blk e he).lt
  omega)
 have hs3:w1.heap.size < w3.heap.size:=HO.out.1.lt
 have HS4:=HS3.alloc 36 #[.slice (some ⟨w1.heap.size,0,none⟩) n n] rfl
 clear HS3
 have hc4:=HI.out.2.1.quiet HS4.mod
 rw [← HI.out.2.2.1] at hc4
 obtain ⟨g,hg⟩:∃ g,g = w1.heap.size:=⟨_,rfl⟩
 obtain ⟨v,hv⟩:∃ v,v = w3.heap.size:=⟨_,rfl⟩
 obtain ⟨res,hres⟩:∃ res,res = w.heap.size + 1 + 1:=⟨_,rfl⟩
 obtain ⟨qb,hqb⟩:∃ qb,qb = w.heap.size + 1:=⟨_,rfl⟩
 obtain ⟨pb,hpb⟩:∃ pb,pb = w.heap.size:=⟨_,rfl⟩
 rw [show w.heap.size + 2 = w.heap.size + 1 + 1 from rfl] at HS4
 rw [← hv,← hg,← hres,← hqb,← hpb] at HS4
 rw [← hv,← hg,← hres,← hqb,← hpb]
 rw [← hg] at hc4
 generalize hw4:w3.alloc (.cells #[.slice (some ⟨g,0,none⟩) n n] 36) = w4 at *
 have hpw:w.heap.size ≤ g:=by omega
 clear hw4 hg hv hres hqb hpb hs1 hs3 HH HO
 have v0:w4.cell? ⟨v,0,none⟩ = some (.slice (some ⟨g,0,none⟩) n n):=(HS4.own_ 0 rfl).cell 0
 have p2:w4.cell? ⟨pb,2,none⟩ = some (.slice A n c):=(HS4.own_ 4 rfl).cell 2
 have x1:0 + n ≤ (u8s (List.replicate n 0)).length:=by simp [u8s]
 have HF:=Lib.hid (And.intro HS4 (And.intro hc4 x1))
 clear HS4 hc4 x1
 go_upto_region 7 with (refine wpList_copy_blk rfl (.tmp 24) (.tmp 26) _ _ rfl 5 Tryz.underlying36 (by kernel_rfl) (some ⟨g,0,none⟩) n n A n c (u8s pix) rfl rfl HF.out.2.1.2.2.1 g 0 _ 5 (HF.out.1.own_ 1 rfl) n (Nat.min_self _).symm (fun _=>rfl) HF.out.2.2 (u8s_one _) ?_;intro w5 hb5 hm5;have HB5:=Lib.hid (And.intro hb5 hm5);clear hb5 hm5)
 have hg5:Blk w5 g 5 (u8s pix).toArray:=by
  have h:=HB5.out.1
  have e:splice (u8s (List.replicate n 0)) 0 ((u8s pix).take n) = u8s pix:=by
   rw [List.take_of_length_le (by rw [u8s_length];have:=HI.out.2.2.2;omega)]
   unfold splice
   rw [List.drop_eq_nil_of_le (by simp [u8s];have:=HI.out.2.2.2;omega)]
   simp
  rwa [e] at h
 have HS5:=Sat.turn HB5.out.2 HF.out.1 hg5 (.there .here)
 clear HF HB5 hg5 v0 p2
 obtain ⟨qc,qf⟩:=(HS5.own_ 3 rfl).both
 obtain ⟨pc,pf⟩:=(HS5.own_ 4 rfl).both
 have H5:=Lib.hid HS5
 clear HS5
 go_wp2_with fail
 go_loopw [31] (DRows w (dpL v g res qb pb n W H q A c) n q W H (smRows q W H 0 pix)) (fun s _=>H - (intOf s).toNat)
 case atStart=>exact ⟨0,pix,by omega,rfl,HI.out.2.2.2,rfl,H5.out⟩
 case round=>
  clear H5 qc qf pc pf
  obtain ⟨y,L,hy,rfl,hL,hR,HS⟩:=hrel
  have HY:=Lib.hid (And.intro hL (And.intro hR HS))
  clear hL hR HS
  by_cases hlt:y < H
  ·have d1:decide ((y:Int) < (H:Int)) = true:=decide_eq_true (by omega)
   go_wp2_with fail
   go_loopw [9] (DRow w (dpL v g res qb pb n W H q A c) n q W y (smRow q W y W 8 L)) (fun s _=>W + 8 - (intOf s).toNat)
   case atStart=>exact ⟨8,W,L,by omega,by omega,by omega,rfl,HY.out.1,rfl,HY.out.2.2⟩
   case round=>
    rename World=>w6
    obtain ⟨x,f,L1,hx1,hx2,hf,rfl,hL1,hR1,HS1⟩:=hrel
    obtain ⟨pc,pf⟩:=(HS1.own_ 4 rfl).both
    have HX:=Lib.hid (And.intro hL1 (And.intro hR1 HS1))
    clear hL1 hR1 HS1
    by_cases hlx:x + 1 < W
    ·have d2:decide ((x:Int) + 1 < (W:Int)) = true:=decide_eq_true (by omega)
     obtain ⟨m0,hm0⟩:∃ m0,m0 = y * W:=⟨_,rfl⟩
     obtain ⟨b1,b2⟩:=at_in (x:=x) HI.out.2.2.1 hlt (by omega)
     rw [← hm0] at b1 b2
     have hmw:wrap64 ((y:Int) * (W:Int)) = (m0:Int):=by
      rw [show (y:Int) * (W:Int) = (m0:Int) by rw [hm0];simp]
      exact IntWalk.wrap64_in _ ⟨by omega,by omega⟩
     have HM:=Lib.hid (And.intro hm0 hmw)
     clear hm0 hmw
     go_wp2_with fail
     rw [HM.out.2,IntWalk.wrap64_in ((m0:Int) + (x:Int)) ⟨by omega,by omega⟩,show (m0:Int) + (x:Int) = ((m0 + x:Nat):Int) by omega]
     refine (dSmooth _ v qb g n q (m0 + x) 1 L1 HX.out.1 hq (by omega) (by omega) (by omega) ha (HX.out.2.2.own_ 0 rfl) (HX.out.2.2.own_ 3 rfl) (HX.out.2.2.own_ 1 rfl)).mono ?_
     rintro e w7 ⟨rfl,hb7,hm7⟩
     have HS7:=Sat.turn hm7 HX.out.2.2 hb7 (.there .here)
     clear hb7 hm7 pc pf
     have H7:=Lib.hid HS7
     clear HS7
     go_wp2_with fail
     go_roundw
     case rel=>
      obtain ⟨f',rfl⟩:∃ f',f = f' + 1:=⟨f - 1,by omega⟩
      refine ⟨x + 8,f',smo q L1 (m0 + x) 1,by omega,by omega,by omega,by go_num,by rw [smo_length];exact HX.out.1,?_,H7.out⟩
      have:=HX.out.2.1
      rw [smRow_step hlx,← HM.out.1] at this
      exact this
     case measure=>simp [intOf];omega
    ·have d2:decide ((x:Int) + 1 < (W:Int)) = false:=decide_eq_false (by omega)
     go_wp2_with fail
     go_roundw
     case rel=>
      have h1:=HX.out.2.1
      rw [smRow_done hlx] at h1
      refine ⟨y + 1,L1,by omega,by go_num,HX.out.1,?_,HX.out.2.2⟩
      rw [h1,← smRows_step hlt]
      exact HY.out.2.1
     case measure=>simp [intOf];omega
  ·obtain rfl:y = H:=by omega
   have hd:=HY.out.2.1
   rw [Nat.sub_self] at hd
   have hd:L = smRows q W y 0 pix:=hd
   subst hd
   have H5:=Lib.hid HY.out.2.2
   clear HY
   obtain ⟨pc,pf⟩:=(H5.out.own_ 4 rfl).both
   go_wp2_with fail
   clear pc pf
   go_loopw [52] (DCols w (dpL v g res qb pb n W y q A c) n q W y (smPlane q W y pix)) (fun s _=>W - (intOf s).toNat)
   case atStart=>exact ⟨0,_,by omega,rfl,by rw [smRows_length];exact HI.out.2.2.2,rfl,H5.out⟩
   case round=>
    clear H5
    rename World=>w8
    obtain ⟨x,L,hx,rfl,hL,hR,HS⟩:=hrel
    have HY:=Lib.hid (And.intro hL (And.intro hR HS))
    clear hL hR HS
    by_cases hlt:x < W
    ·have d1:decide ((x:Int) < (W:Int)) = true:=decide_eq_true (by omega)
     go_wp2_with fail
     go_loopw [11] (DCol w (dpL v g res qb pb n W y q A c) n q W y x (smCol q W y x y 8 L)) (fun s _=>y + 8 - (intOf s).toNat)
     case atStart=>exact ⟨8,y,L,by omega,by omega,by omega,rfl,HY.out.1,rfl,HY.out.2.2⟩
     case round=>
      rename World=>w6
      obtain ⟨z,f,L1,hz1,hz2,hf,rfl,hL1,hR1,HS1⟩:=hrel
      obtain ⟨pc,pf⟩:=(HS1.own_ 4 rfl).both
      have HX:=Lib.hid (And.intro hL1 (And.intro hR1 HS1))
      clear hL1 hR1 HS1
      by_cases hlz:z + 1 < y
      ·have d2:decide ((z:Int) + 1 < (y:Int)) = true:=decide_eq_true (by omega)
       obtain ⟨m0,hm0⟩:∃ m0,m0 = z * W:=⟨_,rfl⟩
       obtain ⟨b1,b2⟩:=at_in (x:=x) HI.out.2.2.1 hlz hlt
       rw [Nat.add_mul,Nat.one_mul,← hm0] at b1 b2
       have b3:8 * W ≤ m0:=by rw [hm0];exact Nat.mul_le_mul_right W hz1
       have hmw:wrap64 ((z:Int) * (W:Int)) = (m0:Int):=by
        rw [show (z:Int) * (W:Int) = (m0:Int) by rw [hm0];simp]
        exact IntWalk.wrap64_in _ ⟨by omega,by omega⟩
       have HM:=Lib.hid (And.intro hm0 hmw)
       clear hm0 hmw
       go_wp2_with fail
       rw [HM.out.2,IntWalk.wrap64_in ((m0:Int) + (x:Int)) ⟨by omega,by omega⟩,show (m0:Int) + (x:Int) = ((m0 + x:Nat):Int) by omega]
       refine (dSmooth _ v qb g n q (m0 + x) W L1 HX.out.1 hq (by omega) (by omega) (by omega) ha (HX.out.2.2.own_ 0 rfl) (HX.out.2.2.own_ 3 rfl) (HX.out.2.2.own_ 1 rfl)).mono ?_
       rintro e w7 ⟨rfl,hb7,hm7⟩
       have HS7:=Sat.turn hm7 HX.out.2.2 hb7 (.there .here)
       clear hb7 hm7 pc pf
       have H7:=Lib.hid HS7
       clear HS7
       go_wp2_with fail
       go_roundw
       case rel=>
        obtain ⟨f',rfl⟩:∃ f',f = f' + 1:=⟨f - 1,by omega⟩
        refine ⟨z + 8,f',smo q L1 (m0 + x) W,by omega,by omega,by omega,by go_num,by rw [smo_length];exact HX.out.1,?_,H7.out⟩
        have:=HX.out.2.1
        rw [smCol_step hlz,← HM.out.1] at this
        exact this
       case measure=>simp [intOf];omega
      ·have d2:decide ((z:Int) + 1 < (y:Int)) = false:=decide_eq_false (by omega)
       go_wp2_with fail
       go_roundw
       case rel=>
        have h1:=HX.out.2.1
        rw [smCol_done hlz] at h1
        refine ⟨x + 1,L1,by omega,by go_num,HX.out.1,?_,HX.out.2.2⟩
        rw [h1,← smCols_step hlt]
        exact HY.out.2.1
       case measure=>simp [intOf];omega
    ·obtain rfl:x = W:=by omega
     have hd:=HY.out.2.1
     rw [Nat.sub_self] at hd
     have hd:L = smPlane q x y pix:=hd
     subst hd
     obtain ⟨pc,pf⟩:=(HY.out.2.2.own_ 4 rfl).both
     obtain ⟨rc,rf⟩:=(HY.out.2.2.own_ 2 rfl).both
     have v0:w8.cell? ⟨v,0,none⟩ = some (.slice (some ⟨g,0,none⟩) n n):=(HY.out.2.2.own_ 0 rfl).cell 0
     have n1:=HY.out.2.2.apart 0 2 rfl rfl (by omega)
     have n2:=HY.out.2.2.apart 2 4 rfl rfl (by omega)
     have n3:=HY.out.2.2.apart 1 2 rfl rfl (by omega)
     dsimp only at n1 n2 n3
     have rl:=(HY.out.2.2.own_ 2 rfl).lt
     go_wp2_with fail
     have HE:=((HY.out.2.2.put (g:=res) (i:=0) (u:=.int .i64 (x:Int)) (.there (.there (.here rfl)))).put (g:=res) (i:=1) (u:=.int .i64 (y:Int)) (.there (.there (.here rfl)))).put (g:=res) (i:=2) (u:=.slice (some ⟨g,0,none⟩) n n) (.there (.there (.here rfl)))
     refine bodyPost_ret (v:=.tuple #[.agg #[.int .i64 (x:Int),.int .i64 (y:Int),.slice (some ⟨g,0,none⟩) n n],.int .i64 0]) (by simp [results,Tryz.results92,go_sem,rc]) rfl ⟨g,rfl,HE.own_ 1 rfl,hpw,HE.mod⟩
end Go.Proofs.YtmkopcojnibhlaaGreatDoor

