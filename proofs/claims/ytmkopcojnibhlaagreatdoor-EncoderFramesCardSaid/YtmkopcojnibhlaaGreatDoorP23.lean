/-
  The reference's Right at any sides. Written by gen_rrighta.py.
-/
import Derived.Test.YtmkopcojnibhlaaGreatDoorP0
import Derived.Test.YtmkopcojnibhlaaGreatDoorP9
import Derived.Test.YtmkopcojnibhlaaGreatDoorP22
import Derived.Test.YtmkopcojnibhlaaGreatDoorP6
import Derived.Test.YtmkopcojnibhlaaGreatDoorP10
import Derived.Test.YtmkopcojnibhlaaGreatDoorP1
namespace Go.Proofs.YtmkopcojnibhlaaGreatDoor
open Go.RowKit
set_option maxRecDepth 100000
set_option maxHeartbeats 8000000
theorem sr_no (W H G:Int) (h:¬ ((16 ≤ W ∧ W ≤ 4096 ∧ W.tmod 16 = 0) ∧ (16 ≤ H ∧ H ≤ 4096 ∧ H.tmod 16 = 0) ∧ 1 ≤ G ∧ G ≤ 64)):seqRight W H G = false:=by
 unfold seqRight
 rw [decide_eq_false_iff_not]
 rintro ⟨⟨a,b,c⟩,⟨d,e,f⟩,k⟩
 exact h ⟨⟨a,b,by rw [Int.tmod_eq_emod_of_nonneg (by omega)];exact c⟩,⟨d,e,by rw [Int.tmod_eq_emod_of_nonneg (by omega)];exact f⟩,k⟩
theorem sr_yes (W H G:Int) (h:(16 ≤ W ∧ W ≤ 4096 ∧ W.tmod 16 = 0) ∧ (16 ≤ H ∧ H ≤ 4096 ∧ H.tmod 16 = 0) ∧ 1 ≤ G ∧ G ≤ 64):seqRight W H G = true:=by
 obtain ⟨⟨a,b,c⟩,⟨d,e,f⟩,k⟩:=h
 rw [Int.tmod_eq_emod_of_nonneg (by omega)] at c f
 unfold seqRight
 rw [decide_eq_true_eq]
 exact ⟨⟨a,b,c⟩,⟨d,e,f⟩,k⟩
theorem refRightA (w:World) (W H G:Int):Calls Tryz.prog 40 #[.agg #[.int .i64 W,.int .i64 H,.int .i64 G]] w fun e w'=>e = .returned (.bool (seqRight W H G)) ∧ Mod (fun _=>False) w w':=by
 by_cases c0:W.tmod 16 = 0
 ·have b0:(W.tmod 16 == 0) = true:=by simp [c0]
  by_cases c1:H.tmod 16 = 0
  ·have b1:(H.tmod 16 == 0) = true:=by simp [c1]
   by_cases c2:16 ≤ W
   ·have b2:decide (16 ≤ W) = true:=by simp;omega
    have b0e:((W % 16) == 0) = true:=by rw [← Int.tmod_eq_emod_of_nonneg (by omega)];exact b0
    by_cases c3:16 ≤ H
    ·have b3:decide (16 ≤ H) = true:=by simp;omega
     have b1e:((H % 16) == 0) = true:=by rw [← Int.tmod_eq_emod_of_nonneg (by omega)];exact b1
     by_cases c4:W ≤ 4096
     ·have b4:decide (W ≤ 4096) = true:=by simp;omega
      by_cases c5:H ≤ 4096
      ·have b5:decide (H ≤ 4096) = true:=by simp;omega
       by_cases c6:1 ≤ G
       ·have b6:decide (1 ≤ G) = true:=by simp;omega
        by_cases c7:G ≤ 64
        ·have b7:decide (G ≤ 64) = true:=by simp;omega
         have hr:seqRight W H G = true:=sr_yes W H G ⟨⟨c2,c4,c0⟩,⟨c3,c5,c1⟩,c6,c7⟩
         clear c0 c1
         have HR:=Lib.hid hr
         clear hr
         go_enter Tryz.func40,Tryz.ntmps40
         go_wp2_with fail
         go_ret
         exact ⟨congrArg (fun b=>Ending.returned (.bool b)) HR.out.symm,(Mod.refl _ _).alloc _⟩
        ·have b7:decide (G ≤ 64) = false:=by simp;omega
         have hr:seqRight W H G = false:=sr_no W H G (fun h=>absurd h (by rintro ⟨⟨a,b,c⟩,⟨d,e,f⟩,k,m⟩;exact c7 (by assumption)))
         clear c7 c0 c1
         have HR:=Lib.hid hr
         clear hr
         go_enter Tryz.func40,Tryz.ntmps40
         go_wp2_with fail
         go_ret
         exact ⟨congrArg (fun b=>Ending.returned (.bool b)) HR.out.symm,(Mod.refl _ _).alloc _⟩
       ·have b6:decide (1 ≤ G) = false:=by simp;omega
        have hr:seqRight W H G = false:=sr_no W H G (fun h=>absurd h (by rintro ⟨⟨a,b,c⟩,⟨d,e,f⟩,k,m⟩;exact c6 (by assumption)))
        clear c6 c0 c1
        have HR:=Lib.hid hr
        clear hr
        go_enter Tryz.func40,Tryz.ntmps40
        go_wp2_with fail
        go_ret
        exact ⟨congrArg (fun b=>Ending.returned (.bool b)) HR.out.symm,(Mod.refl _ _).alloc _⟩
      ·have b5:decide (H ≤ 4096) = false:=by simp;omega
       have hr:seqRight W H G = false:=sr_no W H G (fun h=>absurd h (by rintro ⟨⟨a,b,c⟩,⟨d,e,f⟩,k,m⟩;exact c5 (by assumption)))
       clear c5 c0 c1
       have HR:=Lib.hid hr
       clear hr
       go_enter Tryz.func40,Tryz.ntmps40
       go_wp2_with fail
       go_ret
       exact ⟨congrArg (fun b=>Ending.returned (.bool b)) HR.out.symm,(Mod.refl _ _).alloc _⟩
     ·have b4:decide (W ≤ 4096) = false:=by simp;omega
      have hr:seqRight W H G = false:=sr_no W H G (fun h=>absurd h (by rintro ⟨⟨a,b,c⟩,⟨d,e,f⟩,k,m⟩;exact c4 (by assumption)))
      clear c4 c0 c1
      have HR:=Lib.hid hr
      clear hr
      go_enter Tryz.func40,Tryz.ntmps40
      go_wp2_with fail
      go_ret
      exact ⟨congrArg (fun b=>Ending.returned (.bool b)) HR.out.symm,(Mod.refl _ _).alloc _⟩
    ·have b3:decide (16 ≤ H) = false:=by simp;omega
     have hr:seqRight W H G = false:=sr_no W H G (fun h=>absurd h (by rintro ⟨⟨a,b,c⟩,⟨d,e,f⟩,k,m⟩;exact c3 (by assumption)))
     clear c3 c0 c1
     have HR:=Lib.hid hr
     clear hr
     go_enter Tryz.func40,Tryz.ntmps40
     go_wp2_with fail
     go_ret
     exact ⟨congrArg (fun b=>Ending.returned (.bool b)) HR.out.symm,(Mod.refl _ _).alloc _⟩
   ·have b2:decide (16 ≤ W) = false:=by simp;omega
    have hr:seqRight W H G = false:=sr_no W H G (fun h=>absurd h (by rintro ⟨⟨a,b,c⟩,⟨d,e,f⟩,k,m⟩;exact c2 (by assumption)))
    clear c2 c0 c1
    have HR:=Lib.hid hr
    clear hr
    go_enter Tryz.func40,Tryz.ntmps40
    go_wp2_with fail
    go_ret
    exact ⟨congrArg (fun b=>Ending.returned (.bool b)) HR.out.symm,(Mod.refl _ _).alloc _⟩
  ·have b1:(H.tmod 16 == 0) = false:=by simp [c1]
   have hr:seqRight W H G = false:=sr_no W H G (fun h=>absurd h (by rintro ⟨⟨a,b,c⟩,⟨d,e,f⟩,k,m⟩;exact c1 (by assumption)))
   clear c1 c0
   have HR:=Lib.hid hr
   clear hr
   go_enter Tryz.func40,Tryz.ntmps40
   go_wp2_with fail
   go_ret
   exact ⟨congrArg (fun b=>Ending.returned (.bool b)) HR.out.symm,(Mod.refl _ _).alloc _⟩
 ·have b0:(W.tmod 16 == 0) = false:=by simp [c0]
  have hr:seqRight W H G = false:=sr_no W H G (fun h=>absurd h (by rintro ⟨⟨a,b,c⟩,⟨d,e,f⟩,k,m⟩;exact c0 (by assumption)))
  clear c0
  have HR:=Lib.hid hr
  clear hr
  go_enter Tryz.func40,Tryz.ntmps40
  go_wp2_with fail
  go_ret
  exact ⟨congrArg (fun b=>Ending.returned (.bool b)) HR.out.symm,(Mod.refl _ _).alloc _⟩
def Fits14 (w:World) (n:Nat) (fs:List FrX) (e:Ending) (w':World):Prop:=
 ∃ b,e = .returned (.bool b) ∧ (b = true → n ≤ 6 ∧ ∀ j,j < n → (fs.getD j FrX.zero).fitsB = true) ∧ Mod (fun _=>False) w w'
def fitsRel14 (w:World) (n:Nat) (fs:List FrX) (v:Value) (wr:World):Prop:=∃ k:Nat,k ≤ n ∧ k ≤ 6 ∧ v = .int .i64 (k:Int) ∧ (∀ j,j < k → (fs.getD j FrX.zero).fitsB = true) ∧ Mod (fun _=>False) w wr
theorem lFits14 (w:World) (A:Option Addr) (n c:Nat) (fs:List FrX) (h:FrsIn w A n fs) (hn:n ≤ 9223372036854775807):Calls Tryz.prog 11 #[.slice A n c] w (Fits14 w n fs):=by
 have HH:=Lib.hid h
 clear h
 go_enter Tryz.func11,Tryz.ntmps11
 go_wp2_with fail
 go_loopw [3] (fitsRel14 w n fs) (fun i _=>n - (intOf i).toNat)
 case atStart=>exact ⟨0,by omega,by omega,rfl,fun j h=>absurd h (by omega),Mod.refl _ _⟩
 case round=>
  rename World=>wr
  obtain ⟨k,hk,hk6,rfl,hall,hM⟩:=hrel
  by_cases hlt:k < n
  ·obtain ⟨b,o,hA,hb,hcells,hin⟩:=(HH.out.quiet hM).at_ k hlt
   subst hA
   have d1:decide ((k:Int) < (n:Int)) = true:=decide_eq_true (by omega)
   obtain ⟨f,hf⟩:∃ f,f = fs.getD k FrX.zero:=⟨_,rfl⟩
   rw [← hf] at hcells hin
   have hLF:=lawFitsFrame wr f hin
   obtain ⟨t,ht⟩:∃ t,t = f.fitsB:=⟨_,rfl⟩
   rw [← ht] at hLF
   have k0:wr.cell? ⟨b,o + k * 9,none⟩ = some (.int .i64 f.W0):=hcells 0 _ rfl
   have k1:=hcells 1 _ rfl
   have k2:=hcells 2 _ rfl
   have k3:=hcells 3 _ rfl
   have k4:=hcells 4 _ rfl
   have k5:=hcells 5 _ rfl
   have k6:=hcells 6 _ rfl
   have k7:=hcells 7 _ rfl
   have k8:=hcells 8 _ rfl
   unfold FrX.cells at hLF
   have HL:=Lib.hid (And.intro hLF (And.intro hall (And.intro hM (And.intro hf ht))))
   clear hLF hall hM hf ht hcells hin
   go_wp2_with fail
   refine HL.out.1.mono ?_
   rintro e w2 ⟨rfl,hm2⟩
   have H2:=Lib.hid (HL.out.2.2.1.trans hm2)
   clear hm2 k0 k1 k2 k3 k4 k5 k6 k7 k8
   cases t
   ·go_wp2_with fail
    go_ret
    exact ⟨false,rfl,fun h=>(by cases h),H2.out⟩
   ·by_cases h6:k = 6
    ·have d2:((k:Int) == 6) = true:=by simp;omega
     clear h6
     go_wp2_with fail
     go_ret
     exact ⟨false,rfl,fun h=>(by cases h),H2.out⟩
    ·have d2:((k:Int) == 6) = false:=by simp;omega
     go_wp2_with fail
     go_roundw
     case rel=>
      refine ⟨k + 1,by omega,by omega,by go_num,fun j hj=>?_,H2.out⟩
      by_cases e:j = k
      ·rw [e,← HL.out.2.2.2.1,← HL.out.2.2.2.2]
      ·exact HL.out.2.1 j (by omega)
     case measure=>simp [intOf];omega
  ·obtain rfl:k = n:=by omega
   have d1:decide ((k:Int) < (k:Int)) = false:=decide_eq_false (by omega)
   have HL:=Lib.hid (And.intro hall hM)
   clear hall hM
   go_wp2_with fail
   go_ret
   exact ⟨true,rfl,fun _=>⟨hk6,HL.out.1⟩,HL.out.2⟩
def Small14 (w:World) (W H G:Int) (e:Ending) (w':World):Prop:=
 ∃ b,e = .returned (.bool b) ∧ (b = true → seqRight W H G = true → W ≤ 32 ∧ H ≤ 32) ∧ Mod (fun _=>False) w w'
theorem lSmall14 (w:World) (W H G:Int):Calls Tryz.prog 12 #[.agg #[.int .i64 W,.int .i64 H,.int .i64 G]] w (Small14 w W H G):=by
 have hs:=(Sat.nil (fun _=>False) w).alloc 23 #[.int .i64 W,.int .i64 H,.int .i64 G] rfl
 have HS:=Lib.hid hs
 clear hs
 go_enter Tryz.func12,Tryz.ntmps12
 go_wp2_with fail
 refine (refRightA _ W H G).mono ?_
 rintro e w1 ⟨rfl,hm1⟩
 have hs1:=Sat.after hm1 HS.out
 have hq:=hs1.own_ 0 rfl
 dsimp only at hq
 obtain ⟨s0,sf⟩:=hq.both
 have sw:w1.cell? ⟨w.heap.size,0,none⟩ = some (.int .i64 W):=s0 0
 have sh:w1.cell? ⟨w.heap.size,1,none⟩ = some (.int .i64 H):=s0 1
 have H1:=Lib.hid hs1
 clear hm1 hs1 hq s0 sf
 cases hr:seqRight W H G
 ·have HR:=Lib.hid hr
  clear hr
  go_wp2_with fail
  go_ret
  exact ⟨true,rfl,fun _ h=>(by cases h.symm.trans HR.out),H1.out.mod⟩
 ·have HR:=Lib.hid hr
  clear hr
  by_cases hw:W ≤ 32
  ·have d1:decide (W ≤ 32) = true:=decide_eq_true hw
   by_cases hh:H ≤ 32
   ·have d2:decide (H ≤ 32) = true:=decide_eq_true hh
    go_wp2_with fail
    go_ret
    exact ⟨true,rfl,fun _ _=>⟨hw,hh⟩,H1.out.mod⟩
   ·have d2:decide (H ≤ 32) = false:=decide_eq_false hh
    go_wp2_with fail
    go_ret
    exact ⟨false,rfl,fun h=>(by cases h),H1.out.mod⟩
  ·have d1:decide (W ≤ 32) = false:=decide_eq_false hw
   go_wp2_with fail
   go_ret
   exact ⟨false,rfl,fun h=>(by cases h),H1.out.mod⟩
theorem newQ_bd {q tg G n:Nat} (hq:q ≤ 31):newQ q tg G n ≤ 31 ∧ newQ q tg G n ≤ q + 1 ∧ q ≤ newQ q tg G n + 1:=by
 unfold newQ
 split
 ·split
  ·omega
  ·split <;> omega
 ·omega
theorem newN_lt {nu G:Nat} (hG:1 ≤ G):newN nu G < G:=by
 unfold newN
 split <;> omega
theorem fPSide (w:World) (n:Nat) (h1:1 ≤ n) (h2:n ≤ 4096):Calls Tryz.prog 152 #[.int .i64 (n:Int)] w fun e w'=>e = .returned (.bool true) ∧ w = w':=by
 have d1:decide (1 ≤ (n:Int)) = true:=decide_eq_true (by omega)
 have d2:decide ((n:Int) ≤ 4096) = true:=decide_eq_true (by omega)
 go_enter Tryz.func152,Tryz.ntmps152
 go_wp2_with fail
 go_ret
 exact ⟨rfl,rfl⟩
theorem fPRight (w:World) (W H:Nat) (A:Option Addr) (n c:Nat) (h:sidesB W H = true) (hn:n = W * H):Calls Tryz.prog 94 #[.agg #[.int .i64 (W:Int),.int .i64 (H:Int),.slice A n c]] w fun e w'=>e = .returned (.bool true) ∧ Mod (fun _=>False) w w':=by
 obtain ⟨ha,h1,h2,h3,h4,h5⟩:=area_le h
 rw [← hn] at ha h5
 have e1:wrap64 ((W:Int) * (H:Int)) = (n:Int):=by
  rw [show (W:Int) * (H:Int) = (n:Int) by rw [hn];simp]
  exact IntWalk.wrap64_in _ ⟨by omega,by omega⟩
 have HE:=Lib.hid e1
 clear hn e1
 go_enter Tryz.func94,Tryz.ntmps94
 go_wp2_with fail
 refine (fPSide _ W h1 h2).mono ?_
 rintro e w1 ⟨rfl,rfl⟩
 go_wp2_with fail
 refine (fPSide _ H h3 h4).mono ?_
 rintro e w1 ⟨rfl,rfl⟩
 have e1:=HE.out
 go_wp2_with fail
 go_ret
 exact ⟨rfl,(Mod.refl _ _).alloc _⟩
theorem fNear (w:World) (v:Int) (m:Nat) (h:1 ≤ m) (hm:m ≤ 4096):Calls Tryz.prog 231 #[.int .i64 v,.int .i64 (m:Int)] w fun e w'=>e = .returned (.int .i64 ((near v m:Nat):Int)) ∧ w = w':=by
 unfold near
 by_cases h1:v < 0
 ·have d1:decide (v < 0) = true:=decide_eq_true h1
  rw [if_pos h1]
  clear h1
  go_enter Tryz.func231,Tryz.ntmps231
  go_wp2_with fail
  go_ret
  exact ⟨rfl,rfl⟩
 ·rw [if_neg h1]
  have d1:decide (v < 0) = false:=decide_eq_false h1
  by_cases h2:(m:Int) - 1 < v
  ·rw [if_pos h2]
   have d2:decide ((m:Int) ≤ v) = true:=decide_eq_true (by omega)
   have e1:Hid (((m - 1:Nat):Int) = (m:Int) - 1):=by show _ = _;omega
   clear h1 h2
   go_enter Tryz.func231,Tryz.ntmps231
   go_wp2_with fail
   go_ret
   exact ⟨by rw [e1.out];rfl,rfl⟩
  ·rw [if_neg h2]
   have d2:decide ((m:Int) ≤ v) = false:=decide_eq_false (by omega)
   have e1:Hid (((v.toNat:Nat):Int) = v):=by show _ = _;omega
   clear h1 h2
   go_enter Tryz.func231,Tryz.ntmps231
   go_wp2_with fail
   go_ret
   exact ⟨by rw [e1.out];rfl,rfl⟩
theorem quiet_fNear (w:World) (v:Int) (m:Nat) (h:1 ≤ m) (hm:m ≤ 4096) (n:Nat):Calls Tryz.prog 231 #[.int .i64 v,.int .i64 (m:Int)] (w.drewN n) fun e w'=>e = .returned (.int .i64 ((near v m:Nat):Int)) ∧ w' = w.drewN n:=(fNear _ v m h hm).mono fun _ _ ⟨a,b⟩=>⟨a,b.symm⟩
theorem fShifted (w:World) (x i:Int) (hx:-1048576 ≤ x ∧ x ≤ 1048576) (hi:0 ≤ i ∧ i ≤ 64):Calls Tryz.prog 218 #[.int .i64 x,.int .i64 i] w fun e w'=>e = .returned (.int .i64 (x + i)) ∧ w = w':=by
 obtain ⟨h1,h2⟩:=hx
 obtain ⟨h3,h4⟩:=hi
 have d1:decide (4611686018427387904 < x) = false:=decide_eq_false (by omega)
 go_enter Tryz.func218,Tryz.ntmps218
 go_wp2_with fail
 go_ret
 exact ⟨rfl,rfl⟩
theorem fAt (w:World) (W H:Nat) (A:Option Addr) (n c:Nat) (pix:List UInt8) (h:sidesB W H = true) (hn:n = W * H) (hin:BytesIn w A n c pix) (x y:Int) :
  Calls Tryz.prog 182 #[.agg #[.int .i64 (W:Int),.int .i64 (H:Int),.slice A n c],.int .i64 x,.int .i64 y] w fun e w'=>e = .returned (.int .u8 ((patL W H pix x y).toNat:Int)) ∧ Mod (fun _=>False) w w':=by
 obtain ⟨ha,h1,h2,h3,h4,h5⟩:=area_le h
 have hna:=near_area W H x y h
 have hb0:Blk (w.alloc (.cells #[.int .i64 (W:Int),.int .i64 (H:Int),.slice A n c] 38)) w.heap.size 38 #[.int .i64 (W:Int),.int .i64 (H:Int),.slice A n c]:=Blk.new _ _ _
 have m0:Mod (fun _=>False) w (w.alloc (.cells #[.int .i64 (W:Int),.int .i64 (H:Int),.slice A n c] 38)):=(Mod.refl _ _).alloc _
 have R1:=fPRight (w.alloc (.cells #[.int .i64 (W:Int),.int .i64 (H:Int),.slice A n c] 38)) W H A n c h hn
 rw [← hn] at hna ha h5
 obtain ⟨b,off,hA,hb,hcell⟩:=hin.place (by omega)
 subst hA
 obtain ⟨k,hk⟩:∃ k,k = near y H * W + near x W:=⟨_,rfl⟩
 rw [← hk] at hna
 have hck:=hcell k hna
 have HP:Hid ((patL W H pix x y).toNat = (pix.getD k 0).toNat):=by show _ = _;rw [hk];rfl
 have s0:(near y H:Int) * (W:Int) = ((near y H * W:Nat):Int):=by simp
 have s1:IntKind.i64.wrap ((near y H:Int) * (W:Int)) = (near y H:Int) * (W:Int):=by
  rw [s0]
  exact IntWalk.i64_in _ ⟨by omega,by omega⟩
 have s2:IntKind.i64.wrap ((near y H:Int) * (W:Int) + (near x W:Int)) = (k:Int):=by
  rw [s0,show ((near y H * W:Nat):Int) + (near x W:Int) = (k:Int) by omega]
  exact IntWalk.i64_in _ ⟨by omega,by omega⟩
 clear s0
 have HS:=Lib.hid (And.intro s1 s2)
 have HH:=Lib.hid (And.intro hb0 (And.intro m0 (And.intro hck hn)))
 clear hcell hk s1 s2 hb0 m0 hck hn hin
 go_enter Tryz.func182,Tryz.ntmps182
 go_wp2_with fail
 refine R1.mono ?_
 clear R1
 rintro e w1 ⟨rfl,hm1⟩
 have hb1:=HH.out.1.keep hm1 (fun h=>h)
 have c0:w1.cell? ⟨w.heap.size,0,none⟩ = some (.int .i64 (W:Int)):=hb1.cell 0
 have c1:w1.cell? ⟨w.heap.size,1,none⟩ = some (.int .i64 (H:Int)):=hb1.cell 1
 have c2:w1.cell? ⟨w.heap.size,2,none⟩ = some (.slice (some ⟨b,off,none⟩) n c):=hb1.cell 2
 have M1:=HH.out.2.1.trans hm1
 have k1:w1.cell? ⟨b,off + k,none⟩ = some (.int .u8 ((pix.getD k 0).toNat:Int)):=(World.cell?_of_block (M1.block b hb (fun h=>h))).trans HH.out.2.2.1
 have HM:=Lib.hid M1
 clear hb1 hm1 M1
 have p1:(0:Int) ≤ (k:Int):=by omega
 have p2:(k:Int) < (n:Int):=by omega
 generalize (pix.getD k 0).toNat = px at *
 go_upto_region 4 with (fail)
 obtain ⟨s1,s2⟩:=HS.out
 go_quiet ((go_at_call 231;exact Calls.quiet_of_same (quiet_fNear _ _ _ (by assumption) (by assumption) _)))
 clear s1 s2
 go_wp2_with fail
 go_ret
 exact ⟨by rw [HP.out];rfl,HM.out.drewN _⟩
theorem rclip_any (w:World) (v:Int):Calls Tryz.prog 229 #[.int .i64 v] w fun e w'=>e = .returned (.int .u8 ((clipN v:Nat):Int)) ∧ w = w':=by
 unfold clipN
 by_cases h1:v < 0
 ·rw [if_pos h1]
  go_enter Tryz.func229,Tryz.ntmps229
  go_wp2_with fail
  go_ret
  exact ⟨rfl,rfl⟩
 ·rw [if_neg h1]
  by_cases h2:255 < v
  ·rw [if_pos h2]
   go_enter Tryz.func229,Tryz.ntmps229
   go_wp2_with fail
   go_ret
   exact ⟨rfl,rfl⟩
  ·rw [if_neg h2]
   have e3:v % 256 = ((v.toNat:Nat):Int):=by omega
   have e4:v = ((v.toNat:Nat):Int):=by omega
   generalize v.toNat = n at *
   subst e4
   clear e3
   go_enter Tryz.func229,Tryz.ntmps229
   go_wp2_with fail
   go_ret
   exact ⟨rfl,rfl⟩
theorem clipL_at (g:List UInt8) (r:List Int):clipL g r = (List.range g.length).map fun i=>UInt8.ofNat (clipAt g r i):=by
 unfold clipL cpL
 refine List.map_congr_left fun i hi=>?_
 rw [if_pos (List.mem_range.1 hi)]
def clipTo (g:List UInt8) (r:List Int) (k:Nat):List UInt8:=(List.range k).map fun i=>UInt8.ofNat (clipAt g r i)
theorem clipTo_succ (g:List UInt8) (r:List Int) (k:Nat):clipTo g r (k + 1) = clipTo g r k ++ [UInt8.ofNat (clipAt g r k)]:=by simp [clipTo,List.range_succ]
def RClipRel (w:World) (g:List UInt8) (r:List Int) (v i:Value) (wr:World):Prop:=
 ∃ k:Nat,k ≤ g.length ∧ i = .int .i64 k ∧ Bytes wr w.heap.size v (clipTo g r k) ∧ Mod (fun _=>False) w wr
theorem clipN_hi (v:Int) (h:255 ≤ v):clipN v = 255:=by unfold clipN;rw [if_neg (by omega)];split <;> omega
theorem clipN_lo (v:Int) (h:v ≤ 0):clipN v = 0:=by unfold clipN;split;rfl;rw [if_neg (by omega)];omega
theorem clip300 (x:Nat) (y:Int) (hx:x < 256):clipN ((x:Int) + min (max y (-255)) 255) = clipN ((x:Int) + min (max y (-300)) 300):=by
 by_cases h1:y < -255
 ·rw [clipN_lo _ (by omega),clipN_lo _ (by omega)]
 ·by_cases h2:255 < y
  ·rw [clipN_hi _ (by omega),clipN_hi _ (by omega)]
  ·rw [show min (max y (-255)) 255 = y by omega,show min (max y (-300)) 300 = y by omega]
theorem rclipAll (w:World) (A:Option Addr) (n c:Nat) (g:List UInt8) (A2:Option Addr) (c2:Nat) (r:List Int) (hin:BytesIn w A n c g) (hin2:IntsIn w A2 n c2 r) (hn0:0 < n) (hn:n ≤ 1048576) :
  Calls Tryz.prog 178 #[.slice A n c,.slice A2 n c2] w fun e w'=>∃ v,e = .returned v ∧ Bytes w' w.heap.size v (clipL g r) ∧ Mod (fun _=>False) w w':=by
 obtain ⟨i0,hi0,hz0,hz1,hz2⟩:=info_parts u8_info
 obtain rfl:g.length = n:=hin.1
 obtain ⟨b,off,rfl,hb,hc⟩:=hin.place hn0
 obtain ⟨b2,off2,rfl,hb2,hc2⟩:=hin2.place hn0
 have HC:=Lib.hid (And.intro hc hc2)
 clear hc hc2 hin hin2
 go_enter Tryz.func178,Tryz.ntmps178
 go_wp2_with fail
 go_loopw [5,6] (RClipRel w g r) (fun _ i _=>g.length - (intOf i).toNat)
 case atStart=>exact ⟨0,by omega,rfl,World.ownsRow_nil _ _ _ _,Mod.refl _ _⟩
 case round=>
  obtain ⟨k,hk,rfl,hrow,hM⟩:=hrel
  by_cases hlt:k < g.length
  ·have hck:wr.cell? ⟨b,off + k,none⟩ = some (.int .u8 ((g.getD k 0).toNat:Int)):=(World.cell?_of_block (hM.block b hb (fun h=>h))).trans (HC.out.1 k hlt)
   have hck2:wr.cell? ⟨b2,off2 + k,none⟩ = some (.int .i64 (r.getD k 0)):=(World.cell?_of_block (hM.block b2 hb2 (fun h=>h))).trans (HC.out.2 k hlt)
   have hx:(g.getD k 0).toNat < 256:=UInt8.toNat_lt _
   have HFA:Hid (clipAt g r k = clipN (((g.getD k 0).toNat:Int) + min (max (r.getD k 0) (-300)) 300)):=clip300 _ _ hx
   generalize (g.getD k 0).toNat = x at *
   generalize r.getD k 0 = y at *
   have i1:(0:Int) ≤ (k:Int):=by omega
   have i2:(k:Int) < (g.length:Int):=by omega
   obtain ⟨A5,c5,hv5⟩:=own_shape hrow
   subst hv5
   have hlk:(clipTo g r k).length = k:=by simp [clipTo]
   have hwl:=World.block_lt_of_cell? _ _ hck
   have hwl2:=World.block_lt_of_cell? _ _ hck2
   have hrow':wr.ownsRow w.heap.size 5 1 (.slice A5 k c5) k (u8s (clipTo g r k)):=by
    unfold Bytes at hrow
    rwa [hlk] at hrow
   have HB:=Lib.hid (And.intro hrow' hM)
   rw [hlk]
   clear hlk hrow hrow' hM
   obtain ⟨z,hz,hz2'⟩:∃ z,z = min (max y (-300)) 300 ∧ -300 ≤ z ∧ z ≤ 300:=⟨_,rfl,by omega,by omega⟩
   rw [← hz] at HFA
   have y1:IntKind.i64.wrap ((x:Int) + z) = (x:Int) + z:=IntWalk.i64_in _ ⟨by omega,by omega⟩
   have q1:k + 1 ≤ maxLen:=by unfold maxLen;omega
   have q2:(k + 1) * 1 ≤ 140737488355328:=by omega
   have q3:∀ o,w.heap.size ≤ ((wr.drew).alloc o).heap.size:=fun o=>by have:=HB.out.2.size;simp;omega
   have q4:¬ (Value.slice A5 k c5).ownBlock = some b:=fun e=>by have:=(HB.out.1.lt b e).1;omega
   have q5:¬ (Value.slice A5 k c5).ownBlock = some b2:=fun e=>by have:=(HB.out.1.lt b2 e).1;omega
   have HX:=Lib.hid (And.intro q1 (And.intro q2 (And.intro (q3 (.cells #[.int .u8 ((clipN ((x:Int) + z):Nat):Int)] 5)) (And.intro q4 q5))))
   clear q1 q2 q3 q4 q5
   have hy:y < -300 ∨ 300 < y ∨ (-300 ≤ y ∧ y ≤ 300):=by omega
   have hy':y < -300 ∨ (¬ y < -300 ∧ 300 < y) ∨ (¬ y < -300 ∧ ¬ 300 < y):=by omega
   clear hy
   rcases hy' with hy | ⟨hy1,hy2⟩ | ⟨hy1,hy2⟩
   ·have ez:(x:Int) + -300 = (x:Int) + z:=by omega
    have y2:IntKind.i64.wrap (IntKind.i64.wrap (x:Int) + -300) = (x:Int) + z:=by rw [IntWalk.i64_in (x:Int) ⟨by omega,by omega⟩,ez];exact y1
    have HV:Hid (clipN ((x:Int) + z) = clipAt g r k):=HFA.out.symm
    have hcn:=clipN_lt ((x:Int) + z)
    clear ez hz y1 HFA
    go_upto_region 7 with (fail)
    have ka:((wr.drew).alloc (.cells #[.int .u8 ((clipN ((x:Int) + z):Nat):Int)] 5)).cell? ⟨b,off + k,none⟩ = some (.int .u8 (x:Int)) ∧ ((wr.drew).alloc (.cells #[.int .u8 ((clipN ((x:Int) + z):Nat):Int)] 5)).cell? ⟨b2,off2 + k,none⟩ = some (.int .i64 y):=⟨(World.cell?_alloc_lt _ _ _ hwl).trans hck,(World.cell?_alloc_lt _ _ _ hwl2).trans hck2⟩
    go_region_held3 (fun w'=>w'.cell? ⟨b,off + k,none⟩ = some (.int .u8 (x:Int)) ∧ w'.cell? ⟨b2,off2 + k,none⟩ = some (.int .i64 y)) (first | exact ⟨hck,hck2⟩ | exact ka | exact kb) (first
     | (go_at_call 229;refine (rclip_any _ _).mono ?_;rintro e w3 ⟨rfl,rfl⟩)
     | (refine step_append_src _ (by rfl) _ _ _ (by rfl) w.heap.size 5 i0 _ 1 1 Tryz.underlying36 hi0 hz0 hz1 hz2 rfl (by omega) (.slice A5 k c5) k (u8s (clipTo g r k)) (by rfl) (own_mod HB.out.1 (((Mod.refl (fun _=>False) wr).drew).alloc _) (fun _ _ h=>h)) (some ⟨wr.heap.size,0,none⟩) 1 1 [.int .u8 ((clipN ((x:Int) + z):Nat):Int)] (by rfl) (Src.new wr.drew 5 [.int .u8 ((clipN ((x:Int) + z):Nat):Int)]) (fun h=>by cases h) (fun u hu=>by rw [List.mem_singleton.1 hu];rfl) HX.out.1 HX.out.2.1 HX.out.2.2.1 ?_;intro v4 w4 hown4 hg4 hat4;have Ma:Mod (fun j=>(Value.slice A5 k c5).ownBlock = some j) wr w4:=(((Mod.refl _ _).drew).alloc _).grown hg4 (fun j hj=>.inl hj);have kb:w4.cell? ⟨b,off + k,none⟩ = some (.int .u8 (x:Int)) ∧ w4.cell? ⟨b2,off2 + k,none⟩ = some (.int .i64 y):=⟨(World.cell?_of_block (Ma.block b hwl HX.out.2.2.2.1)).trans hck,(World.cell?_of_block (Ma.block b2 hwl2 HX.out.2.2.2.2)).trans hck2⟩;have HO:=Lib.hid (And.intro hown4 Ma);clear hown4 hg4 hat4 Ma))
    go_wp2_with fail
    go_roundw
    case rel=>
     obtain ⟨hown4,Ma⟩:=HO.out
     refine ⟨k + 1,by omega,by go_num,?_,HB.out.2.into Ma (fun i e=>.inr (HB.out.1.lt i e).1)⟩
     have e8:u8s (clipTo g r (k + 1)) = u8s (clipTo g r k) ++ [.int .u8 ((clipN ((x:Int) + z):Nat):Int)]:=by
      have e9:(UInt8.ofNat (clipAt g r k)).toNat = clipN ((x:Int) + z):=by rw [← HV.out,UInt8.toNat_ofNat'];omega
      rw [clipTo_succ]
      simp [u8s,e9]
     unfold Bytes
     rw [e8,show (clipTo g r (k + 1)).length = k + 1 by simp [clipTo]]
     exact hown4
    case measure=>simp [intOf];omega
   ·have ez:(x:Int) + 300 = (x:Int) + z:=by omega
    have y2:IntKind.i64.wrap (IntKind.i64.wrap (x:Int) + 300) = (x:Int) + z:=by rw [IntWalk.i64_in (x:Int) ⟨by omega,by omega⟩,ez];exact y1
    have HV:Hid (clipN ((x:Int) + z) = clipAt g r k):=HFA.out.symm
    have hcn:=clipN_lt ((x:Int) + z)
    clear ez hz y1 HFA
    go_upto_region 7 with (fail)
    have ka:((wr.drew).alloc (.cells #[.int .u8 ((clipN ((x:Int) + z):Nat):Int)] 5)).cell? ⟨b,off + k,none⟩ = some (.int .u8 (x:Int)) ∧ ((wr.drew).alloc (.cells #[.int .u8 ((clipN ((x:Int) + z):Nat):Int)] 5)).cell? ⟨b2,off2 + k,none⟩ = some (.int .i64 y):=⟨(World.cell?_alloc_lt _ _ _ hwl).trans hck,(World.cell?_alloc_lt _ _ _ hwl2).trans hck2⟩
    go_region_held3 (fun w'=>w'.cell? ⟨b,off + k,none⟩ = some (.int .u8 (x:Int)) ∧ w'.cell? ⟨b2,off2 + k,none⟩ = some (.int .i64 y)) (first | exact ⟨hck,hck2⟩ | exact ka | exact kb) (first
     | (go_at_call 229;refine (rclip_any _ _).mono ?_;rintro e w3 ⟨rfl,rfl⟩)
     | (refine step_append_src _ (by rfl) _ _ _ (by rfl) w.heap.size 5 i0 _ 1 1 Tryz.underlying36 hi0 hz0 hz1 hz2 rfl (by omega) (.slice A5 k c5) k (u8s (clipTo g r k)) (by rfl) (own_mod HB.out.1 (((Mod.refl (fun _=>False) wr).drew).alloc _) (fun _ _ h=>h)) (some ⟨wr.heap.size,0,none⟩) 1 1 [.int .u8 ((clipN ((x:Int) + z):Nat):Int)] (by rfl) (Src.new wr.drew 5 [.int .u8 ((clipN ((x:Int) + z):Nat):Int)]) (fun h=>by cases h) (fun u hu=>by rw [List.mem_singleton.1 hu];rfl) HX.out.1 HX.out.2.1 HX.out.2.2.1 ?_;intro v4 w4 hown4 hg4 hat4;have Ma:Mod (fun j=>(Value.slice A5 k c5).ownBlock = some j) wr w4:=(((Mod.refl _ _).drew).alloc _).grown hg4 (fun j hj=>.inl hj);have kb:w4.cell? ⟨b,off + k,none⟩ = some (.int .u8 (x:Int)) ∧ w4.cell? ⟨b2,off2 + k,none⟩ = some (.int .i64 y):=⟨(World.cell?_of_block (Ma.block b hwl HX.out.2.2.2.1)).trans hck,(World.cell?_of_block (Ma.block b2 hwl2 HX.out.2.2.2.2)).trans hck2⟩;have HO:=Lib.hid (And.intro hown4 Ma);clear hown4 hg4 hat4 Ma))
    go_wp2_with fail
    go_roundw
    case rel=>
     obtain ⟨hown4,Ma⟩:=HO.out
     refine ⟨k + 1,by omega,by go_num,?_,HB.out.2.into Ma (fun i e=>.inr (HB.out.1.lt i e).1)⟩
     have e8:u8s (clipTo g r (k + 1)) = u8s (clipTo g r k) ++ [.int .u8 ((clipN ((x:Int) + z):Nat):Int)]:=by
      have e9:(UInt8.ofNat (clipAt g r k)).toNat = clipN ((x:Int) + z):=by rw [← HV.out,UInt8.toNat_ofNat'];omega
      rw [clipTo_succ]
      simp [u8s,e9]
     unfold Bytes
     rw [e8,show (clipTo g r (k + 1)).length = k + 1 by simp [clipTo]]
     exact hown4
    case measure=>simp [intOf];omega
   ·have ez:(x:Int) + y = (x:Int) + z:=by omega
    have y2:IntKind.i64.wrap (IntKind.i64.wrap (x:Int) + y) = (x:Int) + z:=by rw [IntWalk.i64_in (x:Int) ⟨by omega,by omega⟩,ez];exact y1
    have HV:Hid (clipN ((x:Int) + z) = clipAt g r k):=HFA.out.symm
    have hcn:=clipN_lt ((x:Int) + z)
    clear ez hz y1 HFA
    go_upto_region 7 with (fail)
    have ka:((wr.drew).alloc (.cells #[.int .u8 ((clipN ((x:Int) + z):Nat):Int)] 5)).cell? ⟨b,off + k,none⟩ = some (.int .u8 (x:Int)) ∧ ((wr.drew).alloc (.cells #[.int .u8 ((clipN ((x:Int) + z):Nat):Int)] 5)).cell? ⟨b2,off2 + k,none⟩ = some (.int .i64 y):=⟨(World.cell?_alloc_lt _ _ _ hwl).trans hck,(World.cell?_alloc_lt _ _ _ hwl2).trans hck2⟩
    go_region_held3 (fun w'=>w'.cell? ⟨b,off + k,none⟩ = some (.int .u8 (x:Int)) ∧ w'.cell? ⟨b2,off2 + k,none⟩ = some (.int .i64 y)) (first | exact ⟨hck,hck2⟩ | exact ka | exact kb) (first
     | (go_at_call 229;refine (rclip_any _ _).mono ?_;rintro e w3 ⟨rfl,rfl⟩)
     | (refine step_append_src _ (by rfl) _ _ _ (by rfl) w.heap.size 5 i0 _ 1 1 Tryz.underlying36 hi0 hz0 hz1 hz2 rfl (by omega) (.slice A5 k c5) k (u8s (clipTo g r k)) (by rfl) (own_mod HB.out.1 (((Mod.refl (fun _=>False) wr).drew).alloc _) (fun _ _ h=>h)) (some ⟨wr.heap.size,0,none⟩) 1 1 [.int .u8 ((clipN ((x:Int) + z):Nat):Int)] (by rfl) (Src.new wr.drew 5 [.int .u8 ((clipN ((x:Int) + z):Nat):Int)]) (fun h=>by cases h) (fun u hu=>by rw [List.mem_singleton.1 hu];rfl) HX.out.1 HX.out.2.1 HX.out.2.2.1 ?_;intro v4 w4 hown4 hg4 hat4;have Ma:Mod (fun j=>(Value.slice A5 k c5).ownBlock = some j) wr w4:=(((Mod.refl _ _).drew).alloc _).grown hg4 (fun j hj=>.inl hj);have kb:w4.cell? ⟨b,off + k,none⟩ = some (.int .u8 (x:Int)) ∧ w4.cell? ⟨b2,off2 + k,none⟩ = some (.int .i64 y):=⟨(World.cell?_of_block (Ma.block b hwl HX.out.2.2.2.1)).trans hck,(World.cell?_of_block (Ma.block b2 hwl2 HX.out.2.2.2.2)).trans hck2⟩;have HO:=Lib.hid (And.intro hown4 Ma);clear hown4 hg4 hat4 Ma))
    go_wp2_with fail
    go_roundw
    case rel=>
     obtain ⟨hown4,Ma⟩:=HO.out
     refine ⟨k + 1,by omega,by go_num,?_,HB.out.2.into Ma (fun i e=>.inr (HB.out.1.lt i e).1)⟩
     have e8:u8s (clipTo g r (k + 1)) = u8s (clipTo g r k) ++ [.int .u8 ((clipN ((x:Int) + z):Nat):Int)]:=by
      have e9:(UInt8.ofNat (clipAt g r k)).toNat = clipN ((x:Int) + z):=by rw [← HV.out,UInt8.toNat_ofNat'];omega
      rw [clipTo_succ]
      simp [u8s,e9]
     unfold Bytes
     rw [e8,show (clipTo g r (k + 1)).length = k + 1 by simp [clipTo]]
     exact hown4
    case measure=>simp [intOf];omega
  ·obtain rfl:k = g.length:=by omega
   have HB:=Lib.hid (And.intro hrow hM)
   obtain ⟨A5,c5,hv5⟩:=own_shape hrow
   subst hv5
   clear hrow hM
   go_wp2_with fail
   go_ret
   refine ⟨_,rfl,?_,HB.out.2⟩
   rw [clipL_at]
   exact HB.out.1
def atN (W H:Nat) (pix:List UInt8) (x y:Int):Nat:=if x < 0 then 128 else if y < 0 then 128 else if (W:Int) ≤ x then 128 else if (H:Int) ≤ y then 128 else (pix.getD (y.toNat * W + x.toNat) 0).toNat
theorem atN_lt (W H:Nat) (pix:List UInt8) (x y:Int):atN W H pix x y < 256:=by
 unfold atN
 repeat (split;· omega)
 exact UInt8.toNat_lt _
theorem atN_in (W H:Nat) (pix:List UInt8) (x y:Nat) (hx:x < W) (hy:y < H):atN W H pix (x:Int) (y:Int) = (pix.getD (y * W + x) 0).toNat:=by
 unfold atN
 rw [if_neg (by omega),if_neg (by omega),if_neg (by omega),if_neg (by omega),Int.toNat_natCast,Int.toNat_natCast]
theorem atN_ab {W H:Nat} (pix:List UInt8) {x y i:Nat} (hx:x + 8 ≤ W) (hy:y + 8 ≤ H) (hi:i < 8):atN W H pix ((x:Int) + (i:Int)) ((y:Int) - 1) = ((lkAb W pix x y).getD i 0).toNat:=by
 have e:(lkAb W pix x y).getD i 0 = if 0 < y then pix.getD (y * W + x - W + i) 0 else 128:=by simp [lkAb,hi]
 rw [e]
 by_cases h:0 < y
 ·obtain ⟨z,rfl⟩:∃ z,y = z + 1:=⟨y - 1,by omega⟩
  rw [if_pos h,show ((z + 1:Nat):Int) - 1 = ((z:Nat):Int) by omega,show (x:Int) + (i:Int) = ((x + i:Nat):Int) by omega,atN_in _ _ _ _ _ (by omega) (by omega)]
  rw [show (z + 1) * W + x - W + i = z * W + (x + i) by rw [Nat.add_mul,Nat.one_mul];omega]
 ·rw [if_neg h]
  unfold atN
  rw [if_neg (by omega),if_pos (by omega)]
  rfl
theorem atN_lf {W H:Nat} (pix:List UInt8) {x y j:Nat} (hx:x + 8 ≤ W) (hy:y + 8 ≤ H) (hj:j < 8):atN W H pix ((x:Int) - 1) ((y:Int) + (j:Int)) = ((lkLf W pix x y).getD j 0).toNat:=by
 have e:(lkLf W pix x y).getD j 0 = if 0 < x then pix.getD (y * W + x + j * W - 1) 0 else 128:=by simp [lkLf,hj]
 rw [e]
 by_cases h:0 < x
 ·obtain ⟨z,rfl⟩:∃ z,x = z + 1:=⟨x - 1,by omega⟩
  rw [if_pos h,show ((z + 1:Nat):Int) - 1 = ((z:Nat):Int) by omega,show (y:Int) + (j:Int) = ((y + j:Nat):Int) by omega,atN_in _ _ _ _ _ (by omega) (by omega)]
  rw [show y * W + (z + 1) + j * W - 1 = (y + j) * W + z by rw [Nat.add_mul];omega]
 ·rw [if_neg h]
  unfold atN
  rw [if_pos (by omega)]
  rfl
theorem atN_co {W H:Nat} (pix:List UInt8) {x y:Nat} (hx:x + 8 ≤ W) (hy:y + 8 ≤ H):atN W H pix ((x:Int) - 1) ((y:Int) - 1) = (lkCo W pix x y).toNat:=by
 unfold lkCo
 by_cases h:0 < x ∧ 0 < y
 ·obtain ⟨z,rfl⟩:∃ z,x = z + 1:=⟨x - 1,by omega⟩
  obtain ⟨u,rfl⟩:∃ u,y = u + 1:=⟨y - 1,by omega⟩
  rw [if_pos h,show ((z + 1:Nat):Int) - 1 = ((z:Nat):Int) by omega,show ((u + 1:Nat):Int) - 1 = ((u:Nat):Int) by omega,atN_in _ _ _ _ _ (by omega) (by omega)]
  rw [show (u + 1) * W + (z + 1) - W - 1 = u * W + z by rw [Nat.add_mul,Nat.one_mul];omega]
 ·rw [if_neg h]
  unfold atN
  by_cases hz:x = 0
  ·rw [if_pos (by omega)]
   rfl
  ·rw [if_neg (by omega),if_pos (by omega)]
   rfl
theorem at_idx {W xn yn m k n:Nat} (hm:m = yn * W) (hk:k = m + xn) (hml:k < n) (hn:n ≤ 16777216):wrap64 (wrap64 ((yn:Int) * (W:Int)) + (xn:Int)) = (k:Int):=by
 rw [show (yn:Int) * (W:Int) = (m:Int) by rw [hm];simp,IntWalk.wrap64_in (m:Int) ⟨by omega,by omega⟩,show (m:Int) + (xn:Int) = (k:Int) by omega]
 exact IntWalk.wrap64_in _ ⟨by omega,by omega⟩
theorem fIAt (w:World) (W H:Nat) (A:Option Addr) (n c:Nat) (pix:List UInt8) (h:sidesB W H = true) (hn:n = W * H) (hin:BytesIn w A n c pix) (x y:Int) :
  Calls Tryz.prog 261 #[.agg #[.int .i64 (W:Int),.int .i64 (H:Int),.slice A n c],.int .i64 x,.int .i64 y] w fun e w'=>e = .returned (.int .i64 ((atN W H pix x y:Nat):Int)) ∧ Mod (fun _=>False) w w':=by
 obtain ⟨ha,h1,h2,h3,h4,h5⟩:=area_le h
 rw [← hn] at ha h5
 have m0:Mod (fun _=>False) w (w.alloc (.cells #[.int .i64 (W:Int),.int .i64 (H:Int),.slice A n c] 38)):=(Mod.refl _ _).alloc _
 have hr:atN W H pix x y = atN W H pix x y:=rfl
 conv at hr=>rhs;unfold atN
 have HR:=Lib.hid (And.intro hr m0)
 clear hr m0
 by_cases c1:x < 0
 ·have d1:decide (x < 0) = true:=decide_eq_true c1
  have HR:=Lib.hid (And.intro (HR.out.1.trans (if_pos c1)) HR.out.2)
  clear c1 h hin hn
  go_enter Tryz.func261,Tryz.ntmps261
  go_wp2_with fail
  go_ret
  exact ⟨by rw [HR.out.1];rfl,HR.out.2⟩
 have d1:decide (x < 0) = false:=decide_eq_false c1
 have HR:=Lib.hid (And.intro (HR.out.1.trans (if_neg c1)) HR.out.2)
 by_cases c2:y < 0
 ·have d2:decide (y < 0) = true:=decide_eq_true c2
  have HR:=Lib.hid (And.intro (HR.out.1.trans (if_pos c2)) HR.out.2)
  clear c1 c2 h hin hn
  go_enter Tryz.func261,Tryz.ntmps261
  go_wp2_with fail
  go_ret
  exact ⟨by rw [HR.out.1];rfl,HR.out.2⟩
 have d2:decide (y < 0) = false:=decide_eq_false c2
 have HR:=Lib.hid (And.intro (HR.out.1.trans (if_neg c2)) HR.out.2)
 by_cases c3:(W:Int) ≤ x
 ·have d3:decide ((W:Int) ≤ x) = true:=decide_eq_true c3
  have HR:=Lib.hid (And.intro (HR.out.1.trans (if_pos c3)) HR.out.2)
  clear c1 c2 c3 h hin hn
  go_enter Tryz.func261,Tryz.ntmps261
  go_wp2_with fail
  go_ret
  exact ⟨by rw [HR.out.1];rfl,HR.out.2⟩
 have d3:decide ((W:Int) ≤ x) = false:=decide_eq_false c3
 have HR:=Lib.hid (And.intro (HR.out.1.trans (if_neg c3)) HR.out.2)
 by_cases c4:(H:Int) ≤ y
 ·have d4:decide ((H:Int) ≤ y) = true:=decide_eq_true c4
  have HR:=Lib.hid (And.intro (HR.out.1.trans (if_pos c4)) HR.out.2)
  clear c1 c2 c3 c4 h hin hn
  go_enter Tryz.func261,Tryz.ntmps261
  go_wp2_with fail
  go_ret
  exact ⟨by rw [HR.out.1];rfl,HR.out.2⟩
 have d4:decide ((H:Int) ≤ y) = false:=decide_eq_false c4
 have HR:=Lib.hid (And.intro (HR.out.1.trans (if_neg c4)) HR.out.2)
 obtain ⟨xn,rfl⟩:=Int.eq_ofNat_of_zero_le (Int.not_lt.1 c1)
 obtain ⟨yn,rfl⟩:=Int.eq_ofNat_of_zero_le (Int.not_lt.1 c2)
 obtain ⟨b,off,hA,hb,hcell⟩:=hin.place (by omega)
 subst hA
 obtain ⟨m,hm⟩:∃ m,m = yn * W:=⟨_,rfl⟩
 have hml:m + xn < n:=by
  have h6:(yn + 1) * W ≤ H * W:=Nat.mul_le_mul_right W (by omega)
  rw [Nat.add_mul,Nat.one_mul,Nat.mul_comm H W,← hn,← hm] at h6
  omega
 have HP:Hid (atN W H pix (xn:Int) (yn:Int) = (pix.getD (m + xn) 0).toNat):=by show _ = _;rw [hm];exact atN_in W H pix xn yn (by omega) (by omega)
 have k1:(w.alloc (.cells #[.int .i64 (W:Int),.int .i64 (H:Int),.slice (some ⟨b,off,none⟩) n c] 38)).cell? ⟨b,off + (m + xn),none⟩ = some (.int .u8 ((pix.getD (m + xn) 0).toNat:Int)):=(World.cell?_of_block (HR.out.2.block b hb (fun h=>h))).trans (hcell _ hml)
 obtain ⟨k,hk⟩:∃ k,k = m + xn:=⟨_,rfl⟩
 rw [← hk] at k1 HP hml
 have n3:decide (W ≤ xn) = false:=decide_eq_false (by omega)
 have n4:decide (H ≤ yn) = false:=decide_eq_false (by omega)
 have he:=at_idx hm hk hml ha
 have p1:(0:Int) ≤ (k:Int):=Int.natCast_nonneg _
 have p2:(k:Int) < (n:Int):=Int.ofNat_lt.2 hml
 have x0:(pix.getD k 0).toNat < 256:=UInt8.toNat_lt _
 generalize (pix.getD k 0).toNat = px at *
 have HM:=Lib.hid (And.intro HR.out.2 hn)
 clear hm hcell hin c1 c2 c3 c4 hk hn HR
 go_enter Tryz.func261,Tryz.ntmps261
 go_wp2_with fail
 go_ret
 exact ⟨by rw [HP.out];rfl,HM.out.1⟩
end Go.Proofs.YtmkopcojnibhlaaGreatDoor

