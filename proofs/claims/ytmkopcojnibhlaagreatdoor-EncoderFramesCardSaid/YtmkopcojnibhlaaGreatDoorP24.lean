/-
  The reference's intra: sample.
-/
import Derived.Test.YtmkopcojnibhlaaGreatDoorP23
import Derived.Test.YtmkopcojnibhlaaGreatDoorP10
import Derived.Test.YtmkopcojnibhlaaGreatDoorP12
namespace Go.Proofs.YtmkopcojnibhlaaGreatDoor
open Go.RowKit
set_option maxRecDepth 100000
set_option maxHeartbeats 8000000
def SmRel (w:World) (p:Nat) (cs:Array Value) (ab lf:List UInt8) (s15 s16:Value) (wr:World):Prop:=
 ∃ k:Nat,k ≤ 8 ∧ s16 = .int .i64 (k:Int) ∧ s15 = .int .i64 ((flS ab lf k:Nat):Int) ∧ Sat (fun _=>False) w wr [⟨p,38,cs⟩] []
theorem fISample (w:World) (W H:Nat) (A:Option Addr) (n c:Nat) (pix:List UInt8) (h:sidesB W H = true) (hn:n = W * H) (hin:BytesIn w A n c pix) (x y m i j:Nat) (hx:x + 8 ≤ W) (hy:y + 8 ≤ H) (hm:m < 4) (hi:i < 8) (hj:j < 8) :
  Calls Tryz.prog 225 #[.agg #[.int .i64 (W:Int),.int .i64 (H:Int),.slice A n c],.int .i64 (x:Int),.int .i64 (y:Int),.int .i64 8,.int .i64 (m:Int),.int .i64 (i:Int),.int .i64 (j:Int)] w fun e w'=>e = .returned (.int .u8 ((gsN m (lkAb W pix x y) (lkLf W pix x y) (lkCo W pix x y) i j:Nat):Int)) ∧ Mod (fun _=>False) w w':=by
 obtain ⟨_,hW1,hW2,hH1,hH2,_⟩:=area_le h
 have HI:=Lib.hid (And.intro h (And.intro hn hin))
 clear h hn hin
 have hc:m = 0 ∨ m = 1 ∨ m = 2 ∨ m = 3:=by omega
 have h0:=(Sat.nil (fun _=>False) w).alloc 38 #[.int .i64 (W:Int),.int .i64 (H:Int),.slice A n c] rfl
 have H0:=Lib.hid h0
 clear h0
 rcases hc with rfl | rfl | rfl | rfl
 ·go_enter Tryz.func225,Tryz.ntmps225
  go_wp2_with fail
  go_loopw [15,16] (SmRel w w.heap.size #[.int .i64 (W:Int),.int .i64 (H:Int),.slice A n c] (lkAb W pix x y) (lkLf W pix x y)) (fun _ s _=>8 - (intOf s).toNat)
  case atStart=>exact ⟨0,by omega,rfl,rfl,H0.out⟩
  case round=>
   clear H0
   obtain ⟨k,hk,rfl,rfl,HS⟩:=hrel
   have hfl:=flS_le (lkAb W pix x y) (lkLf W pix x y) k
   by_cases hlt:k < 8
   ·have d1:decide ((k:Int) < 8) = true:=decide_eq_true (by omega)
    have HS1:=HS.drew
    have hst:flS (lkAb W pix x y) (lkLf W pix x y) (k + 1) = flS (lkAb W pix x y) (lkLf W pix x y) k + (((lkAb W pix x y).getD k 0).toNat + ((lkLf W pix x y).getD k 0).toNat):=rfl
    rw [← atN_ab pix hx hy hlt,← atN_lf pix hx hy hlt] at hst
    have b1:=atN_lt W H pix ((x:Int) + (k:Int)) ((y:Int) - 1)
    have b2:=atN_lt W H pix ((x:Int) - 1) ((y:Int) + (k:Int))
    have e1:IntKind.i64.wrap ((x:Int) + (k:Int)) = (x:Int) + (k:Int):=IntWalk.i64_in _ ⟨by omega,by omega⟩
    have e2:IntKind.i64.wrap ((y:Int) - 1) = (y:Int) - 1:=IntWalk.i64_in _ ⟨by omega,by omega⟩
    have e3:IntKind.i64.wrap ((x:Int) - 1) = (x:Int) - 1:=IntWalk.i64_in _ ⟨by omega,by omega⟩
    have e4:IntKind.i64.wrap ((y:Int) + (k:Int)) = (y:Int) + (k:Int):=IntWalk.i64_in _ ⟨by omega,by omega⟩
    obtain ⟨z,hz⟩:∃ z,z = flS (lkAb W pix x y) (lkLf W pix x y) k:=⟨_,rfl⟩
    rw [← hz] at hfl hst ⊢
    have HK:=Lib.hid (And.intro HS hst)
    have HE:=Lib.hid (And.intro e1 (And.intro e2 (And.intro e3 e4)))
    clear HS hst hz e1 e2 e3 e4
    go_upto_region 7 with (fail)
    obtain ⟨e1,e2,e3,e4⟩:=HE.out
    go_region_held3 (fun w'=>w'.cell? ⟨w.heap.size,0,none⟩ = some (.int .i64 (W:Int)) ∧ w'.cell? ⟨w.heap.size,1,none⟩ = some (.int .i64 (H:Int)) ∧ w'.cell? ⟨w.heap.size,2,none⟩ = some (.slice A n c)) (first | exact pl_cells (HS1.own_ 0 rfl) | exact pl_cells (HK.out.1.own_ 0 rfl)) (first | (go_at_call 261;refine (fIAt _ W H A n c pix HI.out.1 HI.out.2.1 (HI.out.2.2.quiet HS1.mod) _ _).mono ?_;rintro e w2 ⟨rfl,hm2⟩;have HS1:=HS1.quiet hm2;clear hm2))
    have H1:=Lib.hid HS1
    clear HS1 e1 e2 e3 e4
    generalize atN W H pix ((x:Int) + (k:Int)) ((y:Int) - 1) = u at *
    generalize atN W H pix ((x:Int) - 1) ((y:Int) + (k:Int)) = v at *
    rw [IntWalk.i64_in ((z:Int) + (u:Int)) ⟨by omega,by omega⟩,IntWalk.i64_in ((z:Int) + (u:Int) + (v:Int)) ⟨by omega,by omega⟩]
    go_wp2_with fail
    go_roundw
    case rel=>
     (repeat apply Exists.intro)
     exact ⟨⟨k + 1,by omega,by go_num,by rw [HK.out.2];go_num,H1.out⟩,rfl⟩
    case measure=>simp [intOf];omega
   ·obtain rfl:k = 8:=by omega
    have HK:=Lib.hid HS
    clear HS
    obtain ⟨z,hz⟩:∃ z,z = flS (lkAb W pix x y) (lkLf W pix x y) 8:=⟨_,rfl⟩
    rw [← hz] at hfl ⊢
    have HZ:=Lib.hid hz
    clear hz
    go_wp2_with fail
    go_ret
    refine ⟨congrArg (fun z=>Ending.returned (.int .u8 z)) ?_,HK.out.mod⟩
    show _ = ((flatN (lkAb W pix x y) (lkLf W pix x y):Nat):Int)
    unfold flatN
    rw [← HZ.out]
    omega
 ·have ha:=atN_ab pix hx hy hi
  have hl:=atN_lt W H pix ((x:Int) + (i:Int)) ((y:Int) - 1)
  have HA:=Lib.hid ha
  clear ha
  go_enter Tryz.func225,Tryz.ntmps225
  go_wp2_with fail
  refine (fIAt _ W H A n c pix HI.out.1 HI.out.2.1 (HI.out.2.2.quiet H0.out.mod) _ _).mono ?_
  rintro e w2 ⟨rfl,hm2⟩
  have HS2:=Lib.hid (H0.out.quiet hm2)
  clear hm2
  generalize hg:atN W H pix ((x:Int) + (i:Int)) ((y:Int) - 1) = u at *
  have HG:=Lib.hid hg
  clear hg
  go_wp2_with fail
  go_ret
  exact ⟨by show _ = Ending.returned (.int .u8 ((((lkAb W pix x y).getD i 0).toNat:Nat):Int));rw [← HA.out];rfl,HS2.out.mod⟩
 ·have ha:=atN_lf pix hx hy hj
  have hl:=atN_lt W H pix ((x:Int) - 1) ((y:Int) + (j:Int))
  have HA:=Lib.hid ha
  clear ha
  go_enter Tryz.func225,Tryz.ntmps225
  go_wp2_with fail
  refine (fIAt _ W H A n c pix HI.out.1 HI.out.2.1 (HI.out.2.2.quiet H0.out.mod) _ _).mono ?_
  rintro e w2 ⟨rfl,hm2⟩
  have HS2:=Lib.hid (H0.out.quiet hm2)
  clear hm2
  generalize hg:atN W H pix ((x:Int) - 1) ((y:Int) + (j:Int)) = u at *
  have HG:=Lib.hid hg
  clear hg
  go_wp2_with fail
  go_ret
  exact ⟨by show _ = Ending.returned (.int .u8 ((((lkLf W pix x y).getD j 0).toNat:Nat):Int));rw [← HA.out];rfl,HS2.out.mod⟩
 ·have hst:gsN 3 (lkAb W pix x y) (lkLf W pix x y) (lkCo W pix x y) i j = clipN ((((lkAb W pix x y).getD i 0).toNat:Int) + (((lkLf W pix x y).getD j 0).toNat:Int) - ((lkCo W pix x y).toNat:Int)):=rfl
  rw [← atN_ab pix hx hy hi,← atN_lf pix hx hy hj,← atN_co pix hx hy] at hst
  have b1:=atN_lt W H pix ((x:Int) + (i:Int)) ((y:Int) - 1)
  have b2:=atN_lt W H pix ((x:Int) - 1) ((y:Int) + (j:Int))
  have b3:=atN_lt W H pix ((x:Int) - 1) ((y:Int) - 1)
  have e1:IntKind.i64.wrap ((x:Int) + (i:Int)) = (x:Int) + (i:Int):=IntWalk.i64_in _ ⟨by omega,by omega⟩
  have e2:IntKind.i64.wrap ((y:Int) - 1) = (y:Int) - 1:=IntWalk.i64_in _ ⟨by omega,by omega⟩
  have e3:IntKind.i64.wrap ((x:Int) - 1) = (x:Int) - 1:=IntWalk.i64_in _ ⟨by omega,by omega⟩
  have e4:IntKind.i64.wrap ((y:Int) + (j:Int)) = (y:Int) + (j:Int):=IntWalk.i64_in _ ⟨by omega,by omega⟩
  have e5:IntKind.i64.wrap ((atN W H pix ((x:Int) + (i:Int)) ((y:Int) - 1):Int) + (atN W H pix ((x:Int) - 1) ((y:Int) + (j:Int)):Int)) = (atN W H pix ((x:Int) + (i:Int)) ((y:Int) - 1):Int) + (atN W H pix ((x:Int) - 1) ((y:Int) + (j:Int)):Int):=IntWalk.i64_in _ ⟨by omega,by omega⟩
  have e6:IntKind.i64.wrap ((atN W H pix ((x:Int) + (i:Int)) ((y:Int) - 1):Int) + (atN W H pix ((x:Int) - 1) ((y:Int) + (j:Int)):Int) - (atN W H pix ((x:Int) - 1) ((y:Int) - 1):Int)) = (atN W H pix ((x:Int) + (i:Int)) ((y:Int) - 1):Int) + (atN W H pix ((x:Int) - 1) ((y:Int) + (j:Int)):Int) - (atN W H pix ((x:Int) - 1) ((y:Int) - 1):Int):=IntWalk.i64_in _ ⟨by omega,by omega⟩
  have HK:=Lib.hid hst
  have HE:=Lib.hid (And.intro e1 (And.intro e2 (And.intro e3 (And.intro e4 (And.intro e5 e6)))))
  clear hst e1 e2 e3 e4 e5 e6
  have HS1:=H0.out.drew
  go_enter Tryz.func225,Tryz.ntmps225
  go_upto_region 13 with (fail)
  obtain ⟨e1,e2,e3,e4,e5,e6⟩:=HE.out
  go_region_held3 (fun w'=>w'.cell? ⟨w.heap.size,0,none⟩ = some (.int .i64 (W:Int)) ∧ w'.cell? ⟨w.heap.size,1,none⟩ = some (.int .i64 (H:Int)) ∧ w'.cell? ⟨w.heap.size,2,none⟩ = some (.slice A n c)) (first | exact pl_cells (HS1.own_ 0 rfl) | exact pl_cells (H0.out.own_ 0 rfl)) (first
   | (go_at_call 261;refine (fIAt _ W H A n c pix HI.out.1 HI.out.2.1 (HI.out.2.2.quiet HS1.mod) _ _).mono ?_;rintro e w2 ⟨rfl,hm2⟩;have HS1:=HS1.quiet hm2;clear hm2)
   | (go_at_call 229;refine (rclip_any _ _).mono ?_;rintro e w3 ⟨rfl,rfl⟩))
  have H1:=Lib.hid HS1
  clear HS1 e1 e2 e3 e4 e5 e6
  go_wp2_with fail
  go_ret
  exact ⟨by rw [HK.out];rfl,H1.out.mod⟩
def rowTil (f:Nat → UInt8) (k:Nat):List UInt8:=(List.range k).map f
theorem rowTil_succ (f:Nat → UInt8) (k:Nat):rowTil f (k + 1) = rowTil f k ++ [f k]:=by simp [rowTil,List.range_succ]
theorem rowTil_length (f:Nat → UInt8) (k:Nat):(rowTil f k).length = k:=by simp [rowTil]
def GrowAt (w wr:World) (p:Nat) (cs:Array Value) (v:Value) (l:List UInt8):Prop:=Bytes wr w.heap.size v l ∧ Blk wr p 38 cs ∧ Mod (fun _=>False) w wr
theorem GrowAt.quiet {w wr w':World} {p:Nat} {cs:Array Value} {v:Value} {l:List UInt8} (h:GrowAt w wr p cs v l) (hm:Mod (fun _=>False) wr w'):GrowAt w w' p cs v l:=⟨h.1.quiet hm,h.2.1.keep hm (fun h=>h),h.2.2.trans hm⟩
theorem GrowAt.app {w wr w':World} {p:Nat} {cs:Array Value} {v v':Value} {l l':List UInt8} (h:GrowAt w wr p cs v l) (ho:Bytes w' w.heap.size v' l') (hm:Mod (fun j=>v.ownBlock = some j) wr w'):GrowAt w w' p cs v' l':=
 ⟨ho,h.2.1.keep hm (h.1.apart h.2.1 (show 38 ≠ 5 by decide)),h.2.2.into hm (fun i e=>.inr (World.ownsRow.lt h.1 i e).1)⟩
def FG1 (w:World) (p:Nat) (cs:Array Value) (f:Nat → UInt8) (v13 v14:Value) (wr:World):Prop:=∃ j:Nat,j ≤ 8 ∧ v14 = .int .i64 (j:Int) ∧ GrowAt w wr p cs v13 (rowTil f (j * 8))
def FG2 (w:World) (p:Nat) (cs:Array Value) (f:Nat → UInt8) (j:Nat) (v13 v15:Value) (wr:World):Prop:=∃ i:Nat,i ≤ 8 ∧ v15 = .int .i64 (i:Int) ∧ GrowAt w wr p cs v13 (rowTil f (j * 8 + i))
theorem fGuess (w:World) (W H:Nat) (A:Option Addr) (n c:Nat) (pix:List UInt8) (h:sidesB W H = true) (hn:n = W * H) (hin:BytesIn w A n c pix) (x y m:Nat) (hx:x + 8 ≤ W) (hy:y + 8 ≤ H) (hm:m < 4) :
  Calls Tryz.prog 167 #[.agg #[.int .i64 (W:Int),.int .i64 (H:Int),.slice A n c],.int .i64 (x:Int),.int .i64 (y:Int),.int .i64 8,.int .i64 (m:Int)] w
   fun e w'=>∃ v,e = .returned (.tuple #[v,.int .i64 0]) ∧ Bytes w' w.heap.size v (guessL W pix x y m) ∧ Mod (fun _=>False) w w':=by
 obtain ⟨_,hW1,hW2,hH1,hH2,_⟩:=area_le h
 have HI:=Lib.hid (And.intro h (And.intro hn hin))
 clear h hin hn
 have t1:decide ((x:Int) < 0) = false:=decide_eq_false (by omega)
 have t2:decide ((W:Int) - 8 < (x:Int)) = false:=decide_eq_false (by omega)
 have t3:decide ((y:Int) < 0) = false:=decide_eq_false (by omega)
 have t4:decide ((H:Int) - 8 < (y:Int)) = false:=decide_eq_false (by omega)
 have t5:decide ((m:Int) < 0) = false:=decide_eq_false (by omega)
 have t6:decide (3 < (m:Int)) = false:=decide_eq_false (by omega)
 have h0:=(Sat.nil (fun _=>False) w).alloc 38 #[.int .i64 (W:Int),.int .i64 (H:Int),.slice A n c] rfl
 have H0:=Lib.hid h0
 clear h0
 go_enter Tryz.func167,Tryz.ntmps167
 go_wp2_with fail
 refine (fPRight _ W H A n c HI.out.1 HI.out.2.1).mono ?_
 rintro e w1 ⟨rfl,hm1⟩
 have HS:=H0.out.quiet hm1
 obtain ⟨pc,pf⟩:=(HS.own_ 0 rfl).both
 have HG0:Hid (GrowAt w w1 w.heap.size #[.int .i64 (W:Int),.int .i64 (H:Int),.slice A n c] (.slice none 0 0) (rowTil (guessF W pix x y m) (0 * 8))):=⟨World.ownsRow_nil _ _ _ _,HS.own_ 0 rfl,HS.mod⟩
 clear hm1 HS H0
 go_wp2_with fail
 go_loopw [13,14] (FG1 w w.heap.size #[.int .i64 (W:Int),.int .i64 (H:Int),.slice A n c] (guessF W pix x y m)) (fun _ s _=>8 - (intOf s).toNat)
 case atStart=>exact ⟨0,by omega,rfl,HG0.out⟩
 case round=>
  clear HG0 pc pf
  obtain ⟨j,hj,rfl,hG⟩:=hrel
  have HG:=Lib.hid hG
  clear hG
  by_cases hlt:j < 8
  ·have d1:decide ((j:Int) < 8) = true:=decide_eq_true (by omega)
   go_wp2_with fail
   go_loopw [13,15] (FG2 w w.heap.size #[.int .i64 (W:Int),.int .i64 (H:Int),.slice A n c] (guessF W pix x y m) j) (fun _ s _=>8 - (intOf s).toNat)
   case atStart=>exact ⟨0,by omega,rfl,HG.out⟩
   case round=>
    clear HG
    rename World=>w5
    obtain ⟨i,hi,rfl,hG⟩:=hrel
    by_cases hli:i < 8
    ·have d2:decide ((i:Int) < 8) = true:=decide_eq_true (by omega)
     obtain ⟨pc,pf⟩:=hG.2.1.both
     have hff:gsN m (lkAb W pix x y) (lkLf W pix x y) (lkCo W pix x y) i j = (guessF W pix x y m (j * 8 + i)).toNat:=by
      rw [guessF_n,show (j * 8 + i) % 8 = i by omega,show (j * 8 + i) / 8 = j by omega]
     have HK:=Lib.hid (And.intro hG hff)
     clear hG hff
     go_wp2_with fail
     refine (fISample _ W H A n c pix HI.out.1 HI.out.2.1 (HI.out.2.2.quiet HK.out.1.2.2) x y m i j hx hy hm hli hlt).mono ?_
     rintro e w6 ⟨rfl,hm6⟩
     rw [HK.out.2]
     have HA:=Lib.hid (And.intro (HK.out.1.quiet hm6) ((HK.out.1.quiet hm6).2.2.size))
     clear hm6 pc pf
     go_wp2_with (at_builtin;have _t:=HA;refine wpList_app_u8 _ rfl (.tmp 68) (.tmp 77) rfl w.heap.size _ (rowTil (guessF W pix x y m) (j * 8 + i)) (guessF W pix x y m (j * 8 + i)) rfl rfl HA.out.1.1 HA.out.2 (by rw [rowTil_length];omega) ?_;intro v7 w7 hown7 hM7 _ _;have HO:=Lib.hid (HA.out.1.app hown7 hM7);clear hown7 hM7)
     go_roundw
     case rel=>exact ⟨i + 1,by omega,by go_num,by rw [← Nat.add_assoc,rowTil_succ];exact HO.out⟩
     case measure=>simp [intOf];omega
    ·obtain rfl:i = 8:=by omega
     have HK:=Lib.hid hG
     clear hG
     go_wp2_with fail
     go_roundw
     case rel=>exact ⟨j + 1,by omega,by go_num,by rw [Nat.add_mul,Nat.one_mul];exact HK.out⟩
     case measure=>simp [intOf];omega
  ·obtain rfl:j = 8:=by omega
   go_wp2_with fail
   go_ret2
   exact ⟨_,rfl,HG.out.1,HG.out.2.2⟩
theorem near_in {k m:Nat} (h:k < m):near (k:Int) m = k:=by unfold near;rw [if_neg (by omega),if_neg (by omega)];exact Int.toNat_natCast k
def RK1 (w:World) (p:Nat) (cs:Array Value) (f:Nat → UInt8) (n:Nat) (v10 v11:Value) (wr:World):Prop:=∃ j:Nat,j ≤ n ∧ v11 = .int .i64 (j:Int) ∧ GrowAt w wr p cs v10 (rowTil f (j * n))
def RK2 (w:World) (p:Nat) (cs:Array Value) (f:Nat → UInt8) (n j:Nat) (v10 v12:Value) (wr:World):Prop:=∃ i:Nat,i ≤ n ∧ v12 = .int .i64 (i:Int) ∧ GrowAt w wr p cs v10 (rowTil f (j * n + i))
theorem rePBlk8 (w:World) (W H:Nat) (A:Option Addr) (n c:Nat) (pix:List UInt8) (h:sidesB W H = true) (hn:n = W * H) (hin:BytesIn w A n c pix) (x y:Nat) (hx:x + 8 ≤ W) (hy:y + 8 ≤ H) :
  Calls Tryz.prog 155 #[.agg #[.int .i64 (W:Int),.int .i64 (H:Int),.slice A n c],.int .i64 (x:Int),.int .i64 (y:Int),.int .i64 8] w
   fun e w'=>∃ v,e = .returned v ∧ Bytes w' w.heap.size v (sqL W pix x y 8) ∧ Mod (fun _=>False) w w':=by
 obtain ⟨_,hW1,hW2,hH1,hH2,_⟩:=area_le h
 have HI:=Lib.hid (And.intro h (And.intro hn hin))
 clear h hin hn
 have h0:=(Sat.nil (fun _=>False) w).alloc 38 #[.int .i64 (W:Int),.int .i64 (H:Int),.slice A n c] rfl
 have H0:=Lib.hid h0
 clear h0
 go_enter Tryz.func155,Tryz.ntmps155
 go_wp2_with fail
 refine (fPRight _ W H A n c HI.out.1 HI.out.2.1).mono ?_
 rintro e w1 ⟨rfl,hm1⟩
 have HS:=H0.out.quiet hm1
 have HG0:Hid (GrowAt w w1 w.heap.size #[.int .i64 (W:Int),.int .i64 (H:Int),.slice A n c] (.slice none 0 0) (rowTil (sqF W pix x y 8) (0 * 8))):=⟨World.ownsRow_nil _ _ _ _,HS.own_ 0 rfl,HS.mod⟩
 clear hm1 HS H0
 go_wp2_with fail
 go_loopw [10,11] (RK1 w w.heap.size #[.int .i64 (W:Int),.int .i64 (H:Int),.slice A n c] (sqF W pix x y 8) 8) (fun _ s _=>8 - (intOf s).toNat)
 case atStart=>exact ⟨0,by omega,rfl,HG0.out⟩
 case round=>
  clear HG0
  obtain ⟨j,hj,rfl,hG⟩:=hrel
  have HG:=Lib.hid hG
  clear hG
  by_cases hlt:j < 8
  ·have d1:decide ((j:Int) < 8) = true:=decide_eq_true (by omega)
   go_wp2_with fail
   go_loopw [10,12] (RK2 w w.heap.size #[.int .i64 (W:Int),.int .i64 (H:Int),.slice A n c] (sqF W pix x y 8) 8 j) (fun _ s _=>8 - (intOf s).toNat)
   case atStart=>exact ⟨0,by omega,rfl,HG.out⟩
   case round=>
    clear HG
    rename World=>w5
    obtain ⟨i,hi,rfl,hG⟩:=hrel
    by_cases hli:i < 8
    ·have d2:decide ((i:Int) < 8) = true:=decide_eq_true (by omega)
     have hff:patL W H pix ((x:Int) + (i:Int)) ((y:Int) + (j:Int)) = sqF W pix x y 8 (j * 8 + i):=by
      rw [sqF_at _ _ _ _ _ _ _ hli]
      unfold patL
      rw [show (x:Int) + (i:Int) = ((x + i:Nat):Int) by omega,show (y:Int) + (j:Int) = ((y + j:Nat):Int) by omega,near_in (by omega),near_in (by omega)]
     obtain ⟨A5,c5,hv5⟩:=own_shape hG.1
     subst hv5
     have hl5:(rowTil (sqF W pix x y 8) (j * 8 + i)).length = j * 8 + i:=rowTil_length _ _
     have hle:j * 8 + i ≤ 4096:=by omega
     obtain ⟨k5,hk5⟩:∃ k5,k5 = (rowTil (sqF W pix x y 8) (j * 8 + i)).length:=⟨_,rfl⟩
     rw [← hk5] at hG ⊢
     have hpc:=hG.2.1.drew.cell
     have HK:=Lib.hid (And.intro hG (And.intro hff (And.intro hk5 (Nat.le_trans (Nat.le_of_eq hl5) hle))))
     clear hG hff hk5 hl5 hle
     have AT:=Lib.hid (fAt w5.drew W H A n c pix HI.out.1 HI.out.2.1 (HI.out.2.2.quiet HK.out.1.2.2.drew) ((x:Int) + (i:Int)) ((y:Int) + (j:Int)))
     have pc0:w5.drew.cell? ⟨w.heap.size,0,none⟩ = some (.int .i64 (W:Int)):=hpc 0
     have pc1:w5.drew.cell? ⟨w.heap.size,1,none⟩ = some (.int .i64 (H:Int)):=hpc 1
     have pc2:w5.drew.cell? ⟨w.heap.size,2,none⟩ = some (.slice A n c):=hpc 2
     clear hpc
     go_upto_region 11 with (fail)
     refine wp_region_planS [8,9,10] [0] (1 :: 2 :: 3 :: 4 :: 5 :: 6 :: 7 :: 0 :: 8 :: 9 :: 10 :: 11 :: []) (fun _=>True) (by kernel_rfl) (by kernel_rfl) (fun _ _ _ d _ h=>by cases d <;> exact h) trivial ?_
     iterate 3 (refine planS_still rfl rfl (fun K hK=>?_);go_simp;refine hK _ ?_;clear hK K)
     refine planS_still rfl rfl (fun K hK=>?_)
     go_simp
     refine ⟨_,(fShifted _ (x:Int) (i:Int) (by omega) (by omega)).mono (fun _ _ ⟨a,b⟩=>⟨a,b.symm⟩),hK _ ?_⟩
     clear hK K
     iterate 2 (refine planS_still rfl rfl (fun K hK=>?_);go_simp;refine hK _ ?_;clear hK K)
     refine planS_still rfl rfl (fun K hK=>?_)
     go_simp
     refine ⟨_,(fShifted _ (y:Int) (j:Int) (by omega) (by omega)).mono (fun _ _ ⟨a,b⟩=>⟨a,b.symm⟩),hK _ ?_⟩
     clear hK K
     refine planS_pure rfl rfl rfl (fun _ _=>rfl) ?_
     refine planS_loud rfl rfl (fun K hK=>?_)
     go_simp
     refine AT.out.mono ?_
     rintro e w6 ⟨rfl,hm6⟩
     rw [HK.out.2.1]
     dsimp only []
     have HA:=Lib.hid (And.intro (HK.out.1.quiet ((Mod.refl (fun _=>False) w5).drew.trans hm6)) HK.out.2)
     refine hK _ _ trivial ?_
     clear hK K hm6 pc0 pc1 pc2
     refine planS_loud rfl rfl (fun K hK=>?_)
     go_simp
     refine hK _ _ trivial ?_
     clear hK K
     refine planS_loud rfl rfl (fun K hK=>?_)
     refine step_app_u8 w6 (by rfl) _ _ (by rfl) w.heap.size (.slice A5 k5 c5) (rowTil (sqF W pix x y 8) (j * 8 + i)) (sqF W pix x y 8 (j * 8 + i)) (by rfl) (by rfl) HA.out.1.1 HA.out.1.2.2.size (by have:=HA.out.2.2.1;have:=HA.out.2.2.2;omega) ?_
     intro v7 w7 hown7 hM7 _ _
     have HO:=Lib.hid (HA.out.1.app hown7 hM7)
     clear hown7 hM7
     refine hK _ _ trivial ?_
     clear hK K
     refine planS_still rfl rfl (fun K hK=>?_);go_simp;refine hK _ ?_;clear hK K
     refine planS_done ?_
     go_wp2_with fail
     go_roundw
     case rel=>exact ⟨i + 1,by omega,by go_num,by rw [← Nat.add_assoc,rowTil_succ];exact HO.out⟩
     case measure=>simp [intOf];omega
    ·obtain rfl:i = 8:=by omega
     have HK:=Lib.hid hG
     clear hG
     go_wp2_with fail
     go_roundw
     case rel=>exact ⟨j + 1,by omega,by go_num,by rw [Nat.add_mul,Nat.one_mul];exact HK.out⟩
     case measure=>simp [intOf];omega
  ·obtain rfl:j = 8:=by omega
   go_wp2_with fail
   go_ret
   exact ⟨_,rfl,HG.out.1,HG.out.2.2⟩
theorem rePBlk16 (w:World) (W H:Nat) (A:Option Addr) (n c:Nat) (pix:List UInt8) (h:sidesB W H = true) (hn:n = W * H) (hin:BytesIn w A n c pix) (x y:Nat) (hx:x + 16 ≤ W) (hy:y + 16 ≤ H) :
  Calls Tryz.prog 155 #[.agg #[.int .i64 (W:Int),.int .i64 (H:Int),.slice A n c],.int .i64 (x:Int),.int .i64 (y:Int),.int .i64 16] w
   fun e w'=>∃ v,e = .returned v ∧ Bytes w' w.heap.size v (sqL W pix x y 16) ∧ Mod (fun _=>False) w w':=by
 obtain ⟨_,hW1,hW2,hH1,hH2,_⟩:=area_le h
 have HI:=Lib.hid (And.intro h (And.intro hn hin))
 clear h hin hn
 have h0:=(Sat.nil (fun _=>False) w).alloc 38 #[.int .i64 (W:Int),.int .i64 (H:Int),.slice A n c] rfl
 have H0:=Lib.hid h0
 clear h0
 go_enter Tryz.func155,Tryz.ntmps155
 go_wp2_with fail
 refine (fPRight _ W H A n c HI.out.1 HI.out.2.1).mono ?_
 rintro e w1 ⟨rfl,hm1⟩
 have HS:=H0.out.quiet hm1
 have HG0:Hid (GrowAt w w1 w.heap.size #[.int .i64 (W:Int),.int .i64 (H:Int),.slice A n c] (.slice none 0 0) (rowTil (sqF W pix x y 16) (0 * 16))):=⟨World.ownsRow_nil _ _ _ _,HS.own_ 0 rfl,HS.mod⟩
 clear hm1 HS H0
 go_wp2_with fail
 go_loopw [10,11] (RK1 w w.heap.size #[.int .i64 (W:Int),.int .i64 (H:Int),.slice A n c] (sqF W pix x y 16) 16) (fun _ s _=>16 - (intOf s).toNat)
 case atStart=>exact ⟨0,by omega,rfl,HG0.out⟩
 case round=>
  clear HG0
  obtain ⟨j,hj,rfl,hG⟩:=hrel
  have HG:=Lib.hid hG
  clear hG
  by_cases hlt:j < 16
  ·have d1:decide ((j:Int) < 16) = true:=decide_eq_true (by omega)
   go_wp2_with fail
   go_loopw [10,12] (RK2 w w.heap.size #[.int .i64 (W:Int),.int .i64 (H:Int),.slice A n c] (sqF W pix x y 16) 16 j) (fun _ s _=>16 - (intOf s).toNat)
   case atStart=>exact ⟨0,by omega,rfl,HG.out⟩
   case round=>
    clear HG
    rename World=>w5
    obtain ⟨i,hi,rfl,hG⟩:=hrel
    by_cases hli:i < 16
    ·have d2:decide ((i:Int) < 16) = true:=decide_eq_true (by omega)
     have hff:patL W H pix ((x:Int) + (i:Int)) ((y:Int) + (j:Int)) = sqF W pix x y 16 (j * 16 + i):=by
      rw [sqF_at _ _ _ _ _ _ _ hli]
      unfold patL
      rw [show (x:Int) + (i:Int) = ((x + i:Nat):Int) by omega,show (y:Int) + (j:Int) = ((y + j:Nat):Int) by omega,near_in (by omega),near_in (by omega)]
     obtain ⟨A5,c5,hv5⟩:=own_shape hG.1
     subst hv5
     have hl5:(rowTil (sqF W pix x y 16) (j * 16 + i)).length = j * 16 + i:=rowTil_length _ _
     have hle:j * 16 + i ≤ 4096:=by omega
     obtain ⟨k5,hk5⟩:∃ k5,k5 = (rowTil (sqF W pix x y 16) (j * 16 + i)).length:=⟨_,rfl⟩
     rw [← hk5] at hG ⊢
     have hpc:=hG.2.1.drew.cell
     have HK:=Lib.hid (And.intro hG (And.intro hff (And.intro hk5 (Nat.le_trans (Nat.le_of_eq hl5) hle))))
     clear hG hff hk5 hl5 hle
     have AT:=Lib.hid (fAt w5.drew W H A n c pix HI.out.1 HI.out.2.1 (HI.out.2.2.quiet HK.out.1.2.2.drew) ((x:Int) + (i:Int)) ((y:Int) + (j:Int)))
     have pc0:w5.drew.cell? ⟨w.heap.size,0,none⟩ = some (.int .i64 (W:Int)):=hpc 0
     have pc1:w5.drew.cell? ⟨w.heap.size,1,none⟩ = some (.int .i64 (H:Int)):=hpc 1
     have pc2:w5.drew.cell? ⟨w.heap.size,2,none⟩ = some (.slice A n c):=hpc 2
     clear hpc
     go_upto_region 11 with (fail)
     refine wp_region_planS [8,9,10] [0] (1 :: 2 :: 3 :: 4 :: 5 :: 6 :: 7 :: 0 :: 8 :: 9 :: 10 :: 11 :: []) (fun _=>True) (by kernel_rfl) (by kernel_rfl) (fun _ _ _ d _ h=>by cases d <;> exact h) trivial ?_
     iterate 3 (refine planS_still rfl rfl (fun K hK=>?_);go_simp;refine hK _ ?_;clear hK K)
     refine planS_still rfl rfl (fun K hK=>?_)
     go_simp
     refine ⟨_,(fShifted _ (x:Int) (i:Int) (by omega) (by omega)).mono (fun _ _ ⟨a,b⟩=>⟨a,b.symm⟩),hK _ ?_⟩
     clear hK K
     iterate 2 (refine planS_still rfl rfl (fun K hK=>?_);go_simp;refine hK _ ?_;clear hK K)
     refine planS_still rfl rfl (fun K hK=>?_)
     go_simp
     refine ⟨_,(fShifted _ (y:Int) (j:Int) (by omega) (by omega)).mono (fun _ _ ⟨a,b⟩=>⟨a,b.symm⟩),hK _ ?_⟩
     clear hK K
     refine planS_pure rfl rfl rfl (fun _ _=>rfl) ?_
     refine planS_loud rfl rfl (fun K hK=>?_)
     go_simp
     refine AT.out.mono ?_
     rintro e w6 ⟨rfl,hm6⟩
     rw [HK.out.2.1]
     dsimp only []
     have HA:=Lib.hid (And.intro (HK.out.1.quiet ((Mod.refl (fun _=>False) w5).drew.trans hm6)) HK.out.2)
     refine hK _ _ trivial ?_
     clear hK K hm6 pc0 pc1 pc2
     refine planS_loud rfl rfl (fun K hK=>?_)
     go_simp
     refine hK _ _ trivial ?_
     clear hK K
     refine planS_loud rfl rfl (fun K hK=>?_)
     refine step_app_u8 w6 (by rfl) _ _ (by rfl) w.heap.size (.slice A5 k5 c5) (rowTil (sqF W pix x y 16) (j * 16 + i)) (sqF W pix x y 16 (j * 16 + i)) (by rfl) (by rfl) HA.out.1.1 HA.out.1.2.2.size (by have:=HA.out.2.2.1;have:=HA.out.2.2.2;omega) ?_
     intro v7 w7 hown7 hM7 _ _
     have HO:=Lib.hid (HA.out.1.app hown7 hM7)
     clear hown7 hM7
     refine hK _ _ trivial ?_
     clear hK K
     refine planS_still rfl rfl (fun K hK=>?_);go_simp;refine hK _ ?_;clear hK K
     refine planS_done ?_
     go_wp2_with fail
     go_roundw
     case rel=>exact ⟨i + 1,by omega,by go_num,by rw [← Nat.add_assoc,rowTil_succ];exact HO.out⟩
     case measure=>simp [intOf];omega
    ·obtain rfl:i = 16:=by omega
     have HK:=Lib.hid hG
     clear hG
     go_wp2_with fail
     go_roundw
     case rel=>exact ⟨j + 1,by omega,by go_num,by rw [Nat.add_mul,Nat.one_mul];exact HK.out⟩
     case measure=>simp [intOf];omega
  ·obtain rfl:j = 16:=by omega
   go_wp2_with fail
   go_ret
   exact ⟨_,rfl,HG.out.1,HG.out.2.2⟩
end Go.Proofs.YtmkopcojnibhlaaGreatDoor

