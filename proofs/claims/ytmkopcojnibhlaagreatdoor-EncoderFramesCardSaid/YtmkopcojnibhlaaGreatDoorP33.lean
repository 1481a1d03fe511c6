/-
  The reference's Order of eight and side.
-/
import Derived.Test.YtmkopcojnibhlaaGreatDoorP6
import Derived.Test.YtmkopcojnibhlaaGreatDoorP1
import Derived.Test.YtmkopcojnibhlaaGreatDoorP10
import Derived.Test.YtmkopcojnibhlaaGreatDoorP9
import Derived.Test.YtmkopcojnibhlaaGreatDoorP32
import Derived.Test.YtmkopcojnibhlaaGreatDoorP12
import Derived.Test.YtmkopcojnibhlaaGreatDoorP30
namespace Go.Proofs.YtmkopcojnibhlaaGreatDoor
open Go.RowKit
set_option maxRecDepth 100000
set_option maxHeartbeats 8000000
theorem fSide (w:World):Calls Tryz.prog 168 #[.int .i64 64] w fun e w'=>e = .returned (.int .i64 8) ∧ w = w':=by
 go_enter Tryz.func168,Tryz.ntmps168
 go_wp2_with fail
 go_ret
 exact ⟨rfl,rfl⟩
theorem fOrder (w:World):Calls Tryz.prog 228 #[.int .i64 8] w fun e w'=>∃ b c,e = .returned (.slice (some ⟨b,0,none⟩) 64 c) ∧ w.heap.size ≤ b ∧ IntsIn w' (some ⟨b,0,none⟩) 64 c ord8 ∧ Mod (fun _=>False) w w':=by
 go_enter Tryz.func228,Tryz.ntmps228
 go_wp2_with fail
 go_loopw [3,4] (OrdRel w) (fun _ i _=>15 - (intOf i).toNat)
 case atStart=>exact ⟨0,by omega,rfl,IntsOwn.nil _ _,Mod.refl _ _⟩
 case round=>
  obtain ⟨s,hs,rfl,hown,hM⟩:=hrel
  by_cases hlt:s < 15
  ·obtain ⟨wo,rfl⟩:∃ wo:World,wo = wr:=⟨_,rfl⟩
   have HB:=Lib.hid (And.intro hown hM)
   clear hown hM
   have dx:decide ((s:Int) ≤ 14) = true:=decide_eq_true (by omega)
   go_wp2_with fail
   go_loopw [3,5] (OrdIn w s) (fun _ i _=>8 - (intOf i).toNat)
   case atStart=>exact ⟨0,by omega,rfl,HB.out.1,HB.out.2⟩
   case round=>
    clear HB
    obtain ⟨y,hy,rfl,hown,hM⟩:=hrel
    by_cases hly:y < 8
    ·have dy:decide ((y:Int) < 8) = true:=decide_eq_true (by omega)
     obtain ⟨A3,c3,hv3⟩:=own_shape hown
     subst hv3
     have hle:=ordTo_le s y
     generalize hlen:(ordTo s y).length = n3 at *
     have HB:=Lib.hid (And.intro hown (And.intro hM (And.intro hM.size hlen)))
     clear hown hM hlen
     by_cases h1:y ≤ s
     ·have d1:decide ((0:Int) ≤ (s:Int) - (y:Int)) = true:=decide_eq_true (by omega)
      have d1':decide ((y:Int) ≤ (s:Int)) = true:=decide_eq_true (by omega)
      by_cases h2:s < y + 8
      ·have d2:decide ((s:Int) - (y:Int) < 8) = true:=decide_eq_true (by omega)
       have HS:=Lib.hid (ordTo_yes s y ⟨h1,h2⟩)
       have ev:(y:Int) * 8 + ((s:Int) - (y:Int)) = ((y * 8 + (s - y):Nat):Int):=by omega
       have HE:=Lib.hid ev
       clear ev
       go_wp2_with (at_builtin;have _t:=HB;refine wpList_app_int _ rfl (.tmp 37) (.tmp 43) rfl w.heap.size _ _ ((y:Int) * 8 + ((s:Int) - (y:Int))) rfl rfl HB.out.1 HB.out.2.2.1 (by rw [HB.out.2.2.2];omega) ?_;intro v8 w8 hown8 hMa hMb hF;have HO:=Lib.hid (And.intro hown8 (hMb w (fun _=>False) (Nat.le_refl _) HB.out.2.1));clear hown8 hMa hMb hF)
       go_roundw
       case rel=>
        refine ⟨y + 1,by omega,by go_num,?_,HO.out.2⟩
        rw [HS.out,← HE.out]
        exact HO.out.1
       case measure=>simp [intOf];omega
      ·have d2:decide ((s:Int) - (y:Int) < 8) = false:=decide_eq_false (by omega)
       have HS:=Lib.hid (ordTo_no s y (fun h=>h2 h.2))
       go_wp2_with fail
       go_roundw
       case rel=>
        refine ⟨y + 1,by omega,by go_num,?_,HB.out.2.1⟩
        rw [HS.out]
        exact HB.out.1
       case measure=>simp [intOf];omega
     ·have d1:decide ((0:Int) ≤ (s:Int) - (y:Int)) = false:=decide_eq_false (by omega)
      have d1':decide ((y:Int) ≤ (s:Int)) = false:=decide_eq_false (by omega)
      have HS:=Lib.hid (ordTo_no s y (fun h=>h1 h.1))
      go_wp2_with fail
      go_roundw
      case rel=>
       refine ⟨y + 1,by omega,by go_num,?_,HB.out.2.1⟩
       rw [HS.out]
       exact HB.out.1
      case measure=>simp [intOf];omega
    ·obtain rfl:y = 8:=by omega
     have HB:=Lib.hid (And.intro hown hM)
     clear hown hM
     go_wp2_with fail
     go_roundw
     case rel=>exact ⟨s + 1,by omega,by go_num,by rw [← ordTo_succ];exact HB.out.1,HB.out.2⟩
     case measure=>simp [intOf];omega
  ·obtain rfl:s = 15:=by omega
   have HB:=Lib.hid (And.intro hown hM)
   clear hown hM
   go_wp2_with fail
   go_ret
   obtain ⟨h9,hM9⟩:=HB.out
   have h9':IntsOwn _ _ _ ord8:=h9
   obtain ⟨A9,c9,hv9⟩:=own_shape h9'
   subst hv9
   have hl:=ord8_facts.1
   have hin:=h9'.in_
   rw [hl] at hin
   rcases h9'.2 with ⟨hv,h0⟩ | ⟨g,cap,cur,hv,hB,_⟩
   ·rw [hl] at h0;cases h0
   ·injection hv with e1 e2 e3
    subst e1
    exact ⟨g,c9,by rw [hl];rfl,hB,hin,hM9⟩
def sorK (b:List Int) (k:Nat):List Int:=(List.range k).map fun j=>b.getD (ord8.getD j 0).toNat 0
theorem sorK_succ (b:List Int) (k:Nat):sorK b (k + 1) = sorK b k ++ [b.getD (ord8.getD k 0).toNat 0]:=by simp [sorK,List.range_succ]
theorem sorK_length (b:List Int) (k:Nat):(sorK b k).length = k:=by simp [sorK]
theorem sorTo_K (b:List Int) (k:Nat) (hk:k ≤ 64):sorTo b k = sorK b k ++ List.replicate (64 - k) 0:=by
 induction k with
 | zero=>rfl
 | succ k ih=>
  have h64:64 - k = (64 - (k + 1)) + 1:=by omega
  rw [sorTo,ih (by omega),sorK_succ,h64,List.replicate_succ,List.set_append,if_neg (by rw [sorK_length];omega),sorK_length,Nat.sub_self,List.set_cons_zero,List.append_assoc]
  rfl
theorem sorK_all (b:List Int):sorK b 64 = sortL b:=by
 unfold sortL
 rw [sorTo_K b 64 (by omega)]
 simp
def GSorRel (w2:World) (l:List Int) (v i:Value) (wr:World):Prop:=∃ k:Nat,k ≤ 64 ∧ i = .int .i64 (k:Int) ∧ IntsOwn wr w2.heap.size v (sorK l k) ∧ Mod (fun _=>False) w2 wr
theorem reSort (w:World) (A:Option Addr) (c:Nat) (l:List Int) (hin:IntsIn w A 64 c l):Calls Tryz.prog 175 #[.slice A 64 c] w fun e w'=>∃ ob c',e = .returned (.slice (some ⟨ob,0,none⟩) 64 c') ∧ IntsIn w' (some ⟨ob,0,none⟩) 64 c' (sortL l) ∧ w.heap.size ≤ ob ∧ Mod (fun _=>False) w w':=by
 obtain ⟨b,off,hA,hb,hcell⟩:=hin.place (by omega)
 subst hA
 have HC:=Lib.hid hcell
 clear hcell hin
 go_enter Tryz.func175,Tryz.ntmps175
 go_wp2_with fail
 refine (fSide _).mono ?_
 rintro e w1 ⟨rfl,rfl⟩
 go_wp2_with fail
 refine (fOrder _).mono ?_
 rintro e w2 ⟨b2,c2,rfl,hbb2,hin2,hm2⟩
 obtain ⟨_,off2,hA2,hb2,hcell2⟩:=hin2.place (by omega)
 injection hA2 with hA2
 injection hA2 with hA2 hA3 _
 subst hA2 hA3
 have HC2:=Lib.hid (And.intro hcell2 hm2)
 have hbl2:b < w2.heap.size:=Nat.lt_of_lt_of_le hb hm2.size
 clear hcell2 hin2 hm2 hbb2
 go_wp2_with fail
 go_loopw [4,5] (GSorRel w2 l) (fun _ i _=>64 - (intOf i).toNat)
 case atStart=>exact ⟨0,by omega,rfl,IntsOwn.nil _ _,Mod.refl _ _⟩
 case round=>
  obtain ⟨k,hk,rfl,hown,hM⟩:=hrel
  by_cases hlt:k < 64
  ·have dk:decide ((k:Int) < 64) = true:=decide_eq_true (by omega)
   have p0:(0:Int) ≤ (k:Int):=by omega
   have p1:(k:Int) < 64:=by omega
   have k2:wr.cell? ⟨b2,k,none⟩ = some (.int .i64 (ord8.getD k 0)):=(World.cell?_of_block (hM.block b2 hb2 (fun h=>h))).trans (by have:=HC2.out.1 k hlt;rwa [Nat.zero_add] at this)
   have hpl:=ord8_facts.2 k hlt
   obtain ⟨pl,hpe⟩:∃ pl:Nat,(pl:Int) = ord8.getD k 0:=⟨(ord8.getD k 0).toNat,by omega⟩
   rw [← hpe] at k2 hpl
   have k1:wr.cell? ⟨b,off + pl,none⟩ = some (.int .i64 (l.getD pl 0)):=(World.cell?_of_block (hM.block b hbl2 (fun h=>h))).trans ((World.cell?_of_block (HC2.out.2.block b hb (fun h=>h))).trans (HC.out pl (by omega)))
   have HS:Hid (sorK l (k + 1) = sorK l k ++ [l.getD pl 0]):=by show _ = _;rw [sorK_succ,← hpe];simp
   clear hpe
   generalize l.getD pl 0 = v at *
   have p2:(0:Int) ≤ (pl:Int):=by omega
   have p3:(pl:Int) < 64:=by omega
   clear hpl
   obtain ⟨A3,c3,hv3⟩:=own_shape hown
   subst hv3
   have hle:(sorK l k).length ≤ 64:=by rw [sorK_length];omega
   generalize hlen:(sorK l k).length = n3 at *
   have HB:=Lib.hid (And.intro hown (And.intro hM (And.intro hM.size hlen)))
   clear hown hM hlen
   go_wp2_with (at_builtin;have _t:=HB;refine wpList_app_int _ rfl (.tmp 16) (.tmp 24) rfl w2.heap.size _ _ v rfl rfl HB.out.1 HB.out.2.2.1 (by rw [HB.out.2.2.2];omega) ?_;intro v8 w8 hown8 hMa hMb hF;have HO:=Lib.hid (And.intro hown8 (hMb w2 (fun _=>False) (Nat.le_refl _) HB.out.2.1));clear hown8 hMa hMb hF)
   go_roundw
   case rel=>
    refine ⟨k + 1,by omega,by go_num,?_,HO.out.2⟩
    rw [HS.out]
    exact HO.out.1
   case measure=>simp [intOf];omega
  ·obtain rfl:k = 64:=by omega
   have HB:=Lib.hid (And.intro hown hM)
   clear hown hM
   go_wp2_with fail
   go_ret
   obtain ⟨h9,hM9⟩:=HB.out
   rw [sorK_all] at h9
   obtain ⟨A9,c9,hv9⟩:=own_shape h9
   subst hv9
   have hl:(sortL l).length = 64:=sorTo_length _ _
   have hin:=h9.in_
   rw [hl] at hin
   rcases h9.2 with ⟨hv,h0⟩ | ⟨g,cap,cur,hv,hB,_⟩
   ·rw [hl] at h0;cases h0
   ·injection hv with e1 e2 e3
    subst e1
    exact ⟨g,c9,by rw [hl];rfl,hin,Nat.le_trans HC2.out.2.size hB,HC2.out.2.trans hM9⟩
def rightB (l:List Int) (q m:Int):Bool:=allB m l && decide (0 ≤ q ∧ q ≤ 31)
theorem rright (w:World) (A:Option Addr) (n c:Nat) (l:List Int) (q m:Int) (hin:IntsIn w A n c l) (hn:n ≤ 1048576) (hm:0 ≤ m ∧ m ≤ 1099511627776) :
  Calls Tryz.prog 172 #[.slice A n c,.int .i64 q,.int .i64 m] w fun e w'=>e = .returned (.bool (rightB l q m)) ∧ w = w':=by
 obtain rfl:l.length = n:=hin.1
 by_cases hs:sideOf l.length = 0
 ·have HA:Hid (rightB l q m = false):=by show _ = _;unfold rightB allB;rw [hs];rfl
  have h1:((l.length:Int) != 16) = true:=by
   have:l.length ≠ 16:=fun e=>by rw [e] at hs;cases hs
   simp;omega
  have h2:((l.length:Int) != 64) = true:=by
   have:l.length ≠ 64:=fun e=>by rw [e] at hs;cases hs
   simp;omega
  clear hs
  go_enter Tryz.func172,Tryz.ntmps172
  go_wp2_with fail
  go_ret
  exact ⟨by rw [HA.out];rfl,rfl⟩
 ·have hsc:=side_cases hs
  have h0:0 < l.length:=by omega
  obtain ⟨b,off,rfl,_,hc⟩:=hin.place h0
  have HC:=Lib.hid hc
  have HS:=Lib.hid hs
  have hl:l.length = 16 ∨ l.length = 64:=by omega
  have g1:((l.length:Int) != 16) = true ∧ ((l.length:Int) != 64) = false ∨ ((l.length:Int) != 16) = false:=by
   rcases hl with e | e
   ·right;rw [e];rfl
   ·left;rw [e];exact ⟨rfl,rfl⟩
  have hlb:l.length ≤ 64:=by omega
  clear hin hc hs hsc hl
  by_cases hq:0 ≤ q ∧ q ≤ 31
  ·obtain ⟨q1,q2⟩:=hq
   rcases g1 with ⟨g1,g2⟩ | g1
   all_goals
    go_enter Tryz.func172,Tryz.ntmps172
    go_wp2_with fail
    go_loop [7] (fun i=>∃ k:Nat,k ≤ l.length ∧ i = .int .i64 k ∧ ∀ j < k,inB m (l.getD j 0) = true) (fun i=>l.length - (intOf i).toNat)
    case atStart=>exact ⟨0,by omega,rfl,fun j hj=>by omega⟩
    case round=>
     obtain ⟨k,hk,rfl,hall⟩:=hrel
     have HL:=Lib.hid hall
     clear hall
     by_cases hlt:k < l.length
     ·have hck:=HC.out k hlt
      have i1:(0:Int) ≤ (k:Int):=by omega
      have i2:(k:Int) < (l.length:Int):=by omega
      by_cases hv:-m ≤ l.getD k 0 ∧ l.getD k 0 ≤ m
      ·have HV:Hid (inB m (l.getD k 0) = true):=decide_eq_true hv
       obtain ⟨x,hx⟩:∃ x,x = l.getD k 0:=⟨_,rfl⟩
       rw [← hx] at hck hv
       clear hx
       obtain ⟨v1,v2⟩:=hv
       go_wp2_with fail
       go_round
       case rel=>exact ⟨k + 1,by omega,by go_num,fun j hj=>by
        by_cases e:j = k
        ·subst e;exact HV.out
        ·exact HL.out j (by omega)⟩
       case measure=>simp [intOf];omega
      ·have HA:Hid (rightB l q m = false):=by show _ = _;unfold rightB;rw [allB_no k hlt (decide_eq_false hv)];rfl
       generalize l.getD k 0 = x at *
       have hv':x < -m ∨ m < x:=by omega
       clear hv
       rcases hv' with hv | hv
       all_goals
        go_wp2_with fail
        go_ret
        exact ⟨by rw [HA.out];rfl,rfl⟩
     ·have HA:Hid (rightB l q m = true):=by show _ = _;unfold rightB;rw [allB_yes HS.out (fun j hj=>HL.out j (by omega)),decide_eq_true (show 0 ≤ q ∧ q ≤ 31 from ⟨q1,q2⟩)];rfl
      go_wp2_with fail
      go_ret
      exact ⟨by rw [HA.out];rfl,rfl⟩
  ·have HA:Hid (rightB l q m = false):=by show _ = _;unfold rightB;rw [decide_eq_false hq,Bool.and_false]
   have hq':q < 0 ∨ 31 < q:=by omega
   clear hq
   rcases g1 with ⟨g1,g2⟩ | g1 <;> rcases hq' with hq | hq
   all_goals
    go_enter Tryz.func172,Tryz.ntmps172
    go_wp2_with fail
    go_ret
    exact ⟨by rw [HA.out];rfl,rfl⟩
theorem REb.free {w:World} {bk g ob:Nat} {v:Value} {s:Es} (h:REb w bk g v s) (ho:w.heap.size ≤ ob):¬ (ob = g ∨ ob = bk ∨ v.ownBlock = some ob):=by
 have q1:=h.enc.blk.lt
 have q2:=h.bk_.lt
 rintro (e | e | e)
 ·omega
 ·omega
 ·obtain ⟨_,cs,hb⟩:=own_blk h.enc.own e
  have:=hb.lt
  omega
def RQpRel (w1:World) (bk g:Nat) (v:Value) (L:List Int) (t n:Nat) (tg:Es) (v13:Value) (wr:World):Prop:=
 ∃ (i:Nat) (s:Es) (v1:Value),i ≤ n ∧ v13 = .int .i64 (i:Int) ∧ REb wr bk g v1 s ∧ eputs (t + 1) ((L.take n).drop i) s = tg ∧ s.code.length + 42 * (n - i) + 43 ≤ 1048576 ∧
  (∀ j,v1.ownBlock = some j → v.ownBlock = some j ∨ w1.heap.size ≤ j) ∧ Mod (fun j=>j = g ∨ j = bk ∨ v.ownBlock = some j) w1 wr
theorem rqPut (w:World) (bk g:Nat) (v:Value) (s:Es) (t:Nat) (ht:t < 15) (A:Option Addr) (c:Nat) (l:List Int) (hin:IntsIn w A 64 c l) (hall:allB 1048576 l = true) (h:REb w bk g v s) (hl:s.code.length + 2780 ≤ 1048576) :
  Calls Tryz.prog 112 #[.pointer (some ⟨bk,0,none⟩),.pointer (some ⟨g,0,none⟩),.int .i64 (t:Int),.slice A 64 c] w fun e w'=>e = .returned (.int .i64 0) ∧ REbGo w bk g v (eblk t l s) w':=by
 have hwi:Within 1048576 l:=allB_within (by omega) hall
 have p0:decide ((t:Int) < 0) = false:=decide_eq_false (by omega)
 have p1:decide (14 < (t:Int)) = false:=decide_eq_false (by omega)
 have HR:rightB l 0 1048576 = true:=by unfold rightB;rw [hall];rfl
 have HIN:=Lib.hid (And.intro hin (And.intro h (And.intro hwi HR)))
 clear hin h hwi HR hall
 go_enter Tryz.func112,Tryz.ntmps112
 go_wp2_with fail
 refine (rright _ A 64 c l 0 1048576 HIN.out.1 (by omega) (by omega)).mono ?_
 rintro e w1 ⟨rfl,rfl⟩
 rw [HIN.out.2.2.2]
 go_wp2_with fail
 refine (reSort _ A c l HIN.out.1).mono ?_
 rintro e w2 ⟨ob,c2,rfl,hob,hobl,hm2⟩
 have hL:(sortL l).length = 64:=sorTo_length _ _
 have hLw:Within 1048576 (sortL l):=sorTo_within HIN.out.2.2.1 64
 have HE:Hid (eblk t l s = eputs (t + 1) ((sortL l).take (cntTo (sortL l) 64)) (enum t (cntTo (sortL l) 64) s)):=rfl
 generalize sortL l = L at *
 obtain ⟨_,ooff,hA2,hob2,hcell2⟩:=hob.place (by omega)
 injection hA2 with hA2
 injection hA2 with hA2 hA3 _
 subst hA2 hA3
 have HO:=Lib.hid (And.intro hcell2 (And.intro hL (And.intro hLw hm2)))
 clear hob hL hLw hm2 hcell2
 go_wp2_with fail
 go_loop [11,12] (fun x y=>∃ i:Nat,i ≤ 64 ∧ x = .int .i64 ((cntTo L i:Nat):Int) ∧ y = .int .i64 (i:Int)) (fun _ y=>64 - (intOf y).toNat)
 case atStart=>exact ⟨0,by omega,rfl,rfl⟩
 case round=>
  obtain ⟨i,hi,rfl,rfl⟩:=hrel
  by_cases hlt:i < 64
  ·have d1:decide ((i:Int) < 64) = true:=decide_eq_true (by omega)
   have hk:=HO.out.1 i hlt
   rw [Nat.zero_add] at hk
   have k0:(0:Int) ≤ (i:Int):=by omega
   have k1:(i:Int) < 64:=by omega
   obtain ⟨x,hx⟩:∃ x,x = L.getD i 0:=⟨_,rfl⟩
   rw [← hx] at hk
   have HX:=Lib.hid hx
   clear hx
   by_cases hz:x = 0
   ·have b1:(x != 0) = false:=by simp [hz]
    have HN:Hid (cntTo L (i + 1) = cntTo L i):=by show _ = _;rw [cntTo,← HX.out,if_pos hz]
    clear hz
    go_wp2_with fail
    go_round
    case rel=>exact ⟨i + 1,by omega,by rw [HN.out],by go_num⟩
    case measure=>simp [intOf];omega
   ·have b1:(x != 0) = true:=by simp [hz]
    have HN:Hid (cntTo L (i + 1) = i + 1):=by show _ = _;rw [cntTo,← HX.out,if_neg hz]
    clear hz
    go_wp2_with fail
    go_round
    case rel=>exact ⟨i + 1,by omega,by rw [HN.out];go_num,by go_num⟩
    case measure=>simp [intOf];omega
  ·obtain rfl:i = 64:=by omega
   have hn:=cntTo_le L 64
   obtain ⟨n,hne⟩:∃ n,n = cntTo L 64:=⟨_,rfl⟩
   rw [← hne] at hn HE ⊢
   have hn2:(n:Int) ≤ 64:=by omega
   clear hne
   have P0:=Lib.hid (rbNum w2 bk g v s t n (by omega) (by omega) (HIN.out.2.1.quiet HO.out.2.2.2) (by omega))
   go_wp2_with fail
   refine P0.out.mono ?_
   rintro e w3 ⟨rfl,v3,hE,hF,hMd⟩
   have hfr:=HIN.out.2.1.free hobl
   have hlen3:=enum_len (t:=t) (x:=n) (by omega) s
   have HQ:Hid (RQpRel w2 bk g v L t n (eblk t l s) (.int .i64 0) w3):=⟨0,_,v3,by omega,rfl,hE,by rw [HE.out];rfl,by omega,hF,hMd⟩
   clear hE hF hMd hlen3 P0
   go_wp2_with fail
   go_loopw [13] (RQpRel w2 bk g v L t n (eblk t l s)) (fun i _=>n - (intOf i).toNat)
   case atStart=>exact HQ.out
   case round=>
    clear HQ
    rename World=>wr
    obtain ⟨i,s1,v1,hi,rfl,hE,htg,hlen,hF,hM⟩:=hrel
    have hnb:¬ (ob = g ∨ ob = bk ∨ v.ownBlock = some ob):=hfr
    by_cases hli:i < n
    ·have d2:decide ((i:Int) < (n:Int)) = true:=decide_eq_true (by omega)
     have hk:=HO.out.1 i (by omega)
     rw [Nat.zero_add] at hk
     have hc:wr.cell? ⟨ob,i,none⟩ = some (.int .i64 (L.getD i 0)):=(World.cell?_of_block (hM.block ob hob2 hnb)).trans hk
     have hx:=HO.out.2.2.1 i
     rw [eputs_step _ _ _ _ _ hli (by have:=HO.out.2.1;omega)] at htg
     generalize L.getD i 0 = x at *
     clear hk
     have i0:(0:Int) ≤ (i:Int):=by omega
     have i1:(i:Int) < 64:=by omega
     have P1:=Lib.hid (rbSigned wr bk g v1 s1 (t + 1) x (by omega) hx hE (by omega))
     have hln:=esigned_len (t:=t + 1) hx s1
     have HK:=Lib.hid (And.intro htg (And.intro hF (And.intro hM (And.intro hlen hln))))
     clear hE htg hF hM hlen hln hx hnb
     go_wp2_with fail
     refine P1.out.mono ?_
     rintro e w4 ⟨rfl,hG⟩
     have HG:=Lib.hid (REbGo.trans HK.out.2.1 HK.out.2.2.1 hG)
     clear hG
     go_wp2_with fail
     go_roundw
     case rel=>
      obtain ⟨v4,hE4,hF4,hM4⟩:=HG.out
      exact ⟨i + 1,_,v4,by omega,by go_num,hE4,HK.out.1,by have:=HK.out.2.2.2.1;have:=HK.out.2.2.2.2;omega,hF4,hM4⟩
     case measure=>simp [intOf];omega
    ·obtain rfl:i = n:=by omega
     have HK:Hid (eblk t l s = s1):=by show _ = _;rw [← htg,List.drop_of_length_le (by rw [List.length_take];omega)];rfl
     have HE1:=Lib.hid (And.intro hE (And.intro hF hM))
     clear htg hE hF hM hlen
     go_wp2_with fail
     go_ret
     rw [HK.out]
     exact ⟨rfl,v1,HE1.out.1,fun j e=>(HE1.out.2.1 j e).imp id (Nat.le_trans HO.out.2.2.2.size),(HO.out.2.2.2.mono (fun _ h=>h.elim)).trans HE1.out.2.2⟩
def Sq3 (bk cg:Nat) (v:Value) (j:Nat):Prop:=j = cg ∨ j = bk ∨ v.ownBlock = some j
theorem REb.off {w:World} {bk cg X:Nat} {v:Value} {s:Es} {t:TypeId} {cs:Array Value} (h:REb w bk cg v s) (hb:Blk w X t cs) (h1:t ≠ 173) (h2:t ≠ 177) (h3:t ≠ 3):¬ Sq3 bk cg v X:=by
 rintro (e | e | e)
 ·subst e;exact h.enc.blk.ne_ hb (fun e=>h1 e.symm) rfl
 ·subst e;exact h.bk_.ne_ hb (fun e=>h2 e.symm) rfl
 ·exact h.enc.own.apart hb (fun e=>h3 e) e
theorem REb.frB {w w':World} {bk cg:Nat} {v:Value} {s:Es} {B:Nat} {d:Dim} {b0 k0 b1 k1 b2 k2:Nat} {f:Pix} (h:REb w bk cg v s) (hf:FrB w B d b0 k0 b1 k1 b2 k2 f) (hm:Mod (Sq3 bk cg v) w w'):FrB w' B d b0 k0 b1 k1 b2 k2 f:=
 hf.mod hm (fun j hj=>.inr (by
  rcases hj with e | e | e
  ·subst e;exact ⟨_,_,h.enc.blk,by decide⟩
  ·subst e;exact ⟨_,_,h.bk_,by decide⟩
  ·obtain ⟨_,cs,hb⟩:=own_blk h.enc.own e
   exact ⟨_,cs,hb,by decide⟩))
structure RSq (wA wr:World) (bk cg:Nat) (v:Value) (s:Es) (B:Nat) (d:Dim) (e0 j0 e1 j1 e2 j2:Nat) (f:Pix):Prop where
 mod:Mod (fun _=>False) wA wr
 eb:REb wr bk cg v s
 nb:wA.heap.size ≤ bk
 ng:wA.heap.size ≤ cg
 nv:∀ j,v.ownBlock = some j → wA.heap.size ≤ j
 fr:FrB wr B d e0 j0 e1 j1 e2 j2 f
theorem RSq.quiet {wA wr w':World} {bk cg:Nat} {v:Value} {s:Es} {B:Nat} {d:Dim} {e0 j0 e1 j1 e2 j2:Nat} {f:Pix} (h:RSq wA wr bk cg v s B d e0 j0 e1 j1 e2 j2 f) (hm:Mod (fun _=>False) wr w'):RSq wA w' bk cg v s B d e0 j0 e1 j1 e2 j2 f:=
 ⟨h.mod.trans hm,h.eb.quiet hm,h.nb,h.ng,h.nv,h.fr.quiet hm⟩
theorem RSq.put {wA wr w':World} {bk cg:Nat} {v:Value} {s s':Es} {B:Nat} {d:Dim} {e0 j0 e1 j1 e2 j2:Nat} {f:Pix} (h:RSq wA wr bk cg v s B d e0 j0 e1 j1 e2 j2 f) (k:REbGo wr bk cg v s' w') :
  ∃ v',RSq wA w' bk cg v' s' B d e0 j0 e1 j1 e2 j2 f ∧ (∀ j,v'.ownBlock = some j → v.ownBlock = some j ∨ wr.heap.size ≤ j) ∧ Mod (Sq3 bk cg v) wr w':=by
 obtain ⟨v',h1,hF,hM⟩:=k
 refine ⟨v',⟨h.mod.into hM (fun j e=>?_),h1,h.nb,h.ng,fun j e=>?_,h.eb.frB h.fr hM⟩,hF,hM⟩
 ·rcases e with e | e | e
  ·subst e;exact .inr h.ng
  ·subst e;exact .inr h.nb
  ·exact .inr (h.nv j e)
 ·rcases hF j e with e | e
  ·exact h.nv j e
  ·exact Nat.le_trans h.mod.size e
theorem RSq.box {wA wr w' : World} {bk cg X : Nat} {v : Value} {s : Es} {B : Nat} {d : Dim} {e0 j0 e1 j1 e2 j2 : Nat} {f : Pix} {t : TypeId} {cs : Array Value} (h : RSq wA wr bk cg v s B d e0 j0 e1 j1 e2 j2 f) (hb : Blk wr X t cs) (h1 : t ≠ 173) (h2 : t ≠ 177) (h3 : t ≠ 3) (h4 : t ≠ 5) (hX : wA.heap.size ≤ X) (hm : Mod (· = X) wr w') : RSq wA w' bk cg v s B d e0 j0 e1 j1 e2 j2 f :=
  have off := h.eb.off hb h1 h2 h3
  ⟨h.mod.into hm (fun j e => .inr (by have e2 : j = X := e; omega)),
   ⟨h.eb.bk_.keep hm (fun e => off (.inr (.inl (Eq.symm e)))), h.eb.len, h.eb.ok,
    ⟨h.eb.enc.blk.keep hm (fun e => off (.inl (Eq.symm e))), own_mod h.eb.enc.own hm (fun j ej e => off (.inr (.inr (by have e2 : j = X := e; rw [← e2]; exact ej)))), h.eb.enc.four, h.eb.enc.lo, h.eb.enc.hi⟩⟩,
   h.nb, h.ng, h.nv, h.fr.mod hm (fun j e => .inr ⟨t, cs, by have e2 : j = X := e; rw [e2]; exact hb, h4⟩)⟩
structure SqB (wr:World) (gb fb pb vb rb:Nat) (d:Dim) (e0 j0 e1 j1 e2 j2:Nat) (fv:Array Value) (X Y:Nat) (vx vy:Int):Prop where
 g_:Blk wr gb 40 (frV d e0 j0 e1 j1 e2 j2).toArray
 f_:Blk wr fb 40 fv
 p_:Blk wr pb 185 (plL X Y).toArray
 v_:Blk wr vb 156 #[.int .i64 vx,.int .i64 vy]
 r_:Blk wr rb 40 zeroFr.toArray
theorem SqB.quiet {wr w':World} {gb fb pb vb rb:Nat} {d:Dim} {e0 j0 e1 j1 e2 j2:Nat} {fv:Array Value} {X Y:Nat} {vx vy:Int} (h:SqB wr gb fb pb vb rb d e0 j0 e1 j1 e2 j2 fv X Y vx vy) (hm:Mod (fun _=>False) wr w'):SqB w' gb fb pb vb rb d e0 j0 e1 j1 e2 j2 fv X Y vx vy:=
 ⟨h.g_.keep hm (fun h=>h),h.f_.keep hm (fun h=>h),h.p_.keep hm (fun h=>h),h.v_.keep hm (fun h=>h),h.r_.keep hm (fun h=>h)⟩
theorem SqB.put {wr w':World} {bk cg:Nat} {v:Value} {s:Es} {gb fb pb vb rb:Nat} {d:Dim} {e0 j0 e1 j1 e2 j2:Nat} {fv:Array Value} {X Y:Nat} {vx vy:Int} (h:SqB wr gb fb pb vb rb d e0 j0 e1 j1 e2 j2 fv X Y vx vy) (he:REb wr bk cg v s) (hm:Mod (Sq3 bk cg v) wr w'):SqB w' gb fb pb vb rb d e0 j0 e1 j1 e2 j2 fv X Y vx vy:=
 ⟨h.g_.keep hm (he.off h.g_ (by decide) (by decide) (by decide)),h.f_.keep hm (he.off h.f_ (by decide) (by decide) (by decide)),h.p_.keep hm (he.off h.p_ (by decide) (by decide) (by decide)),h.v_.keep hm (he.off h.v_ (by decide) (by decide) (by decide)),h.r_.keep hm (he.off h.r_ (by decide) (by decide) (by decide))⟩
end Go.Proofs.YtmkopcojnibhlaaGreatDoor

