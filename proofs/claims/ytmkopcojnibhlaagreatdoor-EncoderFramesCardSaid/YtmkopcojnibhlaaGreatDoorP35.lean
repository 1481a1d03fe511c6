/-
  The reference's Unrow.
-/
import Derived.Test.YtmkopcojnibhlaaGreatDoorP26
import Derived.Test.YtmkopcojnibhlaaGreatDoorP3
import Derived.Test.YtmkopcojnibhlaaGreatDoorP9
import Derived.Test.YtmkopcojnibhlaaGreatDoorP14
import Derived.Test.YtmkopcojnibhlaaGreatDoorP34
import Derived.Test.YtmkopcojnibhlaaGreatDoorP23
namespace Go.Proofs.YtmkopcojnibhlaaGreatDoor
open Go.RowKit
set_option maxRecDepth 100000
set_option maxHeartbeats 8000000
def unA (m:Nat) (low l:List Int) (i:Nat):Int:=low.getD i 0 - l.getD (m + i) 0 / 2
def unTo (m:Nat) (low l:List Int) (k:Nat):List Int:=(List.range k).flatMap fun i=>[unA m low l i + l.getD (m + i) 0,unA m low l i]
theorem unTo_succ (m:Nat) (low l:List Int) (k:Nat):unTo m low l (k + 1) = unTo m low l k ++ [unA m low l k + l.getD (m + k) 0,unA m low l k]:=by simp [unTo,List.range_succ]
theorem unTo_length (m:Nat) (low l:List Int) (k:Nat):(unTo m low l k).length = 2 * k:=by
 induction k with
 | zero=>rfl
 | succ k ih=>rw [unTo_succ,List.length_append,ih];simp;omega
def unK:Nat → List Int → List Int
 | 0,l=>l
 | j + 1,l=>unTo (2 ^ j) (unK j (l.take (2 ^ j))) l (2 ^ j)
theorem unK_length (j:Nat):∀ l:List Int,l.length = 2 ^ j → (unK j l).length = 2 ^ j:=by
 cases j with
 | zero=>intro l h;exact h
 | succ j=>intro l _;simp only [unK,unTo_length,Nat.pow_succ];omega
theorem within_snoc {M:Int} {l r:List Int} (h0:0 ≤ M) (h:Within M l) (hr:∀ x ∈ r,-M ≤ x ∧ x ≤ M):Within M (l ++ r):=by
 intro i
 rw [List.getD_eq_getElem?_getD]
 by_cases h1:i < l.length
 ·rw [List.getElem?_append_left h1,← List.getD_eq_getElem?_getD];exact h i
 ·by_cases h2:i < (l ++ r).length
  ·rw [List.getElem?_append_right (by omega)]
   have h3:i - l.length < r.length:=by simp at h2;omega
   rw [List.getElem?_eq_getElem h3]
   exact hr _ (List.getElem_mem h3)
  ·rw [List.getElem?_eq_none (by omega)];exact ⟨by simp;omega,by simpa using h0⟩
theorem within_take {M:Int} {l:List Int} (h0:0 ≤ M) (h:Within M l) (m:Nat):Within M (l.take m):=by
 intro i
 rw [List.getD_eq_getElem?_getD,List.getElem?_take]
 split
 ·rw [← List.getD_eq_getElem?_getD];exact h i
 ·exact ⟨by simp;omega,by simpa using h0⟩
theorem unTo_within {M B:Int} {low l:List Int} (h0:0 ≤ M) (hB:0 ≤ B) (h:Within M l) (hl:Within B low) (m k:Nat):Within (B + M + 1) (unTo m low l k):=by
 induction k with
 | zero=>intro i;simp [unTo];omega
 | succ k ih=>
  rw [unTo_succ]
  refine within_snoc (by omega) ih ?_
  have a:=h (m + k)
  have b:=hl k
  intro x hx
  unfold unA at hx
  simp only [List.mem_cons,List.not_mem_nil,or_false] at hx
  rcases hx with hx | hx <;> omega
theorem unK_within {M:Int} (h0:0 ≤ M) (j:Nat):∀ l,Within M l → Within (M + (j:Int) * (M + 1)) (unK j l):=by
 induction j with
 | zero=>intro l h;simpa [unK] using h
 | succ j ih=>
  intro l h
  have a:=ih (l.take (2 ^ j)) (within_take h0 h _)
  have hj:0 ≤ (j:Int) * (M + 1):=Int.mul_nonneg (by omega) (by omega)
  have b:=unTo_within h0 (by omega) h a (2 ^ j) (2 ^ j)
  have e:M + (((j + 1:Nat)):Int) * (M + 1) = M + (j:Int) * (M + 1) + M + 1:=by
   rw [show (((j + 1:Nat)):Int) = (j:Int) + 1 by omega,Int.add_mul];omega
  rw [e]
  exact b
theorem IntsIn.part {w:World} {b off n c:Nat} {l:List Int} (h:IntsIn w (some ⟨b,off,none⟩) n c l) (k m c':Nat) (hk:k + m ≤ n):IntsIn w (some ⟨b,off + k,none⟩) m c' ((l.drop k).take m):=by
 obtain ⟨h1,h2,h3,h4⟩:=h
 refine ⟨by simp;omega,(fun h=>by cases h),⟨by simp [i64s];omega,(fun h=>by cases h),fun ad e i u hu=>?_⟩,fun h0 ad e=>?_⟩
 ·injection e with e
  subst e
  rw [addr_add']
  have hi:i < m:=by
   have:=(List.getElem?_eq_some_iff.1 hu).1
   simp [i64s] at this
   omega
  have h5:=h3.2.2 _ rfl (k + i) u (by
   rw [← hu]
   simp [i64s,hi])
  rw [addr_add'] at h5
  rw [← h5]
  congr 2
  omega
 ·injection e with e
  subst e
  exact h4 (by omega) ⟨b,off,none⟩ rfl
def UnRel (w:World) (m:Nat) (low l:List Int) (v5 i:Value) (wr:World):Prop:=
 ∃ k:Nat,k ≤ m ∧ i = .int .i64 (k:Int) ∧ IntsOwn wr w.heap.size v5 (unTo m low l k) ∧ Mod (fun _=>False) w wr
theorem quiet_floor (w:World) (v:Int) (h:-4611686018427387904 ≤ v ∧ v ≤ 4611686018427387904) (n:Nat):Calls Tryz.prog 262 #[.int .i64 v] (w.drewN n) fun e w'=>e = .returned (.int .i64 (v / 2)) ∧ w' = w.drewN n:=(rfloor _ v h).mono fun _ _ ⟨a,b⟩=>⟨a,b.symm⟩
theorem runrow (j:Nat):j ≤ 3 → ∀ (w:World) (A:Option Addr) (n c:Nat) (l:List Int),n = 2 ^ j → n ≤ c → IntsIn w A n c l → Within 1099511627776 l → Calls Tryz.prog 227 #[.slice A n c] w (IntsRet w (unK j l)):=by
 induction j with
 | zero=>
  intro _ w A n c l hn hc hin hw
  subst hn
  have HIN:=Lib.hid hin
  clear hin
  go_enter Tryz.func227,Tryz.ntmps227
  go_wp2_with fail
  go_ret
  have h1:l.length = 1:=HIN.out.1
  refine ⟨A,c,?_,?_,?_,Mod.refl _ _⟩
  ·simp [unK,h1]
  ·simp [unK,h1];omega
  ·simp only [unK,h1];exact HIN.out
 | succ j ih=>
  intro hj w A n c l hn hc hin hw
  have ih':=ih (by omega)
  have HIH:=Lib.hid ih'
  clear ih ih'
  have hm:n = 2 * 2 ^ j:=by rw [hn,Nat.pow_succ];omega
  have hp:1 ≤ 2 ^ j ∧ 2 ^ j ≤ 8:=⟨Nat.one_le_two_pow,Nat.pow_le_pow_right (by omega) (show j ≤ 3 by omega)⟩
  clear hn
  obtain ⟨m,hm2⟩:∃ m,m = 2 ^ j:=⟨_,rfl⟩
  rw [← hm2] at hm hp
  have HM:=Lib.hid hm2
  clear hm2
  have HN:=Lib.hid hm
  have hn1:2 ≤ n:=by omega
  have hn2:n ≤ 16:=by omega
  have hnd:(n:Int) / 2 = (m:Int):=by omega
  have hmn:m ≤ n:=by omega
  clear hm
  obtain ⟨hp1,hp2⟩:=hp
  obtain ⟨b,off,hA,hb,hcell⟩:=hin.place (by omega)
  subst hA
  have HC:=Lib.hid (And.intro hcell hw)
  have hl:=hin.1
  have HL:=Lib.hid hl
  have hpart:=hin.part 0 m c (by omega)
  rw [List.drop_zero,Nat.add_zero] at hpart
  have R4:=HIH.out w _ m c _ HM.out (by omega) hpart (within_take (by omega) hw m)
  clear hcell hin hw hl hpart
  have HW:Hid (Within 4398046511108 (unK j (l.take m))):=by
   have a:=unK_within (by omega) j (l.take m) (within_take (by omega) HC.out.2 m)
   intro i
   have:=a i
   have hj3:(j:Int) ≤ 3:=by omega
   have hj4:(j:Int) * (1099511627776 + 1) ≤ 3 * (1099511627776 + 1):=Int.mul_le_mul_of_nonneg_right hj3 (by omega)
   omega
  go_enter Tryz.func227,Tryz.ntmps227
  go_wp2_with fail
  refine R4.mono ?_
  clear R4
  rintro e w4 ⟨A4,c4,rfl,hc4,hin4,hm4⟩
  have hul:(unK j (l.take m)).length = m:=by rw [unK_length j _ (by simp [HL.out,← HM.out];omega),← HM.out]
  rw [hul] at hin4 hc4 ⊢
  obtain ⟨b4,off4,hA4,hb4,hcell4⟩:=hin4.place (by omega)
  subst hA4
  have HC4:=Lib.hid (And.intro hcell4 hm4)
  clear hcell4 hm4 hin4 hul hnd
  obtain ⟨low,hlow⟩:∃ low,low = unK j (l.take m):=⟨_,rfl⟩
  rw [← hlow] at HC4 HW
  have HLW:=Lib.hid hlow
  clear hlow
  go_wp2_with fail
  go_loopw [5,6] (UnRel w4 m low l) (fun _ i _=>m - (intOf i).toNat)
  case atStart=>exact ⟨0,by omega,rfl,IntsOwn.nil _ _,Mod.refl _ _⟩
  case round=>
   obtain ⟨k,hk,rfl,hown,hM⟩:=hrel
   by_cases hlt:k < m
   ·have hk0:wr.cell? ⟨b,off + (m + k),none⟩ = some (.int .i64 (l.getD (m + k) 0)):=(World.cell?_of_block ((HC4.out.2.trans hM).block b hb (fun h=>h))).trans (HC.out.1 (m + k) (by have:=HN.out;omega))
    have hk1:wr.cell? ⟨b4,off4 + k,none⟩ = some (.int .i64 (low.getD k 0)):=(World.cell?_of_block (hM.block b4 hb4 (fun h=>h))).trans (HC4.out.1 k hlt)
    have hx:=HC.out.2 (m + k)
    have hy:=HW.out k
    have HS:=Lib.hid (unTo_succ m low l k)
    unfold unA at HS
    generalize l.getD (m + k) 0 = x at *
    generalize low.getD k 0 = y at *
    obtain ⟨x1,x2⟩:=hx
    obtain ⟨y1,y2⟩:=hy
    obtain ⟨A3,c3,hv3⟩:=own_shape hown
    subst hv3
    rw [unTo_length]
    rw [unTo_length] at hown
    have hwl:=World.block_lt_of_cell? _ _ hk0
    have HB:=Lib.hid (And.intro hown hM)
    have hmk:m + k < n:=by have:=HN.out;omega
    have p1:(m:Int) + (k:Int) < (n:Int):=by omega
    have p3:(0:Int) ≤ (m:Int) + (k:Int):=by omega
    have p4:((m:Int) + (k:Int)).toNat = m + k:=by omega
    clear hown hM
    go_upto_region 10 with (fail)
    have p5:(k:Int) < (m:Int):=by omega
    have p6:(0:Int) ≤ (k:Int):=by omega
    have s1:IntKind.i64.wrap (y - x / 2) = y - x / 2:=IntWalk.i64_in _ ⟨by omega,by omega⟩
    go_quiet ((go_at_call 262;exact Calls.quiet_of_same (quiet_floor _ x ⟨by omega,by omega⟩ _)))
    clear s1
    have hr5:=HB.out.1.drewN nq
    have hM5:=HB.out.2.drewN nq
    generalize wr.drewN nq = w5 at *
    clear hk0 hk1 hwl
    have hin6:IntsIn (w5.alloc (.cells #[.int .i64 (y - x / 2 + x),.int .i64 (y - x / 2)] 3)) (some ⟨w5.heap.size,0,none⟩) 2 2 [y - x / 2 + x,y - x / 2]:=(IntsOwn.whole (l:=[y - x / 2 + x,y - x / 2]) (Nat.zero_le _) (Blk.new w5 3 _) (by unfold maxLen;simp)).in_
    have hr6:=hr5.quiet ((Mod.refl _ _).alloc (.cells #[.int .i64 (y - x / 2 + x),.int .i64 (y - x / 2)] 3))
    have hM6:=hM5.alloc (.cells #[.int .i64 (y - x / 2 + x),.int .i64 (y - x / 2)] 3)
    have HZ:=Lib.hid (And.intro hin6 (And.intro hr6 hM6))
    clear hin6 hr6 hM6 hr5 hM5
    go_wp2_with (at_builtin;have _t:=HZ;refine wpList_app_ints _ rfl (.tmp 38) (.tmp 43) rfl w4.heap.size _ _ _ 2 2 _ rfl rfl HZ.out.2.1 HZ.out.1 HZ.out.2.2.size (by rw [unTo_length];omega) ?_;intro v8 w8 hown8 hMa hMb hF;have HO:=Lib.hid (And.intro hown8 (hMb w4 (fun _=>False) (Nat.le_refl _) HZ.out.2.2));clear hown8 hMa hMb hF)
    go_roundw
    case rel=>
     refine ⟨k + 1,by omega,by go_num,?_,HO.out.2⟩
     rw [HS.out]
     exact HO.out.1
    case measure=>simp [intOf];omega
   ·obtain rfl:k = m:=by omega
    have HB:=Lib.hid (And.intro hown hM)
    clear hown hM
    go_wp2_with fail
    go_ret
    obtain ⟨h9,hM9⟩:=HB.out
    have e9:unK (j + 1) l = unTo k low l k:=by rw [HLW.out,HM.out];rfl
    rw [← e9] at h9
    obtain ⟨A9,c9,hv9⟩:=own_shape h9
    subst hv9
    exact ⟨A9,c9,rfl,h9.cap,h9.in_,HC4.out.2.trans hM9⟩
theorem r7side (w:World) (n:Nat) (hn:n ≤ 9223372036854775807):Calls Tryz.prog 168 #[.int .i64 (n:Int)] w fun e w'=>e = .returned (.int .i64 ((sideOf n:Nat):Int)) ∧ w = w':=by
 unfold sideOf
 by_cases h1:n = 16
 ·subst h1
  go_enter Tryz.func168,Tryz.ntmps168
  go_wp2_with fail
  go_ret
  exact ⟨rfl,rfl⟩
 ·by_cases h2:n = 64
  ·subst h2
   go_enter Tryz.func168,Tryz.ntmps168
   go_wp2_with fail
   go_ret
   exact ⟨rfl,rfl⟩
  ·have e1:((n:Int) == 16) = false:=beq_eq_false_iff_ne.2 (by omega)
   have e2:((n:Int) == 64) = false:=beq_eq_false_iff_ne.2 (by omega)
   rw [if_neg h1,if_neg h2]
   go_enter Tryz.func168,Tryz.ntmps168
   go_wp2_with fail
   go_ret
   exact ⟨rfl,rfl⟩
def turnTo (l:List Int) (p:Nat):List Int:=(List.range p).map fun t=>l.getD (t % 8 * 8 + t / 8) 0
theorem turnTo_succ (l:List Int) (x y:Nat) (hy:y < 8):turnTo l (8 * x + y + 1) = turnTo l (8 * x + y) ++ [l.getD (y * 8 + x) 0]:=by
 unfold turnTo
 rw [List.range_succ,List.map_append]
 have h1:(8 * x + y) % 8 = y:=by omega
 have h2:(8 * x + y) / 8 = x:=by omega
 simp [h1,h2]
theorem turnTo_length (l:List Int) (p:Nat):(turnTo l p).length = p:=by simp [turnTo]
def turnL (l:List Int):List Int:=turnTo l 64
def TurnRel (w:World) (l:List Int) (v5 i:Value) (wr:World):Prop:=
 ∃ x:Nat,x ≤ 8 ∧ i = .int .i64 (x:Int) ∧ IntsOwn wr w.heap.size v5 (turnTo l (8 * x)) ∧ Mod (fun _=>False) w wr
def TurnIn (w:World) (l:List Int) (x:Nat) (v5 i:Value) (wr:World):Prop:=
 ∃ y:Nat,y ≤ 8 ∧ i = .int .i64 (y:Int) ∧ IntsOwn wr w.heap.size v5 (turnTo l (8 * x + y)) ∧ Mod (fun _=>False) w wr
theorem rturned (w:World) (A:Option Addr) (c:Nat) (l:List Int) (hin:IntsIn w A 64 c l):Calls Tryz.prog 171 #[.slice A 64 c,.int .i64 8] w (IntsRet w (turnL l)):=by
 obtain ⟨b,off,hA,hb,hcell⟩:=hin.place (by omega)
 subst hA
 have HC:=Lib.hid hcell
 clear hcell hin
 go_enter Tryz.func171,Tryz.ntmps171
 go_wp2_with fail
 go_loopw [5,6] (TurnRel w l) (fun _ i _=>8 - (intOf i).toNat)
 case atStart=>exact ⟨0,by omega,rfl,IntsOwn.nil _ _,Mod.refl _ _⟩
 case round=>
  obtain ⟨x,hx,rfl,hown,hM⟩:=hrel
  by_cases hlt:x < 8
  ·obtain ⟨wo,rfl⟩:∃ wo:World,wo = wr:=⟨_,rfl⟩
   have HB:=Lib.hid (And.intro hown hM)
   clear hown hM
   have dx:decide ((x:Int) < 8) = true:=decide_eq_true (by omega)
   go_wp2_with fail
   go_loopw [5,7] (TurnIn w l x) (fun _ i _=>8 - (intOf i).toNat)
   case atStart=>exact ⟨0,by omega,rfl,HB.out.1,HB.out.2⟩
   case round=>
    clear HB
    obtain ⟨y,hy,rfl,hown,hM⟩:=hrel
    by_cases hly:y < 8
    ·have hk0:wr.cell? ⟨b,off + (y * 8 + x),none⟩ = some (.int .i64 (l.getD (y * 8 + x) 0)):=(World.cell?_of_block (hM.block b hb (fun h=>h))).trans (HC.out (y * 8 + x) (by omega))
     have HS:=Lib.hid (turnTo_succ l x y hly)
     generalize l.getD (y * 8 + x) 0 = v at *
     obtain ⟨A3,c3,hv3⟩:=own_shape hown
     subst hv3
     rw [turnTo_length]
     rw [turnTo_length] at hown
     have HB:=Lib.hid (And.intro hown (And.intro hM hM.size))
     clear hown hM
     have p1:(0:Int) ≤ (y:Int) * 8 + (x:Int):=by omega
     have p2:((y:Int) * 8 + (x:Int)).toNat = y * 8 + x:=by omega
     have p3:(y:Int) * 8 + (x:Int) < 64:=by omega
     go_wp2_with (at_builtin;have _t:=HB;refine wpList_app_int _ rfl (.tmp 18) (.tmp 27) rfl w.heap.size _ _ v rfl rfl HB.out.1 HB.out.2.2 (by rw [turnTo_length];omega) ?_;intro v8 w8 hown8 hMa hMb hF;have HO:=Lib.hid (And.intro hown8 (hMb w (fun _=>False) (Nat.le_refl _) HB.out.2.1));clear hown8 hMa hMb hF)
     go_roundw
     case rel=>
      have h8:IntsOwn w8 w.heap.size v8 (turnTo l (8 * x + (y + 1))):=by
       rw [← Nat.add_assoc,HS.out]
       exact HO.out.1
      exact ⟨y + 1,by omega,by go_num,h8,HO.out.2⟩
     case measure=>simp [intOf];omega
    ·obtain rfl:y = 8:=by omega
     have HB:=Lib.hid (And.intro hown hM)
     clear hown hM
     go_wp2_with fail
     go_roundw
     case rel=>exact ⟨x + 1,by omega,by go_num,HB.out.1,HB.out.2⟩
     case measure=>simp [intOf];omega
  ·obtain rfl:x = 8:=by omega
   have HB:=Lib.hid (And.intro hown hM)
   clear hown hM
   go_wp2_with fail
   go_ret
   obtain ⟨h9,hM9⟩:=HB.out
   have h9':IntsOwn _ _ _ (turnL l):=h9
   obtain ⟨A9,c9,hv9⟩:=own_shape h9'
   subst hv9
   exact ⟨A9,c9,rfl,h9'.cap,h9'.in_,hM9⟩
def rowsTo (f:List Int → List Int) (l:List Int) (k:Nat):List Int:=(List.range k).flatMap fun y=>f ((l.drop (y * 8)).take 8)
theorem rowsTo_succ (f:List Int → List Int) (l:List Int) (k:Nat):rowsTo f l (k + 1) = rowsTo f l k ++ f ((l.drop (k * 8)).take 8):=by simp [rowsTo,List.range_succ]
theorem rowsTo_length (f:List Int → List Int) (l:List Int) (hl:l.length = 64) (hf:∀ x:List Int,x.length = 8 → (f x).length = 8) (k:Nat) (hk:k ≤ 8):(rowsTo f l k).length = k * 8:=by
 induction k with
 | zero=>rfl
 | succ k ih=>
  rw [rowsTo_succ,List.length_append,ih (by omega),hf _ (by simp;omega)]
  omega
def RowsRel (w:World) (f:List Int → List Int) (l:List Int) (v7 i:Value) (wr:World):Prop:=
 ∃ k:Nat,k ≤ 8 ∧ i = .int .i64 (k:Int) ∧ IntsOwn wr w.heap.size v7 (rowsTo f l k) ∧ Mod (fun _=>False) w wr
theorem within_part {M:Int} {l:List Int} (h0:0 ≤ M) (h:Within M l) (k m:Nat):Within M ((l.drop k).take m):=by
 intro i
 rw [List.getD_eq_getElem?_getD,List.getElem?_take]
 split
 ·rw [List.getElem?_drop,← List.getD_eq_getElem?_getD];exact h _
 ·exact ⟨by simp;omega,by simpa using h0⟩
theorem rrows (w:World) (A:Option Addr) (c:Nat) (l:List Int) (hc:64 ≤ c) (hin:IntsIn w A 64 c l) (hw:Within 1099511627776 l):Calls Tryz.prog 170 #[.slice A 64 c,.int .i64 8,.bool true] w (IntsRet w (rowsTo (unK 3) l 8)):=by
 obtain ⟨b,off,hA,hb,hcell⟩:=hin.place (by omega)
 subst hA
 have HC:=Lib.hid (And.intro hin hw)
 clear hcell hin hw
 go_enter Tryz.func170,Tryz.ntmps170
 go_wp2_with fail
 go_loopw [7,8] (RowsRel w (unK 3) l) (fun _ i _=>8 - (intOf i).toNat)
 case atStart=>exact ⟨0,by omega,rfl,IntsOwn.nil _ _,Mod.refl _ _⟩
 case round=>
  obtain ⟨k,hk,rfl,hown,hM⟩:=hrel
  by_cases hlt:k < 8
  ·have hlen:=rowsTo_length (unK 3) l HC.out.1.1 (fun x hx=>unK_length 3 x hx) k hk
   obtain ⟨A3,c3,hv3⟩:=own_shape hown
   subst hv3
   rw [hlen] at hown ⊢
   have HB:=Lib.hid (And.intro hown (And.intro hM hlen))
   have hpart:=(HC.out.1.quiet hM).part (k * 8) 8 (c - k * 8) (by omega)
   have hwp:=within_part (by omega) HC.out.2 (k * 8) 8
   have R5:=rrow 3 (by omega) wr _ 8 (c - k * 8) _ rfl (by omega) hpart hwp
   have HP:=Lib.hid (And.intro hpart hwp)
   clear hown hM hpart hwp hlen
   go_wp2_with fail
   refine R5.mono ?_
   clear R5
   rintro e w5 ⟨A5,c5,rfl,hc5,hin5,hm5⟩
   have R6:=runrow 3 (by omega) w5 _ 8 (c - k * 8) _ rfl (by omega) (HP.out.1.quiet hm5) HP.out.2
   have HM5:=Lib.hid hm5
   clear hin5 hm5 hc5
   go_wp2_with fail
   refine R6.mono ?_
   clear R6
   rintro e w6 ⟨A6,c6,rfl,hc6,hin6,hm6⟩
   have hl6:(unK 3 ((l.drop (k * 8)).take 8)).length = 8:=unK_length 3 _ (by have:=HC.out.1.1;simp;omega)
   rw [hl6] at hin6 ⊢
   have M6:Mod (fun _=>False) wr w6:=HM5.out.trans hm6
   have HZ:=Lib.hid (And.intro hin6 (And.intro (HB.out.1.quiet M6) (And.intro (HB.out.2.1.trans M6) hl6)))
   clear hin6 hm6 M6 hl6
   go_wp2_with (at_builtin;have _t:=HZ;refine wpList_app_ints _ rfl (.tmp 38) (.tmp 39) rfl w.heap.size _ _ _ 8 _ _ rfl rfl HZ.out.2.1 HZ.out.1 HZ.out.2.2.1.size (by rw [HB.out.2.2];omega) ?_;intro v8 w8 hown8 hMa hMb hF;have HO:=Lib.hid (And.intro hown8 (hMb w (fun _=>False) (Nat.le_refl _) HZ.out.2.2.1));clear hown8 hMa hMb hF)
   go_roundw
   case rel=>
    refine ⟨k + 1,by omega,by go_num,?_,HO.out.2⟩
    rw [rowsTo_succ]
    exact HO.out.1
   case measure=>simp [intOf];omega
  ·obtain rfl:k = 8:=by omega
   have HB:=Lib.hid (And.intro hown hM)
   clear hown hM
   go_wp2_with fail
   go_ret
   obtain ⟨h9,hM9⟩:=HB.out
   obtain ⟨A9,c9,hv9⟩:=own_shape h9
   subst hv9
   exact ⟨A9,c9,rfl,h9.cap,h9.in_,hM9⟩
def WithinRel (m:Int) (l:List Int) (i:Value):Prop:=∃ k:Nat,k ≤ l.length ∧ i = .int .i64 (k:Int) ∧ ∀ j < k,inB m (l.getD j 0) = true
theorem rwithin (w:World) (A:Option Addr) (n c:Nat) (l:List Int) (m:Int) (hm:0 ≤ m ∧ m ≤ 1099511627776) (hn0:0 < n) (hn:n ≤ 1048576) (hin:IntsIn w A n c l):Calls Tryz.prog 169 #[.slice A n c,.int .i64 m] w fun e w'=>e = .returned (.bool (l.all (inB m))) ∧ w = w':=by
 obtain rfl:l.length = n:=hin.1
 obtain ⟨b,off,hA,hb,hcell⟩:=hin.place (by omega)
 subst hA
 have HC:=Lib.hid hcell
 clear hcell hin
 obtain ⟨m1,m2⟩:=hm
 go_enter Tryz.func169,Tryz.ntmps169
 go_wp2_with fail
 go_loop [5] (WithinRel m l) (fun i=>l.length - (intOf i).toNat)
 case atStart=>exact ⟨0,by omega,rfl,fun j hj=>by omega⟩
 case round=>
  obtain ⟨k,hk,rfl,hall⟩:=hrel
  have HA:=Lib.hid hall
  clear hall
  by_cases hlt:k < l.length
  ·have hck:=HC.out k hlt
   have HV:Hid (inB m (l.getD k 0) = decide (-m ≤ l.getD k 0 ∧ l.getD k 0 ≤ m)):=rfl
   have HM:Hid (l.getD k 0 ∈ l):=by
    show _ ∈ _
    rw [List.getD_eq_getElem?_getD,List.getElem?_eq_getElem hlt];exact List.getElem_mem hlt
   have HG:Hid (inB m (l.getD k 0) = inB m (l.getD k 0)):=rfl
   obtain ⟨v,hv⟩:∃ v,v = l.getD k 0:=⟨_,rfl⟩
   rw [← hv] at hck HV HM
   have HVE:=Lib.hid hv
   clear hv
   by_cases h1:v < -m
   ·have d1:decide (v < -m) = true:=decide_eq_true h1
    go_wp2_with fail
    go_ret
    have e:l.all (inB m) = false:=by
     rw [List.all_eq_false]
     exact ⟨v,HM.out,by rw [HV.out];simp;omega⟩
    exact ⟨by rw [e];rfl,rfl⟩
   ·have d1:decide (v < -m) = false:=decide_eq_false h1
    by_cases h2:m < v
    ·have d2:decide (m < v) = true:=decide_eq_true h2
     go_wp2_with fail
     go_ret
     have e:l.all (inB m) = false:=by
      rw [List.all_eq_false]
      exact ⟨v,HM.out,by rw [HV.out];simp;omega⟩
     exact ⟨by rw [e];rfl,rfl⟩
    ·have d2:decide (m < v) = false:=decide_eq_false h2
     go_wp2_with fail
     go_round
     case rel=>
      refine ⟨k + 1,by omega,by go_num,fun j hj=>?_⟩
      by_cases e:j = k
      ·rw [e,← HVE.out,HV.out];simp;omega
      ·exact HA.out j (by omega)
     case measure=>simp [intOf];omega
  ·go_wp2_with fail
   go_ret
   have e:l.all (inB m) = true:=by
    rw [List.all_eq_true]
    intro x hx
    obtain ⟨j,hj,rfl⟩:=List.getElem_of_mem hx
    have:=HA.out j (by omega)
    rwa [List.getD_eq_getElem?_getD,List.getElem?_eq_getElem hj] at this
   exact ⟨by rw [e];rfl,rfl⟩
def rbackL (l:List Int):List Int:=rowsTo (unK 3) (turnL (rowsTo (unK 3) (turnL l) 8)) 8
def RBackPost (w:World) (l:List Int) (e:Ending) (w':World):Prop:=
 Mod (fun _=>False) w w' ∧ ((allB 67108864 l = false ∧ e = .returned (.tuple #[.slice none 0 0,.int .i64 1])) ∨ ∃ A c,allB 67108864 l = true ∧ e = .returned (.tuple #[.slice A 64 c,.int .i64 0]) ∧ IntsIn w' A 64 c (rbackL l))
theorem turnL_length (l:List Int):(turnL l).length = 64:=turnTo_length l 64
theorem turnL_within {M:Int} {l:List Int} (h0:0 ≤ M) (h:Within M l):Within M (turnL l):=by
 intro i
 by_cases hi:i < 64
 ·have e:(turnL l).getD i 0 = l.getD (i % 8 * 8 + i / 8) 0:=by simp [turnL,turnTo,List.getD_eq_getElem?_getD,hi]
  rw [e];exact h _
 ·have e:(turnL l).getD i 0 = 0:=by simp [turnL,turnTo,List.getD_eq_getElem?_getD,hi]
  rw [e];omega
theorem within_memR {M:Int} {l:List Int} (h:Within M l) {x:Int} (hx:x ∈ l):-M ≤ x ∧ x ≤ M:=by
 obtain ⟨j,hj,rfl⟩:=List.getElem_of_mem hx
 have:=h j
 rwa [List.getD_eq_getElem?_getD,List.getElem?_eq_getElem hj] at this
theorem rowsTo_within {M B:Int} {l:List Int} {f:List Int → List Int} (h0:0 ≤ M) (hB:0 ≤ B) (h:Within M l) (hf:∀ x,Within M x → Within B (f x)) (k:Nat):Within B (rowsTo f l k):=by
 induction k with
 | zero=>intro i;simp [rowsTo];omega
 | succ k ih=>
  rw [rowsTo_succ]
  exact within_snoc hB ih (fun x hx=>within_memR (hf _ (within_part h0 h _ _)) hx)
theorem all_within {m:Int} {l:List Int} (h0:0 ≤ m) (h:l.all (inB m) = true):Within m l:=by
 intro i
 rw [List.getD_eq_getElem?_getD]
 by_cases hi:i < l.length
 ·rw [List.getElem?_eq_getElem hi]
  have:=(List.all_eq_true.1 h) _ (List.getElem_mem hi)
  simpa [inB] using this
 ·rw [List.getElem?_eq_none (by omega)];exact ⟨by simp;omega,by simpa using h0⟩
theorem rback (w:World) (A:Option Addr) (c:Nat) (l:List Int) (hin:IntsIn w A 64 c l):Calls Tryz.prog 177 #[.slice A 64 c] w (RBackPost w l):=by
 have h64:l.length = 64:=hin.1
 have hab:allB 67108864 l = l.all (inB 67108864):=by unfold allB;rw [h64];rfl
 have HIN:=Lib.hid (And.intro hin hab)
 clear h64 hab hin
 cases hr:l.all (inB 67108864) with
 | false=>
  have HR:=Lib.hid hr
  clear hr
  go_enter Tryz.func177,Tryz.ntmps177
  go_wp2_with fail
  refine (r7side _ 64 (by omega)).mono ?_
  rintro e w1 ⟨rfl,rfl⟩
  rw [show ((sideOf 64:Nat):Int) = 8 from rfl]
  go_wp2_with fail
  refine (rwithin _ A 64 c l 67108864 (by omega) (by omega) (by omega) HIN.out.1).mono ?_
  rintro e w1 ⟨rfl,rfl⟩
  rw [HR.out]
  go_wp2_with fail
  go_ret2
  exact ⟨Mod.refl _ _,.inl ⟨HIN.out.2.trans HR.out,rfl⟩⟩
 | true=>
  have hw:=all_within (by omega) hr
  have w1:Within 67108864 (turnL l):=turnL_within (by omega) hw
  have w2:Within 268435459 (rowsTo (unK 3) (turnL l) 8):=rowsTo_within (by omega) (by omega) w1 (fun x hx=>unK_within (by omega) 3 x hx) 8
  have w3:Within 268435459 (turnL (rowsTo (unK 3) (turnL l) 8)):=turnL_within (by omega) w2
  have big:∀ {M:Int} {x:List Int},M ≤ 1099511627776 → Within M x → Within 1099511627776 x:=fun hM h i=>by have:=h i;omega
  have HW:=Lib.hid (And.intro (big (by omega) w1) (big (by omega) w3))
  have HR:=Lib.hid hr
  have l2:(rowsTo (unK 3) (turnL l) 8).length = 64:=rowsTo_length _ _ (turnL_length l) (fun x hx=>unK_length 3 x hx) 8 (by omega)
  have l4:(rowsTo (unK 3) (turnL (rowsTo (unK 3) (turnL l) 8)) 8).length = 64:=rowsTo_length _ _ (turnL_length _) (fun x hx=>unK_length 3 x hx) 8 (by omega)
  have HL:=Lib.hid (And.intro l2 l4)
  clear hr hw w1 w2 w3 big l2 l4
  go_enter Tryz.func177,Tryz.ntmps177
  go_wp2_with fail
  refine (r7side _ 64 (by omega)).mono ?_
  rintro e w1 ⟨rfl,rfl⟩
  rw [show ((sideOf 64:Nat):Int) = 8 from rfl]
  go_wp2_with fail
  refine (rwithin _ A 64 c l 67108864 (by omega) (by omega) (by omega) HIN.out.1).mono ?_
  rintro e w1 ⟨rfl,rfl⟩
  rw [HR.out]
  go_wp2_with fail
  refine (rturned _ A c l HIN.out.1).mono ?_
  rintro e w1 ⟨A1,c1,rfl,hc1,hin1,hm1⟩
  rw [turnL_length] at hc1 hin1 ⊢
  have R1:=rrows _ A1 c1 _ hc1 hin1 HW.out.1
  have HM1:=Lib.hid hm1
  clear hm1 hin1 hc1
  go_wp2_with fail
  refine R1.mono ?_
  clear R1
  rintro e w2 ⟨A2,c2,rfl,hc2,hin2,hm2⟩
  rw [HL.out.1] at hc2 hin2 ⊢
  have R2:=rturned _ A2 c2 _ hin2
  have HM2:=Lib.hid (HM1.out.trans hm2)
  clear hm2 hin2 hc2
  go_wp2_with fail
  refine R2.mono ?_
  clear R2
  rintro e w3 ⟨A3,c3,rfl,hc3,hin3,hm3⟩
  rw [turnL_length] at hc3 hin3 ⊢
  have R3:=rrows _ A3 c3 _ hc3 hin3 HW.out.2
  have HM3:=Lib.hid (HM2.out.trans hm3)
  clear hm3 hin3 hc3
  go_wp2_with fail
  refine R3.mono ?_
  clear R3
  rintro e w4 ⟨A4,c4,rfl,hc4,hin4,hm4⟩
  rw [HL.out.2] at hc4 hin4 ⊢
  have HM4:=Lib.hid (And.intro (HM3.out.trans hm4) hin4)
  clear hm4 hin4 hc4
  go_wp2_with fail
  go_ret2
  exact ⟨HM4.out.1,.inr ⟨A4,c4,HIN.out.2.trans HR.out,rfl,HM4.out.2⟩⟩
theorem list8 {α:Type} {l:List α} (h:l.length = 8):∃ a b c d e f g i,l = [a,b,c,d,e,f,g,i]:=by
 match l,h with
 | [a,b,c,d,e,f,g,i],_=>exact ⟨a,b,c,d,e,f,g,i,rfl⟩
theorem back8_unK (l:List Int) (h:l.length = 8):back8 l = unK 3 l:=by
 obtain ⟨a,b,c,d,e,f,g,i,rfl⟩:=list8 h
 simp only [back8,upL,upK,upA,upB,unK,unTo,unA,List.range_succ,List.range_zero,List.flatMap_cons,List.flatMap_nil,List.nil_append,List.append_nil,List.cons_append,Nat.reducePow,Nat.reduceMul,Nat.reduceAdd,List.take_succ_cons,List.take_zero,List.set_cons_zero,List.set_cons_succ,List.getD_cons_zero,List.getD_cons_succ,Nat.mul_zero,Nat.add_zero,Nat.zero_add,Nat.mul_one]
 simp only [List.cons.injEq,and_true]
 refine ⟨?_,?_,?_,?_,?_,?_,?_,?_⟩ <;> omega
theorem ext64y {a b:List Int} (ha:a.length = 64) (hb:b.length = 64) (h:∀ y < 8,∀ x < 8,a.getD (y * 8 + x) 0 = b.getD (y * 8 + x) 0):a = b:=by
 apply List.ext_getElem (by omega)
 intro i h1 h2
 have:=h (i / 8) (by omega) (i % 8) (by omega)
 rw [show i / 8 * 8 + i % 8 = i by omega] at this
 rw [List.getD_eq_getElem?_getD,List.getD_eq_getElem?_getD,List.getElem?_eq_getElem h1,List.getElem?_eq_getElem h2] at this
 exact this
theorem rowsTo_getD (f:List Int → List Int) (l:List Int) (hl:l.length = 64) (hf:∀ x:List Int,x.length = 8 → (f x).length = 8) (k:Nat) (hk:k ≤ 8) (y x:Nat) (hy:y < k) (hx:x < 8):(rowsTo f l k).getD (y * 8 + x) 0 = (f ((l.drop (y * 8)).take 8)).getD x 0:=by
 induction k with
 | zero=>omega
 | succ k ih=>
  rw [rowsTo_succ,List.getD_eq_getElem?_getD]
  have h1:=rowsTo_length f l hl hf k (by omega)
  by_cases e:y = k
  ·subst e
   rw [List.getElem?_append_right (by omega),h1,show y * 8 + x - y * 8 = x by omega,← List.getD_eq_getElem?_getD]
  ·rw [List.getElem?_append_left (by omega),← List.getD_eq_getElem?_getD]
   exact ih (by omega) (by omega)
theorem turnL_getD (l:List Int) (y x:Nat) (hy:y < 8) (hx:x < 8):(turnL l).getD (y * 8 + x) 0 = l.getD (x * 8 + y) 0:=by
 have hi:y * 8 + x < 64:=by omega
 have e:(turnL l).getD (y * 8 + x) 0 = l.getD ((y * 8 + x) % 8 * 8 + (y * 8 + x) / 8) 0:=by simp [turnL,turnTo,List.getD_eq_getElem?_getD,hi]
 rw [e]
 congr 1
 omega
theorem row_of_turn (l:List Int) (x:Nat) (hx:x < 8):((turnL l).drop (x * 8)).take 8 = colOf x l:=by
 apply List.ext_getElem
 ·simp [turnL_length,colOf];omega
 ·intro i h1 h2
  have hi:i < 8:=by simp [colOf] at h2;exact h2
  have a:=getD_part (turnL l) (x * 8) 8 i hi
  rw [turnL_getD l x i hx hi] at a
  have b:=colOf_getD x l i hi
  rw [← a] at b
  rw [List.getD_eq_getElem?_getD,List.getD_eq_getElem?_getD,List.getElem?_eq_getElem h1,List.getElem?_eq_getElem h2] at b
  exact b.symm
theorem rback_eq (l:List Int) (hl:l.length = 64):rbackL l = backL l:=by
 have hu:∀ x:List Int,x.length = 8 → (unK 3 x).length = 8:=fun x hx=>unK_length 3 x hx
 have l1:(rowsTo (unK 3) (turnL l) 8).length = 64:=rowsTo_length _ _ (turnL_length l) hu 8 (by omega)
 have l2:(colsK l 8).length = 64:=by rw [colsK_length];exact hl
 have e1:turnL (rowsTo (unK 3) (turnL l) 8) = colsK l 8:=by
  apply ext64y (turnL_length _) l2
  intro y hy x hx
  rw [turnL_getD _ y x hy hx,rowsTo_getD _ _ (turnL_length l) hu 8 (by omega) x y hx hy,row_of_turn l x hx,colsK_getD l hl 8 y x (by omega) hx hy]
  rw [if_pos hx,back8_unK _ (colOf_length _ _)]
 unfold rbackL backL
 rw [e1]
 apply ext64y (rowsTo_length _ _ l2 hu 8 (by omega)) (rowsK_length _ l2 8 (by omega))
 intro y hy x hx
 rw [rowsTo_getD _ _ l2 hu 8 (by omega) y x hy hx,rowsK_getD _ l2 8 y x (by omega) hx hy,if_pos hy]
 rw [back8_unK _ (rowOf_length _ _ l2 hy)]
 rfl
theorem rowHigh_within {M:Int} {l:List Int} (h0:0 ≤ M) (h:Within M l) (m:Nat):Within (2 * M) (rowHigh l m):=by
 intro i
 by_cases hi:i < m
 ·have e:(rowHigh l m).getD i 0 = l.getD (2 * i) 0 - l.getD (2 * i + 1) 0:=by simp [rowHigh,List.getD_eq_getElem?_getD,hi]
  rw [e]
  have a:=h (2 * i)
  have b:=h (2 * i + 1)
  omega
 ·have e:(rowHigh l m).getD i 0 = 0:=by simp [rowHigh,List.getD_eq_getElem?_getD,hi]
  rw [e]
  omega
theorem rowK_within {M:Int} (h0:0 ≤ M) (j:Nat):∀ l,Within M l → Within (2 * M) (rowK j l):=by
 induction j with
 | zero=>intro l h i;have:=h i;simp only [rowK];omega
 | succ j ih=>
  intro l h
  exact within_snoc (by omega) (ih _ (rowLow_within h0 h _)) (fun x hx=>within_memR (rowHigh_within h0 h _) hx)
theorem fwd8_rowK (l:List Int) (h:l.length = 8):fwd8 l = rowK 3 l:=by
 obtain ⟨a,b,c,d,e,f,g,i,rfl⟩:=list8 h
 simp [fwd8,dnL,dnLo,dnHi,splice,lowAt,highAt,rowK,rowLow,rowHigh,List.range_succ]
def rfwdL (l:List Int):List Int:=turnL (rowsTo (rowK 3) (turnL (rowsTo (rowK 3) l 8)) 8)
theorem rfwd_eq (l:List Int) (hl:l.length = 64):rfwdL l = fwdL l:=by
 have hu:∀ x:List Int,x.length = 8 → (rowK 3 x).length = 8:=fun x hx=>rowK_length 3 x hx
 have l1:(rowsTo (rowK 3) l 8).length = 64:=rowsTo_length _ _ hl hu 8 (by omega)
 have e0:rowsTo (rowK 3) l 8 = frowsK l 8:=by
  apply ext64y l1 (frowsK_length _ hl 8 (by omega))
  intro y hy x hx
  rw [rowsTo_getD _ _ hl hu 8 (by omega) y x hy hx,frowsK_getD _ hl 8 y x (by omega) hx hy,if_pos hy]
  rw [fwd8_rowK _ (rowOf_length _ _ hl hy)]
  rfl
 unfold rfwdL fwdL
 rw [e0]
 have l2:=frowsK_length l hl 8 (by omega)
 generalize frowsK l 8 = L at *
 apply ext64y (turnL_length _) (by rw [fcolsK_length];exact l2)
 intro y hy x hx
 rw [turnL_getD _ y x hy hx,rowsTo_getD _ _ (turnL_length L) hu 8 (by omega) x y hx hy,row_of_turn L x hx,fcolsK_getD L l2 8 y x (by omega) hx hy]
 rw [if_pos hx,fwd8_rowK _ (colOf_length _ _)]
theorem rrowsF (w:World) (A:Option Addr) (c:Nat) (l:List Int) (hc:64 ≤ c) (hin:IntsIn w A 64 c l) (hw:Within 1099511627776 l):Calls Tryz.prog 170 #[.slice A 64 c,.int .i64 8,.bool false] w (IntsRet w (rowsTo (rowK 3) l 8)):=by
 obtain ⟨b,off,hA,hb,hcell⟩:=hin.place (by omega)
 subst hA
 have HC:=Lib.hid (And.intro hin hw)
 clear hcell hin hw
 go_enter Tryz.func170,Tryz.ntmps170
 go_wp2_with fail
 go_loopw [7,8] (RowsRel w (rowK 3) l) (fun _ i _=>8 - (intOf i).toNat)
 case atStart=>exact ⟨0,by omega,rfl,IntsOwn.nil _ _,Mod.refl _ _⟩
 case round=>
  obtain ⟨k,hk,rfl,hown,hM⟩:=hrel
  by_cases hlt:k < 8
  ·have hlen:=rowsTo_length (rowK 3) l HC.out.1.1 (fun x hx=>rowK_length 3 x hx) k hk
   obtain ⟨A3,c3,hv3⟩:=own_shape hown
   subst hv3
   rw [hlen] at hown ⊢
   have HB:=Lib.hid (And.intro hown (And.intro hM hlen))
   have hpart:=(HC.out.1.quiet hM).part (k * 8) 8 (c - k * 8) (by omega)
   have hwp:=within_part (by omega) HC.out.2 (k * 8) 8
   have R5:=rrow 3 (by omega) wr _ 8 (c - k * 8) _ rfl (by omega) hpart hwp
   have HP:=Lib.hid (And.intro hpart hwp)
   clear hown hM hpart hwp hlen
   go_wp2_with fail
   refine R5.mono ?_
   clear R5
   rintro e w5 ⟨A5,c5,rfl,hc5,hin5,hm5⟩
   have hl5:(rowK 3 ((l.drop (k * 8)).take 8)).length = 8:=rowK_length 3 _ (by have:=HC.out.1.1;simp;omega)
   rw [hl5] at hin5 ⊢
   have HZ:=Lib.hid (And.intro hin5 (And.intro (HB.out.1.quiet hm5) (And.intro (HB.out.2.1.trans hm5) hl5)))
   clear hin5 hm5 hl5
   go_wp2_with (at_builtin;have _t:=HZ;refine wpList_app_ints _ rfl (.tmp 38) (.tmp 39) rfl w.heap.size _ _ _ 8 _ _ rfl rfl HZ.out.2.1 HZ.out.1 HZ.out.2.2.1.size (by rw [HB.out.2.2];omega) ?_;intro v8 w8 hown8 hMa hMb hF;have HO:=Lib.hid (And.intro hown8 (hMb w (fun _=>False) (Nat.le_refl _) HZ.out.2.2.1));clear hown8 hMa hMb hF)
   go_roundw
   case rel=>
    refine ⟨k + 1,by omega,by go_num,?_,HO.out.2⟩
    rw [rowsTo_succ]
    exact HO.out.1
   case measure=>simp [intOf];omega
  ·obtain rfl:k = 8:=by omega
   have HB:=Lib.hid (And.intro hown hM)
   clear hown hM
   go_wp2_with fail
   go_ret
   obtain ⟨h9,hM9⟩:=HB.out
   obtain ⟨A9,c9,hv9⟩:=own_shape h9
   subst hv9
   exact ⟨A9,c9,rfl,h9.cap,h9.in_,hM9⟩
theorem rfwd (w:World) (A:Option Addr) (c:Nat) (l:List Int) (hcap:64 ≤ c) (hin:IntsIn w A 64 c l) (hr:l.all (inB 1048576) = true):Calls Tryz.prog 109 #[.slice A 64 c] w fun e w'=>∃ A' c',e = .returned (.tuple #[.slice A' 64 c',.int .i64 0]) ∧ IntsIn w' A' 64 c' (fwdL l) ∧ Mod (fun _=>False) w w':=by
 have h64:l.length = 64:=hin.1
 have HE:=Lib.hid (rfwd_eq l h64)
 have HIN:=Lib.hid hin
 have hw:=all_within (by omega) hr
 have w2:Within 2097152 (rowsTo (rowK 3) l 8):=rowsTo_within (by omega) (by omega) hw (fun x hx=>rowK_within (by omega) 3 x hx) 8
 have w3:Within 2097152 (turnL (rowsTo (rowK 3) l 8)):=turnL_within (by omega) w2
 have big:∀ {M:Int} {x:List Int},M ≤ 1099511627776 → Within M x → Within 1099511627776 x:=fun hM h i=>by have:=h i;omega
 have HW:=Lib.hid (And.intro (big (by omega) hw) (big (by omega) w3))
 have HR:=Lib.hid hr
 have l2:(rowsTo (rowK 3) l 8).length = 64:=rowsTo_length _ _ h64 (fun x hx=>rowK_length 3 x hx) 8 (by omega)
 have l4:(rowsTo (rowK 3) (turnL (rowsTo (rowK 3) l 8)) 8).length = 64:=rowsTo_length _ _ (turnL_length _) (fun x hx=>rowK_length 3 x hx) 8 (by omega)
 have HL:=Lib.hid (And.intro l2 l4)
 clear hr hw w2 w3 big l2 l4 hin h64
 go_enter Tryz.func109,Tryz.ntmps109
 go_wp2_with fail
 refine (r7side _ 64 (by omega)).mono ?_
 rintro e w1 ⟨rfl,rfl⟩
 rw [show ((sideOf 64:Nat):Int) = 8 from rfl]
 go_wp2_with fail
 refine (rwithin _ A 64 c l 1048576 (by omega) (by omega) (by omega) HIN.out).mono ?_
 rintro e w1 ⟨rfl,rfl⟩
 rw [HR.out]
 have R1:=rrowsF w A c _ hcap HIN.out HW.out.1
 go_wp2_with fail
 refine R1.mono ?_
 clear R1
 rintro e w2 ⟨A2,c2,rfl,hc2,hin2,hm2⟩
 rw [HL.out.1] at hc2 hin2 ⊢
 have R2:=rturned _ A2 c2 _ hin2
 have HM2:=Lib.hid hm2
 clear hm2 hin2 hc2
 go_wp2_with fail
 refine R2.mono ?_
 clear R2
 rintro e w3 ⟨A3,c3,rfl,hc3,hin3,hm3⟩
 rw [turnL_length] at hc3 hin3 ⊢
 have R3:=rrowsF _ A3 c3 _ hc3 hin3 HW.out.2
 have HM3:=Lib.hid (HM2.out.trans hm3)
 clear hm3 hin3 hc3
 go_wp2_with fail
 refine R3.mono ?_
 clear R3
 rintro e w4 ⟨A4,c4,rfl,hc4,hin4,hm4⟩
 rw [HL.out.2] at hc4 hin4 ⊢
 have R4:=rturned _ A4 c4 _ hin4
 have HM4:=Lib.hid (HM3.out.trans hm4)
 clear hm4 hin4 hc4
 go_wp2_with fail
 refine R4.mono ?_
 clear R4
 rintro e w5 ⟨A5,c5,rfl,hc5,hin5,hm5⟩
 rw [turnL_length] at hin5 ⊢
 have HM5:=Lib.hid (And.intro (HM4.out.trans hm5) hin5)
 clear hm5 hin5 hc5
 go_wp2_with fail
 go_ret2
 exact ⟨A5,c5,rfl,by rw [← HE.out];exact HM5.out.2,HM5.out.1⟩
theorem refBuild (w:World) (A:Option Addr) (n c:Nat) (g:List UInt8) (A2:Option Addr) (n2 c2:Nat) (l:List Int) (q:Int) (hg:BytesIn w A n c g) (hl:IntsIn w A2 n2 c2 l) (hn:n ≤ 1048576) (hn2:n2 ≤ 1048576) :
  Calls Tryz.prog 114 #[.slice A n c,.slice A2 n2 c2,.int .i64 q] w (BuildPost w g l q):=by
 obtain rfl:g.length = n:=hg.1
 obtain rfl:l.length = n2:=hl.1
 by_cases h1:g.length = 64
 ·by_cases h2:l.length = 64
  ·have HG:=Lib.hid hg
   have HL:=Lib.hid hl
   have HBD:Hid (buildL g l q = (qFine l q).map (fun v=>clipL g (backL v))):=if_pos ⟨h1,h2⟩
   rw [h1] at HG ⊢
   rw [h2] at HL ⊢
   clear hg hl
   have HH:=Lib.hid (And.intro h1 h2)
   clear h1 h2
   go_enter Tryz.func114,Tryz.ntmps114
   go_wp2_with fail
   refine (rfine _ A2 64 c2 l q HL.out (by omega)).mono ?_
   rintro e w1 ⟨hm1,⟨hq,rfl⟩ | ⟨v,hq,rfl,hv⟩⟩
   ·have HQ:=Lib.hid (And.intro hq hm1)
    clear hq hm1
    go_wp2_with fail
    go_ret2
    exact ⟨HQ.out.2,.inl ⟨by rw [HBD.out,HQ.out.1];rfl,rfl⟩⟩
   ·obtain ⟨hfl,hfa⟩:=qFine_all hq HH.out.2
    obtain ⟨A3,c3,hv3⟩:=own_shape hv
    subst hv3
    rw [hfl]
    have hin3:=hv.in_
    rw [hfl] at hin3
    have HV:=Lib.hid (And.intro hq (And.intro hm1 (And.intro hin3 hfa)))
    clear hq hm1 hv hin3 hfa
    go_wp2_with fail
    refine (rback _ A3 c3 _ HV.out.2.2.1).mono ?_
    rintro e w2 ⟨hm2,⟨h1,rfl⟩ | ⟨A4,c4,h1,rfl,h2⟩⟩
    ·exact absurd h1 (by rw [HV.out.2.2.2];decide)
    ·have hin4:=h2
     rw [rback_eq _ hfl] at hin4
     have HV2:=Lib.hid (And.intro hin4 (HV.out.2.1.trans hm2))
     clear h1 h2 hin4 hm2
     go_wp2_with fail
     refine (rclipAll _ A 64 c g A4 c4 _ (HG.out.quiet HV2.out.2) HV2.out.1 (by omega) (by omega)).mono ?_
     rintro e w3 ⟨v3,rfl,hb3,hm3⟩
     obtain ⟨A5,c5,hv5⟩:=own_shape hb3
     subst hv5
     have HV3:=Lib.hid (And.intro hb3 (HV2.out.2.trans hm3))
     have hsz:=HV2.out.2.size
     clear hb3 hm3
     go_wp2_with fail
     go_ret2
     exact ⟨HV3.out.2,.inr ⟨_,_,by rw [HBD.out,HV.out.1];rfl,rfl,own_base HV3.out.1 hsz⟩⟩
  ·have hz:((l.length:Int) != 64) = true:=by simp;omega
   have HBD:Hid (buildL g l q = none):=if_neg (fun h=>h2 h.2)
   rw [h1]
   clear hg hl h1
   go_enter Tryz.func114,Tryz.ntmps114
   go_wp2_with fail
   go_ret2
   exact ⟨Mod.refl _ _,.inl ⟨HBD.out,rfl⟩⟩
 ·have hz:((g.length:Int) != 64) = true:=by simp;omega
  have HBD:Hid (buildL g l q = none):=if_neg (fun h=>h1 h.1)
  clear hg hl
  go_enter Tryz.func114,Tryz.ntmps114
  go_wp2_with fail
  go_ret2
  exact ⟨Mod.refl _ _,.inl ⟨HBD.out,rfl⟩⟩
end Go.Proofs.YtmkopcojnibhlaaGreatDoor

