/-
  The reference's bits: Digits, Code.
-/
import Derived.Test.YtmkopcojnibhlaaGreatDoorP9
import Derived.Test.YtmkopcojnibhlaaGreatDoorP10
import Derived.Test.YtmkopcojnibhlaaGreatDoorP11
import Derived.Test.YtmkopcojnibhlaaGreatDoorP6
import Derived.Test.YtmkopcojnibhlaaGreatDoorP0
import Derived.Test.YtmkopcojnibhlaaGreatDoorP5
import Derived.Test.YtmkopcojnibhlaaGreatDoorP3
namespace Go.Proofs.YtmkopcojnibhlaaGreatDoor
open Go.RowKit
set_option maxRecDepth 100000
set_option maxHeartbeats 8000000
def digitsL (v:Nat):Nat → List UInt8
 | 0=>[]
 | n + 1=>UInt8.ofNat (v / 2 ^ n % 2) :: digitsL v n
theorem digitsL_length (v n:Nat):(digitsL v n).length = n:=by
 induction n with
 | zero=>rfl
 | succ n ih=>simp [digitsL,ih]
def digK (v n k:Nat):List UInt8:=List.replicate (n - k) 0 ++ digitsL v k
theorem digK_length (v n k:Nat) (h:k ≤ n):(digK v n k).length = n:=by simp [digK,digitsL_length];omega
theorem digK_set (v n k:Nat) (h:k < n):(digK v n k).set (n - k - 1) (UInt8.ofNat (v / 2 ^ k % 2)) = digK v n (k + 1):=by
 unfold digK
 rw [List.set_append_left _ _ (by simp;omega),digitsL]
 have e:n - k = (n - (k + 1)) + 1:=by omega
 rw [e,List.replicate_succ',show n - (k + 1) + 1 - 1 = n - (k + 1) by omega,List.set_append_right _ _ (by simp)]
 simp
theorem bit_nat (x:Nat):(UInt8.ofNat (x % 2)).toNat = x % 2:=by
 have:x % 2 < 2:=Nat.mod_lt _ (by omega)
 simp
 omega
def digRel (w:World) (ob v n:Nat) (vv iv:Value) (wr:World):Prop:=
 ∃ k:Nat,k ≤ n ∧ vv = .int .u64 ((v / 2 ^ k:Nat):Int) ∧ iv = .int .i64 ((n:Int) - (k:Int) - 1) ∧ Blk wr ob 5 (u8s (digK v n k)).toArray ∧ Mod (· = ob) w wr
theorem refDigits (w:World) (v n:Nat) (hv:v < 18446744073709551616) (hn:n ≤ 4096):Calls Tryz.prog 97 #[.int .u64 (v:Int),.int .i64 (n:Int)] w fun e w'=>∃ s,e = .returned s ∧ Bytes w' w.heap.size s (digitsL v n) ∧ Mod (fun _=>False) w w':=by
 obtain ⟨i0,hi0,hz0,hz1,hz2⟩:=info_parts u8_info
 have x1:i0.bytes * n ≤ 281474976710656:=by rw [hz2];omega
 have x2:n ≤ maxLen:=by unfold maxLen;omega
 have HX:=Lib.hid (And.intro x1 x2)
 clear x1 x2
 go_enter Tryz.func97,Tryz.ntmps97
 go_upto_region 2 with (with_reducible refine wpList_make_full _ rfl (.tmp 7) (.tmp 7) _ rfl w.heap.size 5 i0 (.int .u8 0) 1 Tryz.underlying36 hi0 hz0 hz1 _ _ _ _ n rfl rfl rfl rfl HX.out.1 HX.out.2 (Nat.le_refl _) ?_;intro w1 hown1 hg1;have HO:=Lib.hid (And.intro hown1 hg1);clear hown1 hg1)
 have hob:=(own_whole HO.out.1).1
 have m1:Mod (fun _=>False) w w1:=(Mod.refl _ _).grown HO.out.2 (fun k hk=>by cases hk)
 have hob':Blk w1 w.heap.size 5 (u8s (digK v n 0)).toArray:=by
  rw [Nat.mul_one,made_u8] at hob
  simpa [digK,digitsL] using hob
 have HI:=Lib.hid (And.intro hob' m1)
 clear hob hob' m1 HO
 go_wp2_with fail
 go_loopw [0,6] (digRel w1 w.heap.size v n) (fun _ i _=>(intOf i + 1).toNat)
 case atStart=>exact ⟨0,by omega,by simp,by simp,HI.out.1,Mod.refl _ _⟩
 case round=>
  obtain ⟨k,hk,rfl,rfl,hb,hm⟩:=hrel
  by_cases hlt:k < n
  ·obtain ⟨j,hj,hj2⟩:∃ j:Nat,(n:Int) - (k:Int) - 1 = (j:Int) ∧ n - k - 1 = j:=⟨n - k - 1,by omega,rfl⟩
   rw [hj]
   have hx:v / 2 ^ k < 18446744073709551616:=Nat.lt_of_le_of_lt (Nat.div_le_self _ _) hv
   have hset:=digK_set v n k hlt
   rw [hj2] at hset
   have hdiv:v / 2 ^ (k + 1) = v / 2 ^ k / 2:=by rw [Nat.pow_succ,Nat.div_div_eq_div_mul]
   have hbit:=bit_nat (v / 2 ^ k)
   have hjn:j < n:=by omega
   have c1:wr.cell? ⟨w.heap.size,j,none⟩ = some (.int .u8 (((digK v n k).getD j 0).toNat:Int)):=by
    rw [hb.cell j];simp [u8s,List.getD_eq_getElem?_getD,digK_length v n k hk,hjn]
   have c2:=hb.frozen
   generalize hxx:v / 2 ^ k = x at *
   have HH:=Lib.hid (And.intro hset (And.intro hdiv (And.intro hbit (And.intro hb (And.intro hm hj)))))
   clear hset hdiv hbit hb hm hj hxx hj2
   have i1:(0:Int) ≤ (j:Int):=by omega
   have i2:(j:Int) < (n:Int):=by omega
   go_wp2_with fail
   obtain ⟨hset,hdiv,hbit,hb,hm,hj⟩:=HH.out
   refine ⟨⟨k + 1,by omega,by rw [hdiv];simp,by congr 1;omega,?_,hm.setCell (.inl rfl) _⟩,by simp [intOf]⟩
   refine hb.put ?_
   rw [← hset]
   have e:(x:Int) % 2 = (((UInt8.ofNat (x % 2)).toNat:Nat):Int):=by rw [hbit];omega
   rw [e]
   simp [u8s,List.map_set]
  ·obtain rfl:k = n:=by omega
   have HF:=Lib.hid (And.intro hb hm)
   clear hb hm
   have hneg:(k:Int) - (k:Int) - 1 = -1:=by omega
   rw [hneg]
   go_wp2_with fail
   go_ret
   have hb:=HF.out.1
   have e:digK v k k = digitsL v k:=by simp [digK]
   rw [e] at hb
   have:=Bytes.of_blk (B:=w.heap.size) (Nat.le_refl _) hb (by rw [digitsL_length];exact HX.out.2)
   rw [digitsL_length] at this
   exact ⟨_,rfl,this,HI.out.2.into HF.out.2 (fun i e=>.inr (by omega))⟩
def blen (m:Nat):Nat:=if m = 0 then 0 else Nat.log2 m + 1
theorem blen_half (m:Nat) (h:0 < m):blen m = blen (m / 2) + 1:=by
 unfold blen
 rw [if_neg (by omega),Nat.log2_def]
 by_cases h2:2 ≤ m
 ·rw [if_pos h2,if_neg (by omega)]
 ·rw [if_neg h2,if_pos (by omega)]
theorem blen_le (m:Nat) (h:m < 18446744073709551616):blen m ≤ 64:=by
 unfold blen
 split
 ·omega
 ·rename_i h0
  have:=(Nat.log2_lt h0 (k:=64)).2 (by omega)
  omega
def codeL (v:Nat):List UInt8:=digitsL (v + 1) (2 * blen (v + 1) - 1)
def codeRel (v:Nat) (nv kv:Value):Prop:=∃ t k:Nat,k ≤ v + 1 ∧ t + blen k = blen (v + 1) ∧ nv = .int .i64 (t:Int) ∧ kv = .int .u64 (k:Int)
theorem refCode (w:World) (v:Nat) (hv:v < 9223372036854775808):Calls Tryz.prog 96 #[.int .u64 (v:Int)] w fun e w'=>∃ s,e = .returned s ∧ Bytes w' w.heap.size s (codeL v) ∧ Mod (fun _=>False) w w':=by
 have hbl:=blen_le (v + 1) (by omega)
 have hbp:0 < blen (v + 1):=by rw [blen_half _ (by omega)];omega
 go_enter Tryz.func96,Tryz.ntmps96
 go_wp2_with fail
 go_loop [3,4] (codeRel v) (fun _ k=>(intOf k).toNat)
 case atStart=>exact ⟨0,v + 1,by omega,by omega,rfl,by simp⟩
 case round=>
  obtain ⟨t,k,hk,ht,rfl,rfl⟩:=hrel
  by_cases hp:0 < k
  ·have hh:=blen_half k hp
   have HT:Hid (t + 1 + blen (k / 2) = blen (v + 1)):=by show _ = _;omega
   have htl:t ≤ 64:=by omega
   clear ht hh
   clear hbl hbp
   go_wp2_with fail
   refine ⟨⟨t + 1,k / 2,by omega,HT.out,by go_num,by simp⟩,?_⟩
   simp [intOf]
   omega
  ·obtain rfl:k = 0:=by omega
   have ht':t = blen (v + 1):=by simpa [blen] using ht
   have HC:Hid (codeL v = digitsL (v + 1) (2 * t - 1)):=by show _ = _;rw [ht'];rfl
   have htl:t ≤ 64:=by omega
   have htp:0 < t:=by omega
   clear ht ht' hbl hbp
   obtain ⟨n2,e1,e2⟩:∃ n2:Nat,(2:Int) * (t:Int) - 1 = (n2:Int) ∧ 2 * t - 1 = n2:=⟨2 * t - 1,by omega,rfl⟩
   rw [e2] at HC
   have HE:=Lib.hid e2
   clear e2
   go_wp2_with fail
   have hcall:=refDigits w (v + 1) n2 (by omega) (by omega)
   rw [show ((v + 1:Nat):Int) = (v:Int) + 1 by omega] at hcall
   refine hcall.mono ?_
   rintro e w1 ⟨s,rfl,hs,hm⟩
   obtain ⟨A1,c1,hv1⟩:=own_shape hs
   subst hv1
   have HF:=Lib.hid (And.intro hs hm)
   clear hs hm hcall
   go_wp2_with fail
   go_ret
   exact ⟨_,rfl,by rw [HC.out];exact HF.out.1,HF.out.2⟩
theorem blen_pw {x k:Nat} (h:x < 2 ^ k):blen x ≤ k:=by
 unfold blen
 split
 ·omega
 ·rename_i h0
  have:=(Nat.log2_lt h0).2 h
  omega
theorem blen_div {x k:Nat} (h:2 ^ k ≤ x):blen x = blen (x / 2 ^ k) + k:=by
 have hk:0 < 2 ^ k:=Nat.two_pow_pos k
 have hx:x ≠ 0:=by omega
 have hy:x / 2 ^ k ≠ 0:=by
  have:=Nat.div_pos h hk
  omega
 have hm:=(Nat.log2_eq_iff hy (k:=Nat.log2 (x / 2 ^ k))).1 rfl
 have hl:Nat.log2 x = Nat.log2 (x / 2 ^ k) + k:=by
  rw [Nat.log2_eq_iff hx]
  constructor
  ·rw [Nat.pow_add]
   exact (Nat.le_div_iff_mul_le hk).1 hm.1
  ·rw [show Nat.log2 (x / 2 ^ k) + k + 1 = (Nat.log2 (x / 2 ^ k) + 1) + k by omega,Nat.pow_add]
   exact (Nat.div_lt_iff_lt_mul hk).1 hm.2
 unfold blen
 rw [if_neg hx,if_neg hy,hl]
 omega
def tabB (s:ByteArray):Bool:=(List.range 256).all fun i=>decide (s.data[i]? = some (UInt8.ofNat (blen i)))
theorem tab_run {s:ByteArray} (hs:tabB s = true) (y:Nat) (hy:y < 256) (w:World):(Instr.index 9 (.string s) (.int .u8 (y:Int))).run Tryz.prog w = .ok (.int .u8 ((blen y:Nat):Int)) w:=by
 rw [run_index_string w _ _ _ _ Tryz.underlying9]
 unfold tabB at hs
 rw [List.all_eq_true] at hs
 have h:=of_decide_eq_true (hs y (List.mem_range.2 hy))
 obtain ⟨h1,h2⟩:=Array.getElem?_eq_some_iff.1 h
 have hsz:y < s.size:=h1
 rw [dif_pos ⟨by omega,by omega⟩]
 congr 3
 simp only [Int.toNat_natCast]
 have h3:(UInt8.ofNat (blen y)).toNat = blen y:=by
  have:=blen_pw (x:=y) (k:=8) hy
  rw [UInt8.toNat_ofNat',Nat.mod_eq_of_lt (by omega)]
 exact (congrArg UInt8.toNat h2).trans h3
theorem wpList_tab {ops:Array Oper} {rest:List Oper} {op:Oper} {a:Act} {w:World} {Q:Exit → Act → World → Prop} (hgd:op.guard = none) (x ix:Operand) (ho:op.op = .index 9 x ix) (s:ByteArray) (y:Nat) (hx:a.eval x = .string s) (hi:a.eval ix = .int .u8 (y:Int)) (hy:y < 256) (hs:tabB s = true)
  (h:wpList Tryz.prog ops Q rest (a.put op.dst (.int .u8 ((blen y:Nat):Int))) w):wpList Tryz.prog ops Q (op :: rest) a w:=
 wpList_plain hgd fun _ hK=>by
  unfold Oper.wp execOp
  simp only [ho,hx,hi,Sem.run_bind,Sem.run_pure,Result.andThen_ok,tab_run hs y hy w]
  exact hK _ _ h
theorem bitsLen64 (w:World) (x:Nat) (hx:x < 4194304):Calls Tryz.prog 195 #[.int .u64 (x:Int)] w fun e w'=>e = .returned (.int .i64 ((blen x:Nat):Int)) ∧ w = w':=by
 have d1:decide (4294967296 ≤ (x:Int)) = false:=decide_eq_false (by omega)
 have d1':decide (4294967296 ≤ x) = false:=decide_eq_false (by omega)
 by_cases h16:65536 ≤ x
 ·have d2:decide (65536 ≤ (x:Int)) = true:=decide_eq_true (by omega)
  have d2':decide (65536 ≤ x) = true:=decide_eq_true h16
  obtain ⟨y,hy⟩:∃ y,y = x / 65536:=⟨_,rfl⟩
  have ey:(x:Int) / 65536 = (y:Int):=by omega
  have hy8:y < 256:=by omega
  have hb:=blen_div (x:=x) (k:=16) h16
  rw [show (2:Nat) ^ 16 = 65536 by decide,← hy] at hb
  have hbl:=blen_pw (x:=y) (k:=8) hy8
  have d3:decide (256 ≤ (y:Int)) = false:=decide_eq_false (by omega)
  have d3':decide (256 ≤ y) = false:=decide_eq_false (by omega)
  have hx8:IntKind.u8.wrap (y:Int) = (y:Int):=IntWalk.u8_in _ ⟨by omega,by omega⟩
  have HB:=Lib.hid (And.intro hb hy)
  clear hb hy
  go_enter Tryz.func195,Tryz.ntmps195
  go_wp2_with (refine wpList_tab rfl _ _ rfl _ y rfl rfl (by omega) (by decide +kernel) ?_)
  go_ret
  refine ⟨?_,rfl⟩
  rw [HB.out.1,show (((blen y + 16:Nat)):Int) = 16 + (blen y:Int) by omega]
  rfl
 ·have d2:decide (65536 ≤ (x:Int)) = false:=decide_eq_false (by omega)
  have d2':decide (65536 ≤ x) = false:=decide_eq_false (by omega)
  by_cases h8:256 ≤ x
  ·have d4:decide (256 ≤ (x:Int)) = true:=decide_eq_true (by omega)
   have d4':decide (256 ≤ x) = true:=decide_eq_true h8
   obtain ⟨y,hy⟩:∃ y,y = x / 256:=⟨_,rfl⟩
   have ey:(x:Int) / 256 = (y:Int):=by omega
   have hy8:y < 256:=by omega
   have hb:=blen_div (x:=x) (k:=8) h8
   rw [show (2:Nat) ^ 8 = 256 by decide,← hy] at hb
   have hbl:=blen_pw (x:=y) (k:=8) hy8
   have hx8:IntKind.u8.wrap (y:Int) = (y:Int):=IntWalk.u8_in _ ⟨by omega,by omega⟩
   have HB:=Lib.hid (And.intro hb hy)
   clear hb hy
   go_enter Tryz.func195,Tryz.ntmps195
   go_wp2_with (refine wpList_tab rfl _ _ rfl _ y rfl rfl (by omega) (by decide +kernel) ?_)
   go_ret
   refine ⟨?_,rfl⟩
   rw [HB.out.1,show (((blen y + 8:Nat)):Int) = 8 + (blen y:Int) by omega]
   rfl
  ·have d3:decide (256 ≤ (x:Int)) = false:=decide_eq_false (by omega)
   have d3':decide (256 ≤ x) = false:=decide_eq_false (by omega)
   have hx8:IntKind.u8.wrap (x:Int) = (x:Int):=IntWalk.u8_in _ ⟨by omega,by omega⟩
   have hbl:=blen_pw (x:=x) (k:=8) (by omega)
   go_enter Tryz.func195,Tryz.ntmps195
   go_wp2_with (refine wpList_tab rfl _ _ rfl _ x rfl rfl (by omega) (by decide +kernel) ?_)
   go_ret
   exact ⟨rfl,rfl⟩
theorem bitsLen (w:World) (x:Nat) (hx:x < 4194304):Calls Tryz.prog 138 #[.int .u64 (x:Int)] w fun e w'=>e = .returned (.int .i64 ((blen x:Nat):Int)) ∧ w = w':=by
 go_enter Tryz.func138,Tryz.ntmps138
 go_wp2_with fail
 refine (bitsLen64 w x hx).mono ?_
 rintro e w1 ⟨rfl,rfl⟩
 go_wp2_with fail
 go_ret
 exact ⟨rfl,rfl⟩
def elens (t:Nat):Nat → Nat → Es → Es
 | 0,_,s=>s
 | m + 1,i,s=>elens t m (i + 1) (eputAt s (t * 37 + i) 1)
def estop (t n:Nat) (s:Es):Es:=if n < 21 then eputAt s (t * 37 + (n - 1)) 0 else s
def enum (t v:Nat) (s:Es):Es:=elow t (v + 1) (blen (v + 1) - 1) 0 0 (estop t (blen (v + 1)) (elens t (blen (v + 1) - 1) 0 s))
theorem elens_len (t m:Nat):∀ (i:Nat) (s:Es),s.code.length ≤ (elens t m i s).code.length ∧ (elens t m i s).code.length ≤ s.code.length + m:=by
 induction m with
 | zero=>intro i s;exact ⟨Nat.le_refl _,Nat.le_refl _⟩
 | succ m ih=>
  intro i s
  have h1:=eputAt_len s (t * 37 + i) 1
  have h2:=ih (i + 1) (eputAt s (t * 37 + i) 1)
  unfold elens
  omega
theorem estop_len (t n:Nat) (s:Es):s.code.length ≤ (estop t n s).code.length ∧ (estop t n s).code.length ≤ s.code.length + 1:=by
 unfold estop
 split
 ·exact eputAt_len _ _ _
 ·omega
theorem blen_pos {x:Nat} (h:0 < x):1 ≤ blen x:=by
 unfold blen
 rw [if_neg (by omega)]
 omega
theorem EbPost.next {w w1 w':World} {bk g:Nat} {v v1:Value} {s':Es} {e:Ending} (hf:∀ j,v1.ownBlock = some j → v.ownBlock = some j ∨ w.heap.size ≤ j) (hm:Mod (fun j=>j = g ∨ j = bk ∨ v.ownBlock = some j) w w1) (h:EbPost w1 bk g v1 s' e w'):EbPost w bk g v s' e w':=by
 obtain ⟨v2,rfl,hE,hF,hM⟩:=h
 refine ⟨v2,rfl,hE,fun j e=>?_,hm.into hM (fun j e=>?_)⟩
 ·rcases hF j e with h1 | h1
  ·exact hf j h1
  ·exact .inr (Nat.le_trans hm.size h1)
 ·rcases e with e | e | e
  ·exact .inl (.inl e)
  ·exact .inl (.inr (.inl e))
  ·rcases hf j e with h1 | h1
   ·exact .inl (.inr (.inr h1))
   ·exact .inr h1
def ELenRel (w:World) (bk g:Nat) (v:Value) (t n:Nat) (tg:Es) (v17:Value) (wr:World):Prop:=
 ∃ (i:Nat) (s:Es) (v1:Value),i ≤ n ∧ v17 = .int .i64 (i:Int) ∧ EbAt wr bk g v1 s ∧ elens t (n - i) i s = tg ∧ s.code.length + (n - i) + 22 ≤ 1048575 + 1 ∧
  (∀ j,v1.ownBlock = some j → v.ownBlock = some j ∨ w.heap.size ≤ j) ∧ Mod (fun j=>j = g ∨ j = bk ∨ v.ownBlock = some j) w wr
theorem ebPutNum (w:World) (bk g:Nat) (v:Value) (s:Es) (t x:Nat) (ht:t < 16) (hx:x ≤ 1048576) (h:EbAt w bk g v s) (hl:s.code.length + 43 ≤ 1048575 + 1) :
  Calls Tryz.prog 139 #[.pointer (some ⟨bk,t * 37,none⟩),.pointer (some ⟨g,0,none⟩),.int .i64 (x:Int)] w (EbPost w bk g v (enum t x s)):=by
 obtain ⟨n,hn⟩:∃ n,n = blen (x + 1):=⟨_,rfl⟩
 have hn1:1 ≤ n:=by rw [hn];exact blen_pos (by omega)
 have hn2:n ≤ 21:=by rw [hn];exact blen_pw (by omega)
 obtain ⟨m,rfl⟩:∃ m,n = m + 1:=⟨n - 1,by omega⟩
 have hBL:∀ w,Calls Tryz.prog 138 #[.int .u64 ((x:Int) + 1)] w fun e w'=>e = .returned (.int .i64 ((m + 1:Nat):Int)) ∧ w = w':=fun w=>by
  have:=bitsLen w (x + 1) (by omega)
  rw [← hn] at this
  exact this
 obtain ⟨s1,hs1⟩:∃ s1,s1 = elens t m 0 s:=⟨_,rfl⟩
 have hnum:enum t x s = elow t (x + 1) m 0 0 (estop t (m + 1) s1):=by
  unfold enum
  rw [← hn,hs1]
  rfl
 have hw1:IntKind.u64.wrap ((x:Int) + 1) = (x:Int) + 1:=IntWalk.u64_in _ ⟨by omega,by omega⟩
 have e1:(((m + 1:Nat):Int) - 1) = (m:Int):=by omega
 have hlen:=elens_len t m 0 s
 rw [← hs1] at hlen
 have H:=Lib.hid (And.intro h (And.intro hl (And.intro hnum (And.intro hBL (And.intro hs1 (And.intro hn hlen))))))
 clear h hl hnum hBL hs1 hn hlen
 go_enter Tryz.func139,Tryz.ntmps139
 go_wp2_with fail
 refine (H.out.2.2.2.1 _).mono ?_
 rintro e w1 ⟨rfl,rfl⟩
 go_wp2_with fail
 go_loopw [17] (ELenRel w bk g v t m s1) (fun i _=>m - (intOf i).toNat)
 case atStart=>exact ⟨0,s,v,by omega,rfl,H.out.1,H.out.2.2.2.2.1.symm,by have:=H.out.2.1;omega,fun j e=>.inl e,Mod.refl _ _⟩
 case round=>
  obtain ⟨i,sa,va,hi,rfl,hs,hg,hl1,hf1,hM⟩:=hrel
  rename World=>wr
  by_cases hlt:i < m
  ·have hge:elens t (m - i) i sa = elens t (m - (i + 1)) (i + 1) (eputAt sa (t * 37 + i) 1):=by
    rw [show m - i = (m - (i + 1)) + 1 by omega]
    rfl
   rw [hg] at hge
   have hcl:=eputAt_len sa (t * 37 + i) 1
   have PT:=ebPut_at wr bk g va sa (t * 37 + i) 1 (by omega) (by omega) hs (by omega)
   have d1:decide ((i:Int) < (m:Int)) = true:=decide_eq_true (by omega)
   have i20:i < 20:=by omega
   have HB:=Lib.hid (And.intro hge (And.intro hl1 (And.intro hf1 (And.intro hM (And.intro PT hcl)))))
   clear hs hg hge hl1 hf1 hM PT hcl
   go_wp2_with fail
   refine HB.out.2.2.2.2.1.mono ?_
   rintro e w3 hp
   have hp2:=EbPost.next HB.out.2.2.1 HB.out.2.2.2.1 hp
   obtain ⟨v3,rfl,hE3,hF3,hM3⟩:=hp2
   have H3:=Lib.hid (And.intro hE3 (And.intro hF3 hM3))
   clear hp hE3 hF3 hM3
   go_wp2_with fail
   go_roundw
   case rel=>exact ⟨i + 1,_,v3,by omega,by go_num,H3.out.1,HB.out.1.symm,by have:=HB.out.2.1;have:=HB.out.2.2.2.2.2.2;omega,H3.out.2.1,H3.out.2.2⟩
   case measure=>simp [intOf];omega
  ·obtain rfl:i = m:=by omega
   rw [Nat.sub_self] at hg
   have hg2:sa = s1:=hg
   subst hg2
   have d1:decide ((i:Int) < (i:Int)) = false:=decide_eq_false (by omega)
   have HB:=Lib.hid (And.intro hs (And.intro hl1 (And.intro hf1 hM)))
   clear hs hg hl1 hf1 hM
   by_cases h21:i + 1 < 21
   ·have d2:decide ((i:Int) + 1 < 21) = true:=decide_eq_true (by omega)
    have d2':decide (((i + 1:Nat):Int) < 21) = true:=decide_eq_true (by omega)
    have i20:i < 20:=by omega
    have PT:=ebPut_at wr bk g va sa (t * 37 + i) 0 (by omega) (by omega) HB.out.1 (by have:=HB.out.2.1;omega)
    have HP:=Lib.hid PT
    clear PT
    go_wp2_with fail
    refine HP.out.mono ?_
    rintro e w3 hp
    obtain ⟨v3,rfl,hE3,hF3,hM3⟩:=EbPost.next HB.out.2.2.1 HB.out.2.2.2 hp
    have H3:=Lib.hid (And.intro hE3 (And.intro hF3 hM3))
    clear hp hE3 hF3 hM3
    have LW:Calls Tryz.prog 137 #[.pointer (some ⟨bk,t * 37,none⟩),.pointer (some ⟨g,0,none⟩),.int .i64 ((x:Int) + 1),.int .i64 (i:Int)] w3 (EbPost w3 bk g v3 (elow t (x + 1) i 0 0 (eputAt sa (t * 37 + i) 0))):=ebPutLow w3 bk g v3 (eputAt sa (t * 37 + i) 0) t (x + 1) i ht (by omega) (by omega) H3.out.1 (by have:=HB.out.2.1;have:=H.out.2.1;have:=H.out.2.2.2.2.2.2;have:=eputAt_len sa (t * 37 + i) 0;omega)
    have HL:=Lib.hid LW
    clear LW
    go_wp2_with fail
    refine HL.out.mono ?_
    rintro e w5 hp5
    obtain ⟨v5,rfl,hE5,hF5,hM5⟩:=EbPost.next H3.out.2.1 H3.out.2.2 hp5
    have H5:=Lib.hid (And.intro hE5 (And.intro hF5 hM5))
    clear hp5 hE5 hF5 hM5
    go_wp2_with fail
    go_ret
    refine ⟨v5,rfl,?_,H5.out.2.1,H5.out.2.2⟩
    rw [H.out.2.2.1]
    unfold estop
    rw [if_pos h21]
    exact H5.out.1
   ·have d2:decide ((i:Int) + 1 < 21) = false:=decide_eq_false (by omega)
    have d2':decide (((i + 1:Nat):Int) < 21) = false:=decide_eq_false (by omega)
    have LW:Calls Tryz.prog 137 #[.pointer (some ⟨bk,t * 37,none⟩),.pointer (some ⟨g,0,none⟩),.int .i64 ((x:Int) + 1),.int .i64 (i:Int)] wr (EbPost wr bk g va (elow t (x + 1) i 0 0 sa)):=ebPutLow wr bk g va sa t (x + 1) i ht (by omega) (by omega) HB.out.1 (by have:=HB.out.2.1;have:=H.out.2.1;have:=H.out.2.2.2.2.2.2; omega)
    have HL:=Lib.hid LW
    clear LW
    go_wp2_with fail
    refine HL.out.mono ?_
    rintro e w5 hp5
    obtain ⟨v5,rfl,hE5,hF5,hM5⟩:=EbPost.next HB.out.2.2.1 HB.out.2.2.2 hp5
    have H5:=Lib.hid (And.intro hE5 (And.intro hF5 hM5))
    clear hp5 hE5 hF5 hM5
    go_wp2_with fail
    go_ret
    refine ⟨v5,rfl,?_,H5.out.2.1,H5.out.2.2⟩
    rw [H.out.2.2.1]
    unfold estop
    rw [if_neg h21]
    exact H5.out.1
def esigned (t:Nat) (v:Int) (s:Es):Es:=if v = 0 then enum t v.natAbs s else eputAt (enum t v.natAbs s) (t * 37 + 36) (if v < 0 then 1 else 0)
theorem enum_len {t x:Nat} (hx:x ≤ 1048576) (s:Es):s.code.length ≤ (enum t x s).code.length ∧ (enum t x s).code.length ≤ s.code.length + 41:=by
 have h0:blen (x + 1) ≤ 21:=blen_pw (by omega)
 have h1:=elens_len t (blen (x + 1) - 1) 0 s
 have h2:=estop_len t (blen (x + 1)) (elens t (blen (x + 1) - 1) 0 s)
 have h3:=elow_len t (x + 1) (blen (x + 1) - 1) 0 0 (estop t (blen (x + 1)) (elens t (blen (x + 1) - 1) 0 s))
 unfold enum
 omega
theorem ebBook (w:World) (bk g:Nat) (v:Value) (s:Es) (t x:Nat) (ht:t < 16) (hx:x ≤ 1048576) (h:EbAt w bk g v s) (hl:s.code.length + 43 ≤ 1048575 + 1) :
  Calls Tryz.prog 212 #[.pointer (some ⟨bk,0,none⟩),.pointer (some ⟨g,0,none⟩),.int .i64 (t:Int),.int .i64 (x:Int)] w (EbPost w bk g v (enum t x s)):=by
 have p0:decide ((x:Int) < 0) = false:=decide_eq_false (by omega)
 have p1:decide (1048576 < (x:Int)) = false:=decide_eq_false (by omega)
 have HP:=Lib.hid (ebPutNum w bk g v s t x ht hx h hl)
 clear h hl
 go_enter Tryz.func212,Tryz.ntmps212
 go_wp2_with fail
 refine (bTopic w bk t ht).mono ?_
 rintro e w1 ⟨rfl,rfl⟩
 go_wp2_with fail
 refine HP.out.mono ?_
 rintro e w2 ⟨v2,rfl,hE,hF,hM⟩
 have H2:=Lib.hid (And.intro hE (And.intro hF hM))
 clear hE hF hM
 go_wp2_with fail
 go_ret
 exact ⟨v2,rfl,H2.out.1,H2.out.2.1,H2.out.2.2⟩
theorem ebOne (w:World) (bk g:Nat) (v:Value) (s:Es) (t n x:Nat) (ht:t < 16) (hn:n = 3 ∨ n = 4) (hx:x < n) (h:EbAt w bk g v s) (hl:s.code.length + 43 ≤ 1048575 + 1) :
  Calls Tryz.prog 88 #[.pointer (some ⟨bk,0,none⟩),.pointer (some ⟨g,0,none⟩),.int .i64 (t:Int),.int .i64 (n:Int),.int .i64 (x:Int)] w (EbPost w bk g v (elow t x 2 0 0 s)):=by
 have p0:decide ((x:Int) < 0) = false:=decide_eq_false (by omega)
 have p1:decide ((n:Int) ≤ (x:Int)) = false:=decide_eq_false (by omega)
 have HP:=Lib.hid (ebPutLow w bk g v s t x 2 ht (by omega) (by omega) h (by omega))
 clear h hl
 rcases hn with rfl | rfl
 ·go_enter Tryz.func88,Tryz.ntmps88
  go_wp2_with fail
  refine (bTopic w bk t ht).mono ?_
  rintro e w1 ⟨rfl,rfl⟩
  go_wp2_with fail
  refine (bitsLen2 _).mono ?_
  rintro e w1 ⟨rfl,rfl⟩
  go_wp2_with fail
  refine HP.out.mono ?_
  rintro e w2 ⟨v2,rfl,hE,hF,hM⟩
  have H2:=Lib.hid (And.intro hE (And.intro hF hM))
  clear hE hF hM
  go_wp2_with fail
  go_ret
  exact ⟨v2,rfl,H2.out.1,H2.out.2.1,H2.out.2.2⟩
 ·go_enter Tryz.func88,Tryz.ntmps88
  go_wp2_with fail
  refine (bTopic w bk t ht).mono ?_
  rintro e w1 ⟨rfl,rfl⟩
  go_wp2_with fail
  refine (bitsLen3 _).mono ?_
  rintro e w1 ⟨rfl,rfl⟩
  go_wp2_with fail
  refine HP.out.mono ?_
  rintro e w2 ⟨v2,rfl,hE,hF,hM⟩
  have H2:=Lib.hid (And.intro hE (And.intro hF hM))
  clear hE hF hM
  go_wp2_with fail
  go_ret
  exact ⟨v2,rfl,H2.out.1,H2.out.2.1,H2.out.2.2⟩
theorem ebSigned (w:World) (bk g:Nat) (v:Value) (s:Es) (t:Nat) (x:Int) (ht:t < 16) (hx:-1048576 ≤ x ∧ x ≤ 1048576) (h:EbAt w bk g v s) (hl:s.code.length + 43 ≤ 1048575 + 1) :
  Calls Tryz.prog 89 #[.pointer (some ⟨bk,0,none⟩),.pointer (some ⟨g,0,none⟩),.int .i64 (t:Int),.int .i64 x] w (EbPost w bk g v (esigned t x s)):=by
 obtain ⟨hx1,hx2⟩:=hx
 have p0:decide (x < -1048576) = false:=decide_eq_false (by omega)
 have p1:decide (1048576 < x) = false:=decide_eq_false (by omega)
 have HP:=Lib.hid (And.intro (ebPutNum w bk g v s t x.natAbs ht (by omega) h hl) (And.intro hl (enum_len (t:=t) (x:=x.natAbs) (by omega) s)))
 clear h hl
 by_cases h0:x = 0
 ·subst h0
  go_enter Tryz.func89,Tryz.ntmps89
  go_wp2_with fail
  refine (bTopic w bk t ht).mono ?_
  rintro e w1 ⟨rfl,rfl⟩
  go_wp2_with fail
  refine HP.out.1.mono ?_
  rintro e w2 ⟨v2,rfl,hE,hF,hM⟩
  have H2:=Lib.hid (And.intro hE (And.intro hF hM))
  clear hE hF hM
  go_wp2_with fail
  go_ret
  exact ⟨v2,rfl,H2.out.1,H2.out.2.1,H2.out.2.2⟩
 ·by_cases hneg:x < 0
  ·have d1:decide (x < 0) = true:=decide_eq_true hneg
   obtain ⟨y,hyn⟩:∃ y:Nat,y = x.natAbs:=⟨_,rfl⟩
   have d2:((y:Int) == 0) = false:=by simp;omega
   have hw1:IntKind.i64.wrap (-x) = (y:Int):=by
    rw [show -x = (y:Int) by omega]
    exact IntWalk.i64_in _ ⟨by omega,by omega⟩
   have hy1:y ≤ 1048576:=by omega
   rw [← hyn] at HP
   have HQ:Hid (esigned t x s = eputAt (enum t y s) (t * 37 + 36) 1):=by
    show _ = _
    unfold esigned
    rw [if_neg h0,if_pos hneg,← hyn]
   clear h0 hneg hyn
   go_enter Tryz.func89,Tryz.ntmps89
   go_wp2_with fail
   refine (bTopic w bk t ht).mono ?_
   rintro e w1 ⟨rfl,rfl⟩
   go_wp2_with fail
   refine HP.out.1.mono ?_
   rintro e w2 ⟨v2,rfl,hE,hF,hM⟩
   have PT:=ebPut_at w2 bk g v2 (enum t y s) (t * 37 + 36) 1 (by omega) (by omega) hE (by have:=HP.out.2.1;have:=HP.out.2.2;omega)
   have H2:=Lib.hid (And.intro PT (And.intro hF hM))
   clear hE hF hM PT
   go_wp2_with fail
   refine H2.out.1.mono ?_
   rintro e w3 hp
   obtain ⟨v3,rfl,hE3,hF3,hM3⟩:=EbPost.next H2.out.2.1 H2.out.2.2 hp
   have H3:=Lib.hid (And.intro hE3 (And.intro hF3 hM3))
   clear hp hE3 hF3 hM3
   go_wp2_with fail
   go_ret
   refine ⟨v3,rfl,?_,H3.out.2.1,H3.out.2.2⟩
   rw [HQ.out]
   exact H3.out.1
  ·have d1:decide (x < 0) = false:=decide_eq_false hneg
   obtain ⟨y,rfl⟩:∃ y:Nat,x = (y:Int):=⟨x.natAbs,by omega⟩
   have hyn:((y:Int)).natAbs = y:=by omega
   have d2:((y:Int) == 0) = false:=by simp;omega
   rw [hyn] at HP
   have HQ:Hid (esigned t (y:Int) s = eputAt (enum t y s) (t * 37 + 36) 0):=by
    show _ = _
    unfold esigned
    rw [if_neg h0,if_neg hneg,hyn]
   clear h0 hneg hyn
   go_enter Tryz.func89,Tryz.ntmps89
   go_wp2_with fail
   refine (bTopic w bk t ht).mono ?_
   rintro e w1 ⟨rfl,rfl⟩
   go_wp2_with fail
   refine HP.out.1.mono ?_
   rintro e w2 ⟨v2,rfl,hE,hF,hM⟩
   have PT:=ebPut_at w2 bk g v2 (enum t y s) (t * 37 + 36) 0 (by omega) (by omega) hE (by have:=HP.out.2.1;have:=HP.out.2.2;omega)
   have H2:=Lib.hid (And.intro PT (And.intro hF hM))
   clear hE hF hM PT
   go_wp2_with fail
   refine H2.out.1.mono ?_
   rintro e w3 hp
   obtain ⟨v3,rfl,hE3,hF3,hM3⟩:=EbPost.next H2.out.2.1 H2.out.2.2 hp
   have H3:=Lib.hid (And.intro hE3 (And.intro hF3 hM3))
   clear hp hE3 hF3 hM3
   go_wp2_with fail
   go_ret
   refine ⟨v3,rfl,?_,H3.out.2.1,H3.out.2.2⟩
   rw [HQ.out]
   exact H3.out.1
def cntTo (L:List Int):Nat → Nat
 | 0=>0
 | k + 1=>if L.getD k 0 = 0 then cntTo L k else k + 1
theorem cntTo_le (L:List Int) (k:Nat):cntTo L k ≤ k:=by
 induction k with
 | zero=>exact Nat.le_refl _
 | succ k ih=>unfold cntTo;split <;> omega
def eputs (t:Nat):List Int → Es → Es
 | [],s=>s
 | x :: r,s=>eputs t r (esigned t x s)
def eblk (t:Nat) (l:List Int) (s:Es):Es:=eputs (t + 1) ((sortL l).take (cntTo (sortL l) 64)) (enum t (cntTo (sortL l) 64) s)
theorem sorTo_within {M:Int} {b:List Int} (h:Within M b) (k:Nat):Within M (sorTo b k):=by
 have h0:=h b.length
 rw [show b.getD b.length 0 = 0 by simp [List.getD_eq_getElem?_getD]] at h0
 induction k with
 | zero=>
  intro i
  have:(sorTo b 0).getD i 0 = 0:=by
   simp only [sorTo,List.getD_eq_getElem?_getD,List.getElem?_replicate]
   split <;> rfl
  rw [this]
  exact h0
 | succ k ih=>
  intro i
  rw [sorTo,getD_set]
  split
  ·exact h _
  ·exact ih i
theorem esigned_len {t:Nat} {x:Int} (hx:-1048576 ≤ x ∧ x ≤ 1048576) (s:Es):s.code.length ≤ (esigned t x s).code.length ∧ (esigned t x s).code.length ≤ s.code.length + 42:=by
 have h1:=enum_len (t:=t) (x:=x.natAbs) (by omega) s
 unfold esigned
 split
 ·omega
 ·have h2:=eputAt_len (enum t x.natAbs s) (t * 37 + 36) (if x < 0 then 1 else 0)
  omega
theorem eputs_len {t:Nat}:∀ (l:List Int) (s:Es),(∀ x ∈ l,-1048576 ≤ x ∧ x ≤ 1048576) → s.code.length ≤ (eputs t l s).code.length ∧ (eputs t l s).code.length ≤ s.code.length + 42 * l.length
 | [],s,_=>⟨Nat.le_refl _,Nat.le_refl _⟩
 | x :: r,s,h=>by
  have h1:=esigned_len (t:=t) (h x (by simp)) s
  have h2:=eputs_len (t:=t) r (esigned t x s) (fun y hy=>h y (by simp [hy]))
  unfold eputs
  rw [List.length_cons]
  omega
theorem within_mem {M:Int} {l:List Int} (h:Within M l):∀ x ∈ l,-M ≤ x ∧ x ≤ M:=by
 intro x hx
 obtain ⟨i,hi,rfl⟩:=List.getElem_of_mem hx
 have:=h i
 rwa [List.getD_eq_getElem?_getD,List.getElem?_eq_getElem hi] at this
theorem eblk_len {t:Nat} {l:List Int} (h:Within 1048576 l) (s:Es):s.code.length ≤ (eblk t l s).code.length ∧ (eblk t l s).code.length ≤ s.code.length + 2730:=by
 have hc:=cntTo_le (sortL l) 64
 have h1:=enum_len (t:=t) (x:=cntTo (sortL l) 64) (by omega) s
 have h2:=eputs_len (t:=t + 1) ((sortL l).take (cntTo (sortL l) 64)) (enum t (cntTo (sortL l) 64) s) (fun x hx=>within_mem (sorTo_within h 64) x (List.mem_of_mem_take hx))
 have h3:((sortL l).take (cntTo (sortL l) 64)).length ≤ 64:=by rw [List.length_take];omega
 unfold eblk
 omega
theorem EbAt.free {w:World} {bk g ob:Nat} {v:Value} {s:Es} (h:EbAt w bk g v s) (ho:w.heap.size ≤ ob):¬ (ob = g ∨ ob = bk ∨ v.ownBlock = some ob):=by
 have q1:=h.enc.blk.lt
 have q2:=h.bk_.lt
 rintro (e | e | e)
 ·omega
 ·omega
 ·obtain ⟨_,cs,hb⟩:=own_blk h.enc.own e
  have:=hb.lt
  omega
theorem eputs_step (t:Nat) (L:List Int) (n i:Nat) (s:Es) (hi:i < n) (hn:n ≤ L.length):eputs t ((L.take n).drop i) s = eputs t ((L.take n).drop (i + 1)) (esigned t (L.getD i 0) s):=by
 have h:(L.take n).drop i = L.getD i 0 :: (L.take n).drop (i + 1):=by
  have hl:i < (L.take n).length:=by rw [List.length_take];omega
  rw [List.drop_eq_getElem_cons hl,List.getElem_take,List.getD_eq_getElem?_getD,List.getElem?_eq_getElem (by omega)]
  rfl
 rw [h]
 rfl
def QpRel (w1:World) (bk g ob:Nat) (v:Value) (L:List Int) (t n:Nat) (tg:Es) (v55:Value) (wr:World):Prop:=
 ∃ (i:Nat) (s:Es) (v1:Value),i ≤ n ∧ v55 = .int .i64 (i:Int) ∧ EbAt wr bk g v1 s ∧ eputs (t + 1) ((L.take n).drop i) s = tg ∧ s.code.length + 42 * (n - i) + 43 ≤ 1048575 + 1 ∧ Blk wr ob 3 (i64s L).toArray ∧
  (∀ j,v1.ownBlock = some j → v.ownBlock = some j ∨ w1.heap.size ≤ j) ∧ Mod (fun j=>j = g ∨ j = bk ∨ v.ownBlock = some j) w1 wr
theorem qPut (w:World) (bk g:Nat) (v:Value) (s:Es) (t:Nat) (ht:t < 15) (A:Option Addr) (c:Nat) (l:List Int) (hin:IntsIn w A 64 c l) (hall:allB 1048576 l = true) (h:EbAt w bk g v s) (hl:s.code.length + 2780 ≤ 1048575 + 1) :
  Calls Tryz.prog 148 #[.pointer (some ⟨bk,0,none⟩),.pointer (some ⟨g,0,none⟩),.int .i64 (t:Int),.slice A 64 c] w (EbPost w bk g v (eblk t l s)):=by
 have hwi:Within 1048576 l:=allB_within (by omega) hall
 have p0:decide ((t:Int) < 0) = false:=decide_eq_false (by omega)
 have p1:decide (15 ≤ (t:Int)) = false:=decide_eq_false (by omega)
 have HIN:=Lib.hid (And.intro hin (And.intro h hwi))
 clear hin h hwi
 go_enter Tryz.func148,Tryz.ntmps148
 go_wp2_with fail
 refine (quantWithin _ 1048576).mono ?_
 rintro e w1 ⟨rfl,hb1,m1⟩
 have H1:=Lib.hid m1
 go_wp2_with fail
 refine (quantAll _ A 64 c w.heap.size l 1048576 (HIN.out.1.quiet m1) (by omega) (by omega) hb1).mono ?_
 rintro e w2 ⟨rfl,rfl⟩
 rw [hall]
 clear m1 hb1 hall
 go_wp2_with fail
 refine (lSort _ A c l (HIN.out.1.quiet H1.out)).mono ?_
 rintro e w2 ⟨ob,rfl,hob,hobl,hm2⟩
 have HM:=Lib.hid (H1.out.trans hm2)
 have hL:(sortL l).length = 64:=sorTo_length _ _
 have hLw:Within 1048576 (sortL l):=sorTo_within HIN.out.2.2 64
 have HE:Hid (eblk t l s = eputs (t + 1) ((sortL l).take (cntTo (sortL l) 64)) (enum t (cntTo (sortL l) 64) s)):=rfl
 generalize sortL l = L at *
 have hol:=hob.lt
 have HO:=Lib.hid (And.intro hob (And.intro hL hLw))
 have hoh:w.heap.size ≤ ob:=by have:=H1.out.size;omega
 clear hob hL hLw hm2 H1 hobl
 go_wp2_with fail
 go_loop [10] (fun x=>∃ n:Nat,n ≤ 64 ∧ x = .int .i64 (n:Int) ∧ cntTo L n = cntTo L 64) (fun x=>(intOf x).toNat)
 case atStart=>exact ⟨64,by omega,rfl,rfl⟩
 case round=>
  obtain ⟨n,hn,rfl,hcn⟩:=hrel
  have hst:(∃ k,n = k + 1 ∧ L.getD k 0 = 0) ∨ n = cntTo L 64 ∧ (n = 0 ∨ ∃ k x,n = k + 1 ∧ L.getD k 0 = x ∧ (x == 0) = false):=by
   rcases Nat.eq_zero_or_pos n with e | e
   ·subst e
    exact .inr ⟨hcn,.inl rfl⟩
   ·obtain ⟨k,rfl⟩:∃ k,n = k + 1:=⟨n - 1,by omega⟩
    by_cases hz:L.getD k 0 = 0
    ·exact .inl ⟨k,rfl,hz⟩
    ·rw [cntTo,if_neg hz] at hcn
     exact .inr ⟨hcn,.inr ⟨k,_,rfl,rfl,by simpa using hz⟩⟩
  rcases hst with ⟨k,rfl,hz⟩ | ⟨hcn2,hst⟩
  ·have h0:0 < k + 1:=by omega
   have d1:decide (0 < ((k + 1:Nat):Int)) = true:=decide_eq_true (by omega)
   have hk:=HO.out.1.cell k
   rw [List.getElem?_toArray,getD_i64s _ _ (by have:=HO.out.2.1;omega),hz] at hk
   have k0:(0:Int) ≤ (k:Int):=by omega
   have k1:(k:Int) < 64:=by omega
   have e1:((k + 1:Nat):Int) - 1 = (k:Int):=by omega
   obtain ⟨m,hm⟩:∃ m,m = k + 1:=⟨_,rfl⟩
   rw [← hm] at d1 e1 hcn hn h0 ⊢
   have hm65:(m:Int) ≤ 64:=by omega
   have HC:=Lib.hid (And.intro hcn (And.intro hm hz))
   clear hcn hm hz
   go_wp2_with fail
   go_round
   case rel=>exact ⟨k,by omega,rfl,by
    have:=HC.out.1
    rw [HC.out.2.1,cntTo,if_pos HC.out.2.2] at this
    exact this⟩
   case measure=>simp [intOf];have:=HC.out.2.1;omega
  ·have hn2:(n:Int) ≤ 64:=by omega
   have HC:=Lib.hid hcn2
   clear hcn hcn2
   rcases hst with hn0 | ⟨k,x,rfl,hx,hx0⟩
   case' inl=>
    have d1:decide (0 < (n:Int)) = false:=decide_eq_false (by omega)
    have h0:¬ 0 < n:=by omega
    have HX:=Lib.hid hn0
    clear hn0
   case' inr=>
    have h0:0 < k + 1:=by omega
    have d1:decide (0 < ((k + 1:Nat):Int)) = true:=decide_eq_true (by omega)
    have hk:=HO.out.1.cell k
    rw [List.getElem?_toArray,getD_i64s _ _ (by have:=HO.out.2.1;omega),hx] at hk
    have k0:(0:Int) ≤ (k:Int):=by omega
    have k1:(k:Int) < 64:=by omega
    have e1:((k + 1:Nat):Int) - 1 = (k:Int):=by omega
    obtain ⟨n,hm⟩:∃ n,n = k + 1:=⟨_,rfl⟩
    rw [← hm] at d1 e1 hn h0 hn2 HC ⊢
    have HX:=Lib.hid (And.intro hm hx)
    clear hm hx
   all_goals
    go_wp2_with fail
    refine (ebBook _ bk g v s t _ (by omega) (by omega) (HIN.out.2.1.quiet HM.out) (by omega)).mono ?_
    rintro e w3 ⟨v3,rfl,hE,hF,hMd⟩
    have hfr:=HIN.out.2.1.free hoh
    have hob3:=HO.out.1.keep hMd hfr
    have hlen3:=enum_len (t:=t) (x:=n) (by omega) s
    have HB:=HE.out
    rw [← HC.out] at HB
    have HQ:Hid (QpRel w2 bk g ob v L t n (eblk t l s) (.int .i64 0) w3):=⟨0,_,v3,by omega,rfl,hE,by rw [HB];rfl,by omega,hob3,hF,hMd⟩
    clear hE hF hMd hob3 hlen3 HB
    go_wp2_with fail
    go_loopw [55] (QpRel w2 bk g ob v L t n (eblk t l s)) (fun i _=>n - (intOf i).toNat)
    case atStart=>exact HQ.out
    case round=>
     clear HQ
     rename World=>wr
     obtain ⟨i,s1,v1,hi,rfl,hE,htg,hlen,hb,hF,hM⟩:=hrel
     by_cases hli:i < n
     ·have d2:decide ((i:Int) < (n:Int)) = true:=decide_eq_true (by omega)
      have hc:=hb.cell i
      rw [List.getElem?_toArray,getD_i64s _ _ (by have:=HO.out.2.1;omega)] at hc
      have hx:=HO.out.2.2 i
      rw [eputs_step _ _ _ _ _ hli (by have:=HO.out.2.1;omega)] at htg
      generalize L.getD i 0 = x at *
      have i0:(0:Int) ≤ (i:Int):=by omega
      have i1:(i:Int) < 64:=by omega
      have HK:=Lib.hid (And.intro hE (And.intro htg (And.intro hb (And.intro hF hM))))
      clear hE htg hb hF hM
      go_wp2_with fail
      refine (ebSigned _ bk g v1 s1 (t + 1) x (by omega) hx HK.out.1 (by omega)).mono ?_
      rintro e w4 ⟨v4,rfl,hE4,hF4,hM4⟩
      have hln:=esigned_len (t:=t + 1) hx s1
      have hfr4:¬ (ob = g ∨ ob = bk ∨ v1.ownBlock = some ob):=by
       rintro (e | e | e)
       ·exact hfr (.inl e)
       ·exact hfr (.inr (.inl e))
       ·rcases HK.out.2.2.2.1 ob e with h | h
        ·exact hfr (.inr (.inr h))
        ·omega
      have HQ:Hid (QpRel w2 bk g ob v L t n (eblk t l s) (.int .i64 ((i + 1:Nat):Int)) w4):=by
       refine ⟨i + 1,_,v4,by omega,rfl,hE4,HK.out.2.1,by omega,HK.out.2.2.1.keep hM4 hfr4,fun j e=>?_,HK.out.2.2.2.2.into hM4 (fun j e=>?_)⟩
       ·rcases hF4 j e with h1 | h1
        ·exact HK.out.2.2.2.1 j h1
        ·exact .inr (Nat.le_trans HK.out.2.2.2.2.size h1)
       ·rcases e with e | e | e
        ·exact .inl (.inl e)
        ·exact .inl (.inr (.inl e))
        ·rcases HK.out.2.2.2.1 j e with h1 | h1
         ·exact .inl (.inr (.inr h1))
         ·exact .inr h1
      clear hE4 hF4 hM4 hln hfr4 HK hc
      go_wp2_with fail
      go_roundw
      case rel=>exact HQ.out
      case measure=>simp [intOf];omega
     ·obtain rfl:i = n:=by omega
      have HK:Hid (eblk t l s = s1):=by show _ = _;rw [← htg,List.drop_of_length_le (by rw [List.length_take];omega)];rfl
      have HE1:=Lib.hid (And.intro hE (And.intro hF hM))
      clear htg hE hF hM hb hlen
      go_wp2_with fail
      go_ret
      rw [HK.out]
      exact ⟨v1,rfl,HE1.out.1,fun j e=>(HE1.out.2.1 j e).imp id (Nat.le_trans HM.out.size),(HM.out.mono (fun _ h=>h.elim)).trans HE1.out.2.2⟩
def aheadB (vx vy wx wy:Int):Bool:=
 if vx.natAbs + vy.natAbs ≠ wx.natAbs + wy.natAbs then decide (vx.natAbs + vy.natAbs < wx.natAbs + wy.natAbs)
 else if vy ≠ wy then decide (vy < wy) else decide (vx < wx)
theorem quiet_mSize (w:World) (v:Int) (hv:-1073741824 ≤ v ∧ v ≤ 1073741824) (n:Nat):Calls Tryz.prog 237 #[.int .i64 v] (w.drewN n) fun e w'=>e = .returned (.int .i64 ((v.natAbs:Nat):Int)) ∧ w' = w.drewN n:=
 (mSize _ v hv).mono fun _ _ ⟨a,b⟩=>⟨a,b.symm⟩
theorem mAhead (w:World) (vx vy wx wy:Int) (h1:-16 ≤ vx ∧ vx ≤ 16) (h2:-16 ≤ vy ∧ vy ≤ 16) (h3:-16 ≤ wx ∧ wx ≤ 16) (h4:-16 ≤ wy ∧ wy ≤ 16) :
  Calls Tryz.prog 192 #[.agg #[.int .i64 vx,.int .i64 vy],.agg #[.int .i64 wx,.int .i64 wy]] w fun e w'=>e = .returned (.bool (aheadB vx vy wx wy)) ∧ Mod (fun _=>False) w w':=by
 obtain ⟨a,ha⟩:∃ a,a = vx.natAbs:=⟨_,rfl⟩
 obtain ⟨b,hb⟩:∃ b,b = vy.natAbs:=⟨_,rfl⟩
 obtain ⟨c,hc⟩:∃ c,c = wx.natAbs:=⟨_,rfl⟩
 obtain ⟨d,hd⟩:∃ d,d = wy.natAbs:=⟨_,rfl⟩
 have A1:a ≤ 16:=by omega
 have A2:b ≤ 16:=by omega
 have A3:c ≤ 16:=by omega
 have A4:d ≤ 16:=by omega
 have C1:∀ (w:World) n,Calls Tryz.prog 237 #[.int .i64 vx] (w.drewN n) fun e w'=>e = .returned (.int .i64 (a:Int)) ∧ w' = w.drewN n:=fun w n=>by rw [ha];exact quiet_mSize w vx ⟨by omega,by omega⟩ n
 have C2:∀ (w:World) n,Calls Tryz.prog 237 #[.int .i64 vy] (w.drewN n) fun e w'=>e = .returned (.int .i64 (b:Int)) ∧ w' = w.drewN n:=fun w n=>by rw [hb];exact quiet_mSize w vy ⟨by omega,by omega⟩ n
 have C3:∀ (w:World) n,Calls Tryz.prog 237 #[.int .i64 wx] (w.drewN n) fun e w'=>e = .returned (.int .i64 (c:Int)) ∧ w' = w.drewN n:=fun w n=>by rw [hc];exact quiet_mSize w wx ⟨by omega,by omega⟩ n
 have C4:∀ (w:World) n,Calls Tryz.prog 237 #[.int .i64 wy] (w.drewN n) fun e w'=>e = .returned (.int .i64 (d:Int)) ∧ w' = w.drewN n:=fun w n=>by rw [hd];exact quiet_mSize w wy ⟨by omega,by omega⟩ n
 have HR:Hid (aheadB vx vy wx wy = if a + b ≠ c + d then decide (a + b < c + d) else if vy ≠ wy then decide (vy < wy) else decide (vx < wx)):=by
  show _ = _
  unfold aheadB
  rw [← ha,← hb,← hc,← hd]
 have h0:=(((Sat.nil (fun _=>False) w).alloc 156 #[.int .i64 vx,.int .i64 vy] rfl).alloc (g:=w.heap.size + 1) 156 #[.int .i64 wx,.int .i64 wy] (by simp)).mod
 have HM:=Lib.hid h0
 clear ha hb hc hd h0 h1 h2 h3 h4
 go_enter Tryz.func192,Tryz.ntmps192
 go_upto_region 1 with (fail)
 go_quiet (first | (go_at_call 237;first | exact Calls.quiet_of_same (C1 _ _) | exact Calls.quiet_of_same (C2 _ _) | exact Calls.quiet_of_same (C3 _ _) | exact Calls.quiet_of_same (C4 _ _)))
 clear C1 C2 C3 C4
 by_cases e:a + b = c + d
 ·have d1:(((a:Int) + (b:Int)) != ((c:Int) + (d:Int))) = false:=by simp;omega
  by_cases e2:vy = wy
  ·have d2:(vy != wy) = false:=by simp [e2]
   have HE:=Lib.hid (And.intro e e2)
   clear e e2
   go_wp2_with fail
   go_ret
   exact ⟨by rw [HR.out,if_neg (fun h=>h HE.out.1),if_neg (fun h=>h HE.out.2)];rfl,HM.out.drewN _⟩
  ·have d2:(vy != wy) = true:=by simp [e2]
   have HE:=Lib.hid (And.intro e e2)
   clear e e2
   go_wp2_with fail
   go_ret
   exact ⟨by rw [HR.out,if_neg (fun h=>h HE.out.1),if_pos HE.out.2];rfl,HM.out.drewN _⟩
 ·have d1:(((a:Int) + (b:Int)) != ((c:Int) + (d:Int))) = true:=by simp;omega
  have d3:decide ((a:Int) + (b:Int) < (c:Int) + (d:Int)) = decide (a + b < c + d):=by congr 1;exact propext ⟨fun h=>by omega,fun h=>by omega⟩
  have HE:=Lib.hid (And.intro e d3)
  clear e d3
  go_wp2_with fail
  go_ret
  refine ⟨?_,HM.out.drewN _⟩
  rw [HR.out,if_pos HE.out.1,← HE.out.2]
  rfl
theorem pAhead (w:World) (v i m:Nat) (h:v + i < m) (hm:m ≤ 4096):Calls Tryz.prog 189 #[.int .i64 (v:Int),.int .i64 (i:Int),.int .i64 (m:Int)] w fun e w'=>e = .returned (.int .i64 ((v + i:Nat):Int)) ∧ w = w':=by
 have d1:decide ((m:Int) ≤ (v:Int)) = false:=decide_eq_false (by omega)
 have HP:=Lib.hid (pNear w ((v:Int) + (i:Int)) m (by omega))
 have HN:Hid (near ((v:Int) + (i:Int)) m = v + i):=by
  show _ = _
  unfold near
  rw [if_neg (by omega),if_neg (by omega)]
  omega
 go_enter Tryz.func189,Tryz.ntmps189
 go_wp2_with fail
 refine HP.out.mono ?_
 rintro e w1 ⟨rfl,rfl⟩
 rw [HN.out]
 go_wp2_with fail
 go_ret
 exact ⟨rfl,rfl⟩
theorem quiet_pAhead (w:World) (v i m:Nat) (h:v + i < m) (hm:m ≤ 4096) (n:Nat):Calls Tryz.prog 189 #[.int .i64 (v:Int),.int .i64 (i:Int),.int .i64 (m:Int)] (w.drewN n) fun e w'=>e = .returned (.int .i64 ((v + i:Nat):Int)) ∧ w' = w.drewN n:=(pAhead _ v i m h hm).mono fun _ _ ⟨a,b⟩=>⟨a,b.symm⟩
def sqF (W:Nat) (pix:List UInt8) (x y n k:Nat):UInt8:=pix.getD ((y + k / n) * W + (x + k % n)) 0
def sqL (W:Nat) (pix:List UInt8) (x y n:Nat):List UInt8:=(List.range (n * n)).map (sqF W pix x y n)
theorem sqL_length (W:Nat) (pix:List UInt8) (x y n:Nat):(sqL W pix x y n).length = n * n:=by simp [sqL]
theorem sqF_at (W:Nat) (pix:List UInt8) (x y n j i:Nat) (hi:i < n):sqF W pix x y n (j * n + i) = pix.getD ((y + j) * W + (x + i)) 0:=by
 unfold sqF
 have h1:(j * n + i) % n = i:=by rw [Nat.mul_comm,Nat.mul_add_mod,Nat.mod_eq_of_lt hi]
 have h2:(j * n + i) / n = j:=by rw [Nat.mul_comm,Nat.mul_add_div (by omega),Nat.div_eq_of_lt hi,Nat.add_zero]
 rw [h1,h2]
def MadeU (w:World) (N:Nat) (l:List UInt8) (e:Ending) (w':World):Prop:=∃ g,e = .returned (.slice (some ⟨g,0,none⟩) N N) ∧ Blk w' g 5 (u8s l).toArray ∧ w.heap.size ≤ g ∧ Mod (fun _=>False) w w'
def PbRel (w:World) (q p N n:Nat) (pv:Array Value) (f:Nat → UInt8) (s29:Value) (wr:World):Prop:=
 ∃ j:Nat,j ≤ n ∧ s29 = .int .i64 (j:Int) ∧ Sat (fun _=>False) w wr [⟨q,5,(u8s (fillL f N (j * n))).toArray⟩,⟨p,38,pv⟩] []
def PbRel2 (w:World) (q p N n j:Nat) (pv:Array Value) (f:Nat → UInt8) (s41:Value) (wr:World):Prop:=
 ∃ i:Nat,i ≤ n ∧ s41 = .int .i64 (i:Int) ∧ Sat (fun _=>False) w wr [⟨q,5,(u8s (fillL f N (j * n + i))).toArray⟩,⟨p,38,pv⟩] []
theorem pBlock (w:World) (W H:Nat) (A:Option Addr) (m c:Nat) (pix:List UInt8) (h:sidesB W H = true) (hm:m = W * H) (hin:BytesIn w A (W * H) c pix) (x y n:Nat) (hx:x + n ≤ W) (hy:y + n ≤ H) (hn:1 ≤ n ∧ n ≤ 64) (N:Nat) (hN:N = n * n) :
  Calls Tryz.prog 132 #[.agg #[.int .i64 (W:Int),.int .i64 (H:Int),.slice A m c],.int .i64 (x:Int),.int .i64 (y:Int),.int .i64 (n:Int)] w (MadeU w N (sqL W pix x y n)):=by
 obtain ⟨harea,_,hW,_,hH,_⟩:=area_le h
 have hpl:=hin.1
 obtain ⟨b,off,hA,hb,hcell⟩:=hin.place (by omega)
 subst hA
 have HI:=Lib.hid (And.intro h (And.intro hm (And.intro hb hcell)))
 rw [← hm] at harea
 clear h hm hin hcell
 have h0:=(Sat.nil (fun _=>False) w)
 obtain ⟨hn1,hn2⟩:=hn
 have hNb:N ≤ 4096:=by rw [hN];exact Nat.le_trans (Nat.mul_le_mul hn2 hn2) (by omega)
 have hNi:wrap64 ((n:Int) * (n:Int)) = (N:Int):=by
  rw [show (n:Int) * (n:Int) = (N:Int) by rw [hN];simp]
  exact IntWalk.wrap64_in _ ⟨by omega,by omega⟩
 have HN:=Lib.hid (And.intro hN hNi)
 clear hN hNi
 have t1:decide ((n:Int) < 1) = false:=decide_eq_false (by omega)
 have t2:decide (64 < (n:Int)) = false:=decide_eq_false (by omega)
 go_enter Tryz.func132,Tryz.ntmps132
 go_wp2_with fail
 refine (pRight' _ W H (some ⟨b,off,none⟩) m c HI.out.1 HI.out.2.1).mono ?_
 rintro e w1 ⟨rfl,hm1⟩
 have HS:=Sat.after hm1 (h0.alloc _ _ rfl)
 clear hm1 h0
 have HH:=Lib.hid HS
 clear HS
 go_wp2_with (refine wpList_mk_u8 _ rfl (.tmp 26) (.tmp 26) rfl N (congrArg (Value.int .i64) HN.out.2) (congrArg (Value.int .i64) HN.out.2) (by omega) ?_;intro w3 hb3 hm3;have HO:=Lib.hid (And.intro hb3 hm3);clear hb3 hm3)
 have hq0:=HO.out.1
 rw [madeFill (sqF W pix x y n)] at hq0
 have hqs:w.heap.size + 1 ≤ w1.heap.size:=(HH.out.own_ 0 rfl).lt
 have HS3:=(HH.out.quiet HO.out.2).add_own (g:=w1.heap.size) hq0 (.inr (by omega)) (by
  intro e he
  have:=(HH.out.blk e he).lt
  omega)
 obtain ⟨q,hq⟩:∃ q,q = w1.heap.size:=⟨_,rfl⟩
 have hqw:w.heap.size ≤ q:=by omega
 rw [← hq] at HS3 ⊢
 obtain ⟨f,hf⟩:∃ f,f = sqF W pix x y n:=⟨_,rfl⟩
 rw [← hf] at HS3
 have HF:=Lib.hid hf
 clear hf hq hq0 hqs HO HH
 go_wp2_with fail
 go_loopw [29] (PbRel w q w.heap.size N n #[.int .i64 (W:Int),.int .i64 (H:Int),.slice (some ⟨b,off,none⟩) m c] f) (fun s _=>n - (intOf s).toNat)
 case atStart=>exact ⟨0,by omega,rfl,by rw [Nat.zero_mul];exact HS3⟩
 case round=>
  clear HS3
  obtain ⟨j,hj,rfl,HSj⟩:=hrel
  rename World=>w4
  obtain ⟨pc,pf⟩:=(HSj.own_ 1 rfl).both
  have HJ:=Lib.hid HSj
  clear HSj
  by_cases hlt:j < n
  ·have d1:decide ((j:Int) < (n:Int)) = true:=decide_eq_true (by omega)
   obtain ⟨m0,hm0⟩:∃ m0,m0 = j * n:=⟨_,rfl⟩
   have hmn:m0 + n ≤ N:=by
    rw [hm0,HN.out.1]
    have:=Nat.mul_le_mul_right n (show j + 1 ≤ n by omega)
    rw [Nat.add_mul,Nat.one_mul] at this
    exact this
   have hmw:wrap64 ((j:Int) * (n:Int)) = (m0:Int):=by
    rw [show (j:Int) * (n:Int) = (m0:Int) by rw [hm0];simp]
    exact IntWalk.wrap64_in _ ⟨by omega,by omega⟩
   obtain ⟨r,hr⟩:∃ r,r = (y + j) * W:=⟨_,rfl⟩
   have hrm:r + W ≤ m:=by
    rw [hr,HI.out.2.1]
    have:=Nat.mul_le_mul_right W (show y + j + 1 ≤ H by omega)
    rw [Nat.add_mul (y + j),Nat.one_mul,Nat.mul_comm H W] at this
    exact this
   have hrw:wrap64 (((y:Int) + (j:Int)) * (W:Int)) = (r:Int):=by
    rw [show ((y:Int) + (j:Int)) * (W:Int) = (r:Int) by rw [hr];simp]
    exact IntWalk.wrap64_in _ ⟨by omega,by omega⟩
   have HM:=Lib.hid (And.intro hm0 (And.intro hmw (And.intro hr hrw)))
   clear hm0 hmw hr hrw
   go_upto_region 7 with (fail)
   go_quiet ((go_at_call 189;exact Calls.quiet_of_same (quiet_pAhead _ y j H (by omega) (by omega) _)))
   have HJ2:=Lib.hid (HJ.out.drewN nq)
   clear pc pf HJ
   generalize w4.drewN nq = w5 at *
   go_wp2_with fail
   rw [HM.out.2.2.2]
   go_loopw [41] (PbRel2 w q w.heap.size N n j #[.int .i64 (W:Int),.int .i64 (H:Int),.slice (some ⟨b,off,none⟩) m c] f) (fun s _=>n - (intOf s).toNat)
   case atStart=>exact ⟨0,by omega,rfl,HJ2.out⟩
   case round=>
    clear HJ2
    rename World=>w6
    obtain ⟨i,hi,rfl,HSi⟩:=hrel
    by_cases hli:i < n
    ·have d2:decide ((i:Int) < (n:Int)) = true:=decide_eq_true (by omega)
     obtain ⟨pc,pf⟩:=(HSi.own_ 1 rfl).drew.both
     have hff:(f (j * n + i)) = pix.getD (r + (x + i)) 0:=by rw [HF.out,sqF_at _ _ _ _ _ _ _ hli,HM.out.2.2.1]
     have hkm:r + (x + i) < m:=by omega
     have hpc:w6.drew.cell? ⟨b,off + (r + (x + i)),none⟩ = some (.int .u8 ((pix.getD (r + (x + i)) 0).toNat:Int)):=(World.cell?_of_block (HSi.mod.drew.block b HI.out.2.2.1 (fun h=>h))).trans (HI.out.2.2.2 _ (by rw [← HI.out.2.1];exact hkm))
     rw [← hff] at hpc
     obtain ⟨k,hk⟩:∃ k,k = r + (x + i):=⟨_,rfl⟩
     have hkw:IntKind.i64.wrap ((r:Int) + ((x:Int) + (i:Int))) = (k:Int):=by rw [IntWalk.i64_in _ ⟨by omega,by omega⟩];omega
     rw [← hk] at hpc hkm
     have k0:(0:Int) ≤ (k:Int):=by omega
     have k1:(k:Int) < (m:Int):=by omega
     obtain ⟨z,hz⟩:∃ z,z = m0 + i:=⟨_,rfl⟩
     have hzw:IntKind.i64.wrap (IntKind.i64.wrap ((j:Int) * (n:Int)) + (i:Int)) = (z:Int):=by
      rw [show (j:Int) * (n:Int) = (m0:Int) by rw [HM.out.1];simp,IntWalk.i64_in (m0:Int) ⟨by omega,by omega⟩,IntWalk.i64_in _ ⟨by omega,by omega⟩];omega
     have z0:(0:Int) ≤ (z:Int):=by omega
     have z1:(z:Int) < (N:Int):=by omega
     have qf:=((HSi.own_ 0 rfl).drew).frozen
     have ql:=(HSi.own_ 0 rfl).drew.lt
     have q0:=fill_cell (HSi.own_ 0 rfl).drew (show j * n + i < N by rw [← HM.out.1,← hz];omega)
     rw [← HM.out.1,← hz] at q0
     have HG:=Lib.hid (And.intro HSi.drew (And.intro hkw (And.intro hzw (And.intro hk hz))))
     clear HSi hff hkw hzw hk hz
     go_upto_region 11 with (fail)
     refine wp_region_plan [18] [] [0,1,2,3,4,5,6,7,8,9,10,11,12,13,14,15,16,17,18] (by kernel_rfl) (by kernel_rfl) (fun _ _ _ d _ h=>by cases d <;> exact h) ?_
     have hzw:=HG.out.2.2.1
     have hkw:=HG.out.2.1
     iterate 13 (refine plan_still rfl rfl (fun K hK=>?_);go_simp;refine hK _ ?_;clear hK K)
     refine plan_still rfl rfl (fun K hK=>?_);go_simp;refine ⟨_,(pAhead _ x i W (by omega) (by omega)).mono (fun _ _ ⟨a,b⟩=>⟨a,b.symm⟩),hK _ ?_⟩;clear hK K
     iterate 4 (refine plan_still rfl rfl (fun K hK=>?_);go_simp;refine hK _ ?_;clear hK K)
     refine plan_loud rfl rfl (fun K hK=>?_);go_simp;refine hK _ _ ?_;clear hK K
     refine plan_done ?_
     clear hzw hkw
     go_wp2_with fail
     go_roundw
     case rel=>exact ⟨i + 1,by omega,by go_num,by
      have:=HG.out.1.put (Upd.here (fill_set f N (j * n + i)))
      rw [← HM.out.1,← HG.out.2.2.2.2] at this
      rw [← Nat.add_assoc,← HM.out.1,← HG.out.2.2.2.2]
      exact this⟩
     case measure=>simp [intOf];omega
    ·obtain rfl:i = n:=by omega
     have HG:=Lib.hid HSi
     clear HSi
     go_wp2_with fail
     go_roundw
     case rel=>exact ⟨j + 1,by omega,by go_num,by rw [Nat.add_mul,Nat.one_mul];exact HG.out⟩
     case measure=>simp [intOf];omega
  ·obtain rfl:j = n:=by omega
   go_wp2_with fail
   go_ret
   have hb:=HJ.out.own_ 0 rfl
   rw [show (j * j) = N from HN.out.1.symm,fillL_all,HF.out] at hb
   refine ⟨q,rfl,?_,hqw,HJ.out.mod⟩
   unfold sqL
   rw [← HN.out.1]
   exact hb
end Go.Proofs.YtmkopcojnibhlaaGreatDoor

