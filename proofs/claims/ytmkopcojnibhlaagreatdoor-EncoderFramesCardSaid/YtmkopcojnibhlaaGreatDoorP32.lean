/-
  The reference's book: a bit is put.
-/
import Derived.Test.YtmkopcojnibhlaaGreatDoorP31
import Derived.Test.YtmkopcojnibhlaaGreatDoorP11
import Derived.Test.YtmkopcojnibhlaaGreatDoorP0
import Derived.Test.YtmkopcojnibhlaaGreatDoorP1
import Derived.Test.YtmkopcojnibhlaaGreatDoorP12
namespace Go.Proofs.YtmkopcojnibhlaaGreatDoor
open Go.RowKit
set_option maxRecDepth 100000
set_option maxHeartbeats 8000000
structure REb (w:World) (bk g:Nat) (v:Value) (s:Es):Prop where
 bk_:Blk w bk 177 (n64s s.ch).toArray
 len:s.ch.length = 592
 ok:∀ i,i < 592 → chanceOk (s.ch.getD i 0) = true
 enc:REAt w g v s.code s.wide
theorem REb.quiet {w w':World} {bk g:Nat} {v:Value} {s:Es} (h:REb w bk g v s) (hm:Mod (fun _=>False) w w'):REb w' bk g v s:=⟨h.bk_.keep hm (fun h=>h),h.len,h.ok,h.enc.quiet hm⟩
def REbGo (w:World) (bk g:Nat) (v:Value) (s':Es) (w':World):Prop:=
 ∃ v',REb w' bk g v' s' ∧ (∀ j,v'.ownBlock = some j → v.ownBlock = some j ∨ w.heap.size ≤ j) ∧ Mod (fun j=>j = g ∨ j = bk ∨ v.ownBlock = some j) w w'
theorem REb.apart {w:World} {bk g:Nat} {v:Value} {s:Es} (h:REb w bk g v s):g ≠ bk ∧ ¬ v.ownBlock = some bk:=
 ⟨h.enc.blk.ne_ h.bk_ (by decide),h.enc.own.apart h.bk_ (by decide)⟩
theorem REbGo.trans {w w1 w2:World} {bk g:Nat} {v v1:Value} {s2:Es} (hF:∀ j,v1.ownBlock = some j → v.ownBlock = some j ∨ w.heap.size ≤ j) (hM:Mod (fun j=>j = g ∨ j = bk ∨ v.ownBlock = some j) w w1) (k:REbGo w1 bk g v1 s2 w2):REbGo w bk g v s2 w2:=by
 obtain ⟨v2,h2,hF2,hM2⟩:=k
 refine ⟨v2,h2,fun j e=>?_,hM.into hM2 (fun j e=>?_)⟩
 ·rcases hF2 j e with e | e
  ·exact hF j e
  ·exact .inr (Nat.le_trans hM.size e)
 ·rcases e with e | e | e
  ·exact .inl (.inl e)
  ·exact .inl (.inr (.inl e))
  ·rcases hF j e with e | e
   ·exact .inl (.inr (.inr e))
   ·exact .inr e
theorem n64_cell {s:List Nat} {i:Nat} (hi:i < s.length):(n64s s).toArray[i]? = some (.int .i64 ((s.getD i 0:Nat):Int)):=by
 simp [n64s,List.getD_eq_getElem?_getD,hi]
theorem n64_set (s:List Nat) (i x:Nat):(n64s s).toArray.setIfInBounds i (.int .i64 (x:Int)) = (n64s (s.set i x)).toArray:=by
 simp [n64s,List.map_set]
theorem rbPut_at (w:World) (bk g:Nat) (v:Value) (s:Es) (t i bit:Nat) (ht:t < 16) (hi:i < 37) (hbit:bit ≤ 1) (h:REb w bk g v s) (hl:s.code.length ≤ 1048575) :
  Calls Tryz.prog 159 #[.pointer (some ⟨bk,0,none⟩),.pointer (some ⟨g,0,none⟩),.int .i64 (t:Int),.int .i64 (i:Int),.int .u8 (bit:Int)] w fun e w'=>e = .returned (.tuple #[]) ∧ REbGo w bk g v (eputAt s (t * 37 + i) bit) w':=by
 obtain ⟨k,hk⟩:∃ k,k = t * 37 + i:=⟨_,rfl⟩
 have hkl:k < 592:=by omega
 rw [← hk]
 have hgb:=h.apart
 obtain ⟨c,hc⟩:∃ c,c = s.ch.getD k 0:=⟨_,rfl⟩
 have hok:=h.ok k hkl
 rw [← hc] at hok
 have hcell:w.cell? ⟨bk,k,none⟩ = some (.int .i64 (c:Int)):=by rw [h.bk_.cell,n64_cell (by rw [h.len];exact hkl),hc]
 rw [hk] at hcell
 have HPT:=Lib.hid (rePut w g v s.code s.wide c bit h.enc hl hok hbit)
 have H:=Lib.hid (And.intro h (And.intro hk (And.intro hc (And.intro hok hgb))))
 have p1:(t:Int) < 16:=by omega
 have p2:(i:Int) < 37:=by omega
 have hc65:c ≤ 2017:=by unfold chanceOk at hok;rw [decide_eq_true_eq] at hok;exact hok.2
 clear h hk hgb hc hok
 go_enter Tryz.func159,Tryz.ntmps159
 go_wp2_with fail
 refine HPT.out.mono ?_
 rintro e w1 ⟨v1,rfl,hE,hF,hM⟩
 have hne:¬ (bk = g ∨ v.ownBlock = some bk):=by
  rintro (e | e)
  ·exact H.out.2.2.2.2.1 e.symm
  ·exact H.out.2.2.2.2.2 e
 have hb1:=H.out.1.bk_.keep hM hne
 have hc1:w1.cell? ⟨bk,t * 37 + i,none⟩ = some (.int .i64 (c:Int)):=by
  rw [hb1.cell,← H.out.2.1,n64_cell (by rw [H.out.1.len];exact hkl),H.out.2.2.1]
 have hf1:=hb1.frozen (t * 37 + i)
 have hl1:=hb1.lt
 have H1:=Lib.hid (And.intro hE (And.intro hF (And.intro hM hb1)))
 clear hE hF hM hne hb1 hcell
 have N1:=fun w=>fNext w c bit hbit H.out.2.2.2.1
 have ew:IntKind.i64.wrap (bit:Int) = (bit:Int):=IntWalk.i64_in _ ⟨by omega,by omega⟩
 have N1:∀ w,Calls Tryz.prog 221 #[.int .i64 (c:Int),.int .i64 (IntKind.i64.wrap (bit:Int))] w fun e w'=>e = .returned (.int .i64 ((cnext c bit:Nat):Int)) ∧ w = w':=by rw [ew];exact N1
 have N0:=Lib.hid N1
 clear N1 ew
 have q1:w1.drew.cell? ⟨bk,t * 37 + i,none⟩ = some (.int .i64 (c:Int)):=hc1
 have gf:w1.drew.frozen? ⟨bk,t * 37 + i,none⟩ = false:=hf1
 have gl:bk < w1.drew.heap.size:=hl1
 clear hc1 hf1 hl1
 go_upto_region 3 with (fail)
 refine wp_region_planS [18] [] (0 :: 1 :: 2 :: 3 :: 4 :: 5 :: 6 :: 7 :: 8 :: 9 :: 10 :: 11 :: 12 :: 13 :: 14 :: 15 :: 16 :: 17 :: 18 :: []) (fun _=>True) (by kernel_rfl) (by kernel_rfl) (fun _ _ _ d _ h=>by cases d <;> exact h) trivial ?_
 iterate 13 (refine planS_still rfl rfl (fun K hK=>?_);go_simp;refine hK _ ?_;clear hK K)
 refine planS_still rfl rfl (fun K hK=>?_)
 go_simp
 refine ⟨_,(N0.out _).mono (fun _ _ ⟨a,b⟩=>⟨a,b.symm⟩),hK _ ?_⟩
 clear hK K
 iterate 4 (refine planS_still rfl rfl (fun K hK=>?_);go_simp;refine hK _ ?_;clear hK K)
 refine planS_loud rfl rfl (fun K hK=>?_)
 go_simp
 refine hK _ _ trivial ?_
 clear hK K
 refine planS_done ?_
 go_wp2_with fail
 go_end0
 have hok2:=eputAt_ok (bit:=bit) H.out.1.len H.out.1.ok hkl
 have hm2:Mod (· = bk) w1 (w1.drew.setCell ⟨bk,t * 37 + i,none⟩ (.int .i64 ((cnext c bit:Nat):Int))):=(Mod.refl (fun j=>j = bk) w1).drew.setCell (p:=⟨bk,t * 37 + i,none⟩) (.inl rfl) _
 have hb2:=H1.out.2.2.2.drew.put (i:=t * 37 + i) (u:=.int .i64 ((cnext c bit:Nat):Int)) rfl
 rw [n64_set,← H.out.2.1] at hb2
 rw [← H.out.2.1] at hm2 ⊢
 have hgw:g ≠ bk:=H.out.2.2.2.2.1
 refine ⟨rfl,v1,⟨?_,hok2.1,hok2.2,?_⟩,H1.out.2.1,?_⟩
 ·unfold eputAt
  rw [← H.out.2.2.1]
  exact hb2
 ·have hE:=H1.out.1
  have e1:(eputAt s k bit).code = (eput s.code s.wide c bit).1:=by rw [H.out.2.2.1];rfl
  have e2:(eputAt s k bit).wide = (eput s.code s.wide c bit).2:=by rw [H.out.2.2.1];rfl
  rw [e1,e2]
  exact ⟨hE.blk.keep hm2 hgw,hE.own.mod hm2 (fun j e e2=>hE.own.apart H1.out.2.2.2 (by decide) (e2 ▸ e)),hE.four,hE.lo,hE.hi⟩
 ·exact (H1.out.2.2.1.mono (fun j e=>e.imp id .inr)).into hm2 (fun j e=>.inl (.inr (.inl e)))
theorem rbPut_even (w:World) (bk g:Nat) (v:Value) (s:Es) (t:Int) (bit:Nat) (hbit:bit ≤ 1) (h:REb w bk g v s) (hl:s.code.length ≤ 1048575) :
  Calls Tryz.prog 159 #[.pointer (some ⟨bk,0,none⟩),.pointer (some ⟨g,0,none⟩),.int .i64 t,.int .i64 (-1),.int .u8 (bit:Int)] w fun e w'=>e = .returned (.tuple #[]) ∧ REbGo w bk g v (eputEven s bit) w':=by
 have hgb:=h.apart
 have HPT:=Lib.hid (rePut w g v s.code s.wide 1024 bit h.enc hl (by decide) hbit)
 have H:=Lib.hid (And.intro h hgb)
 clear h hgb
 go_enter Tryz.func159,Tryz.ntmps159
 go_wp2_with fail
 refine HPT.out.mono ?_
 rintro e w1 ⟨v1,rfl,hE,hF,hM⟩
 have hne:¬ (bk = g ∨ v.ownBlock = some bk):=by
  rintro (e | e)
  ·exact H.out.2.1 e.symm
  ·exact H.out.2.2 e
 have H1:=Lib.hid (And.intro hE (And.intro hF (And.intro hM (H.out.1.bk_.keep hM hne))))
 clear hE hF hM hne
 go_wp2_with fail
 refine bodyPost_ret (v:=.tuple #[]) (by simp [results,Tryz.results159,go_sem]) rfl ?_
 exact ⟨rfl,v1,⟨H1.out.2.2.2,H.out.1.len,H.out.1.ok,H1.out.1⟩,H1.out.2.1,H1.out.2.2.1.mono (fun j e=>e.imp id .inr)⟩
def numL (l:List UInt8):Nat:=l.foldl (fun v b=>2 * v + b.toNat) 0
theorem numL_take (l:List UInt8) (k:Nat) (hk:k < l.length):numL (l.take (k + 1)) = 2 * numL (l.take k) + (l.getD k 0).toNat:=by
 rw [List.take_succ_eq_append_getElem hk,List.getD_eq_getElem?_getD,List.getElem?_eq_getElem hk]
 simp only [numL,List.foldl_append,List.foldl_cons,List.foldl_nil,Option.getD_some]
theorem numL_lt (l:List UInt8) (h1:∀ b ∈ l,b.toNat ≤ 1):∀ k,k ≤ l.length → numL (l.take k) < 2 ^ k:=by
 intro k
 induction k with
 | zero=>intro _;simp [numL]
 | succ k ih=>
  intro hk
  rw [numL_take l k (by omega),Nat.pow_succ]
  have h2:=ih (by omega)
  have h3:(l.getD k 0).toNat ≤ 1:=by
   rw [List.getD_eq_getElem?_getD,List.getElem?_eq_getElem (show k < l.length by omega)]
   exact h1 _ (List.getElem_mem _)
  omega
def numRel (l:List UInt8) (v i:Value):Prop:=∃ k:Nat,k ≤ l.length ∧ i = .int .i64 (k:Int) ∧ v = .int .u64 (numL (l.take k):Int)
theorem refNumber (w:World) (A:Option Addr) (n c:Nat) (l:List UInt8) (hin:BytesIn w A n c l) (hn:n ≤ 64) (h1:∀ b ∈ l,b.toNat ≤ 1):Calls Tryz.prog 161 #[.slice A n c] w fun e w'=>e = .returned (.int .u64 (numL l:Int)) ∧ w = w':=by
 obtain rfl:l.length = n:=hin.1
 go_enter Tryz.func161,Tryz.ntmps161
 go_wp2_with fail
 go_loop [3,4] (numRel l) (fun _ i=>l.length - (intOf i).toNat)
 case atStart=>exact ⟨0,by omega,rfl,by simp [numL]⟩
 case round=>
  obtain ⟨k,hk,rfl,rfl⟩:=hrel
  by_cases hlt:k < l.length
  ·obtain ⟨b,off,hA,hb,hcell⟩:=hin.place (by omega)
   subst hA
   have c1:w.cell? ⟨b,off + k,none⟩ = some (.int .u8 ((l.getD k 0).toNat:Int)):=hcell k hlt
   clear hcell hin
   have hx:(l.getD k 0).toNat ≤ 1:=by
    rw [List.getD_eq_getElem?_getD,List.getElem?_eq_getElem (show k < l.length by omega)]
    exact h1 _ (List.getElem_mem _)
   have hsucc:=numL_take l k hlt
   have hlen:=numL_lt l h1 k hk
   have h63:2 ^ k ≤ 2 ^ 63:=Nat.pow_le_pow_right (by omega) (by omega)
   have hy:numL (l.take k) < 9223372036854775808:=by simp only [Nat.reducePow] at h63;omega
   generalize (l.getD k 0).toNat = x at *
   generalize numL (l.take k) = y at *
   have d1:decide ((k:Int) < (l.length:Int)) = true:=decide_eq_true (by omega)
   have HH:=Lib.hid hsucc
   clear hsucc hlen h63
   go_wp2_with fail
   exact ⟨⟨k + 1,by omega,by go_num,by rw [HH.out];simp⟩,by simp [intOf];omega⟩
  ·obtain rfl:k = l.length:=by omega
   rw [List.take_length]
   go_wp2_with fail
   go_ret
   exact ⟨rfl,rfl⟩
def placeI (i a:Nat):Int:=if i < 4 then ((atIdx i a:Nat):Int) else -1
theorem fPlaceA (w:World) (i a:Nat) (hi:i < 1048576) (ha:a < 1048576):Calls Tryz.prog 160 #[.int .i64 (i:Int),.int .i64 (a:Int)] w fun e w'=>e = .returned (.int .i64 (placeI i a)) ∧ w = w':=by
 unfold placeI
 by_cases h:i < 4
 ·rw [if_pos h]
  exact fPlace w i a h ha
 ·rw [if_neg h]
  exact fPlace4 w i a (by omega) hi
theorem rbTopic (w:World) (t:Nat) (ht:t < 16):Calls Tryz.prog 157 #[.int .i64 (t:Int)] w fun e w'=>e = .returned (.bool true) ∧ w = w':=by
 have d1:decide ((t:Int) < 16) = true:=decide_eq_true (by omega)
 go_enter Tryz.func157,Tryz.ntmps157
 go_wp2_with fail
 go_ret
 exact ⟨rfl,rfl⟩
theorem rbSlow (w:World) (bk g:Nat) (v:Value) (s:Es) (t i a bit:Nat) (ht:t < 16) (ha:a < 2 ^ i) (hbit:bit ≤ 1) (h:REb w bk g v s) (hl:s.code.length ≤ 1048575) :
  Calls Tryz.prog 159 #[.pointer (some ⟨bk,0,none⟩),.pointer (some ⟨g,0,none⟩),.int .i64 (t:Int),.int .i64 (placeI i a),.int .u8 (bit:Int)] w fun e w'=>e = .returned (.tuple #[]) ∧ REbGo w bk g v (eslow s t i a bit) w':=by
 unfold placeI eslow
 by_cases hi:i < 4
 ·rw [if_pos hi,if_pos hi]
  have h4:i = 0 ∨ i = 1 ∨ i = 2 ∨ i = 3:=by omega
  have hx:atIdx i a < 37:=by
   unfold atIdx
   rcases h4 with rfl | rfl | rfl | rfl <;> simp only [Nat.reducePow] at ha ⊢ <;> omega
  exact rbPut_at w bk g v s t _ bit ht hx hbit h hl
 ·rw [if_neg hi,if_neg hi]
  exact rbPut_even w bk g v s t bit hbit h hl
theorem digitsL_getD (x:Nat):∀ (n i:Nat),i < n → ((digitsL x n).getD i 0).toNat = x / 2 ^ (n - 1 - i) % 2:=by
 intro n
 induction n with
 | zero=>intro i h;omega
 | succ n ih=>
  intro i hi
  unfold digitsL
  cases i with
  | zero=>
   rw [List.getD_cons_zero,UInt8.toNat_ofNat',show n + 1 - 1 - 0 = n by omega]
   omega
  | succ i=>
   rw [List.getD_cons_succ,ih i (by omega),show n + 1 - 1 - (i + 1) = n - 1 - i by omega]
theorem digitsL_bits (x n:Nat):∀ b ∈ digitsL x n,b.toNat ≤ 1:=by
 intro b hb
 obtain ⟨i,hi,rfl⟩:=List.mem_iff_getElem.1 hb
 have h:=digitsL_getD x n i (by rw [digitsL_length] at hi;exact hi)
 rw [List.getD_eq_getElem?_getD,List.getElem?_eq_getElem hi] at h
 simp only [Option.getD_some] at h
 omega
theorem digitsL_num (x n i:Nat) (hi:i < n):numL ((digitsL x n).take (i + 1)) = 2 * numL ((digitsL x n).take i) + x / 2 ^ (n - 1 - i) % 2:=by
 rw [numL_take _ i (by rw [digitsL_length];exact hi),digitsL_getD x n i hi]
def RLowRel (w:World) (bk g:Nat) (v:Value) (t x n:Nat) (tg:Es) (B r c:Nat) (v14:Value) (wr:World):Prop:=
 ∃ (i:Nat) (s:Es) (v1:Value),i ≤ n ∧ v14 = .int .i64 (i:Int) ∧ REb wr bk g v1 s ∧ elow t x (n - i) i (numL ((digitsL x n).take i)) s = tg ∧ s.code.length + (n - i) ≤ 1048576 ∧ (0 < n → Bytes wr B (.slice (some ⟨r,0,none⟩) n c) (digitsL x n)) ∧ w.heap.size ≤ B ∧
  (∀ j,v1.ownBlock = some j → (v.ownBlock = some j ∨ w.heap.size ≤ j) ∧ j ≠ r) ∧ Mod (fun j=>j = g ∨ j = bk ∨ v.ownBlock = some j) w wr
def WRel (v3 v4:Value):Prop:=(v3 = .int .i64 0 ∧ (v4 = .int .i64 2 ∨ v4 = .int .i64 3)) ∨ (v3 = .int .i64 1 ∧ v4 = .int .i64 1) ∨ (v3 = .int .i64 2 ∧ v4 = .int .i64 0)
theorem rbWidth (w:World) (n:Nat) (hn:n = 3 ∨ n = 4):Calls Tryz.prog 158 #[.int .i64 (n:Int)] w fun e w'=>e = .returned (.int .i64 2) ∧ w = w':=by
 rcases hn with rfl | rfl
 all_goals
  go_enter Tryz.func158,Tryz.ntmps158
  go_wp2_with fail
  go_loop [3,4] WRel (fun _ v=>(intOf v).toNat)
  case atStart=>exact .inl ⟨rfl,by first | exact .inl rfl | exact .inr rfl⟩
  case round=>
   rcases hrel with ⟨rfl,rfl | rfl⟩ | ⟨rfl,rfl⟩ | ⟨rfl,rfl⟩
   ·go_wp2_with fail
    exact ⟨.inr (.inl ⟨rfl,rfl⟩),by decide⟩
   ·go_wp2_with fail
    exact ⟨.inr (.inl ⟨rfl,rfl⟩),by decide⟩
   ·go_wp2_with fail
    exact ⟨.inr (.inr ⟨rfl,rfl⟩),by decide⟩
   ·go_wp2_with fail
    go_ret
    exact ⟨rfl,rfl⟩
theorem rbOne (w:World) (bk g:Nat) (v:Value) (s:Es) (t n x:Nat) (ht:t < 16) (hn:n = 3 ∨ n = 4) (hx:x < n) (h:REb w bk g v s) (hl:s.code.length + 43 ≤ 1048576) :
  Calls Tryz.prog 101 #[.pointer (some ⟨bk,0,none⟩),.pointer (some ⟨g,0,none⟩),.int .i64 (t:Int),.int .i64 (n:Int),.int .i64 (x:Int)] w fun e w'=>e = .returned (.int .i64 0) ∧ REbGo w bk g v (elow t x 2 0 0 s) w':=by
 have p0:decide ((x:Int) < 0) = false:=decide_eq_false (by omega)
 have p1:decide ((n:Int) ≤ (x:Int)) = false:=decide_eq_false (by omega)
 have p2:decide ((n:Int) < 1) = false:=decide_eq_false (by omega)
 have p3:decide (16 < (n:Int)) = false:=decide_eq_false (by omega)
 have xw:IntKind.u64.wrap (x:Int) = (x:Int):=IntWalk.u64_in _ ⟨by omega,by omega⟩
 have HW:=Lib.hid (fun w=>rbWidth w n hn)
 have HD:=Lib.hid (fun w=>refDigits w x 2 (by omega) (by omega))
 have H:=Lib.hid h
 have hx4:x ≤ 3:=by omega
 have hn4:n ≤ 4:=by omega
 obtain ⟨tg,htg⟩:∃ tg,tg = elow t x 2 0 0 s:=⟨_,rfl⟩
 rw [← htg]
 have HTG:=Lib.hid htg
 clear h htg hn
 go_enter Tryz.func101,Tryz.ntmps101
 go_wp2_with fail
 refine (rbTopic _ t ht).mono ?_
 rintro e w1 ⟨rfl,rfl⟩
 go_wp2_with fail
 refine (HW.out _).mono ?_
 rintro e w1 ⟨rfl,rfl⟩
 go_wp2_with fail
 refine (HD.out _).mono ?_
 rintro e w2 ⟨sl,rfl,hB,hm2⟩
 obtain ⟨A,c,rfl⟩:=own_shape hB
 obtain ⟨r,rfl,hrc⟩:=hB.some_ (by rw [digitsL_length];omega)
 rw [digitsL_length] at hB hrc ⊢
 have hwr:=hB.low
 have H2:=Lib.hid (And.intro hB hm2)
 clear hB hm2
 go_wp2_with fail
 go_loopw [13] (RLowRel w bk g v t x 2 tg w.heap.size r c) (fun i _=>2 - (intOf i).toNat)
 case atStart=>exact ⟨0,s,v,by omega,rfl,H.out.quiet H2.out.2,by rw [HTG.out];rfl,by omega,fun _=>H2.out.1,Nat.le_refl _,fun j hj=>⟨.inl hj,fun e=>by have:=(H.out.enc.own.lt j hj).2;omega⟩,H2.out.2.mono (fun _ h=>h.elim)⟩
 case round=>
  rename World=>wr
  obtain ⟨i,s1,v1,hi,rfl,hE,htg,hlen,hB0,hwB,hF,hM⟩:=hrel
  by_cases hlt:i < 2
  ·have d1:decide ((i:Int) < (2:Int)) = true:=decide_eq_true (by omega)
   have hB:=hB0 (by omega)
   obtain ⟨bit,hbit⟩:∃ bit,bit = x / 2 ^ (2 - 1 - i) % 2:=⟨_,rfl⟩
   have hb1:bit ≤ 1:=by omega
   obtain ⟨a,ha⟩:∃ a,a = numL ((digitsL x 2).take i):=⟨_,rfl⟩
   have hal:a < 2 ^ i:=by rw [ha];exact numL_lt _ (digitsL_bits x 2) i (by rw [digitsL_length];omega)
   have ha2:a < 1048576:=Nat.lt_of_lt_of_le hal (by have:=Nat.pow_le_pow_right (show 0 < 2 by omega) (show i ≤ 20 by omega);omega)
   have hcl:wr.drew.cell? ⟨r,i,none⟩ = some (.int .u8 (bit:Int)):=by
    have:=hB.cell i (by rw [digitsL_length];omega)
    rw [digitsL_getD x 2 i (by omega),← hbit] at this
    exact this
   have hgr:g ≠ r:=fun e=>hB.ne_ hE.enc.blk (by decide) e.symm
   have hbr:bk ≠ r:=fun e=>hB.ne_ hE.bk_ (by decide) e.symm
   have hrl:=hB.low.2
   have N0:=refNumber wr.drew (some ⟨r,0,none⟩) i c ((digitsL x 2).take i) ((hB.quiet ((Mod.refl _ wr).drew)).take i (by rw [digitsL_length];omega)).in_ (by omega) (fun b hb=>digitsL_bits x 2 b (List.mem_of_mem_take hb))
   rw [← ha] at N0
   have P0:Calls Tryz.prog 160 #[.int .i64 (i:Int),.int .i64 (IntKind.i64.wrap (a:Int))] wr.drew fun e w'=>e = .returned (.int .i64 (placeI i a)) ∧ wr.drew = w':=by
    rw [IntWalk.i64_in (a:Int) ⟨by omega,by omega⟩]
    exact fPlaceA _ i a (by omega) ha2
   have S0:=rbSlow wr.drew bk g v1 s1 t i a bit ht hal hb1 (hE.quiet ((Mod.refl _ wr).drew)) (by omega)
   rw [show 2 - i = (2 - 1 - i) + 1 by omega] at htg hlen
   unfold elow at htg
   rw [← hbit,← ha] at htg
   have hnx:numL ((digitsL x 2).take (i + 1)) = 2 * a + bit:=by rw [digitsL_num x 2 i (by omega),← ha,← hbit]
   have hic:(i:Int) ≤ (c:Int):=by omega
   have p9:(i:Int) < (2:Int):=by omega
   have HR:=Lib.hid (And.intro hE (And.intro htg (And.intro hlen (And.intro hB (And.intro hwB (And.intro hF (And.intro hM (And.intro hnx (And.intro N0 (And.intro P0 S0))))))))))
   clear hE htg hlen hB hB0 hwB hF hM hnx N0 P0 S0 ha hbit hal ha2
   go_upto_region 8 with (fail)
   refine wp_region_planS [14] [] (0 :: 1 :: 2 :: 3 :: 4 :: 5 :: 6 :: 7 :: 8 :: 9 :: 10 :: 11 :: 12 :: 13 :: 14 :: []) (fun _=>True) (by kernel_rfl) (by kernel_rfl) (fun _ _ _ d _ h=>by cases d <;> exact h) trivial ?_
   iterate 7 (refine planS_still rfl rfl (fun K hK=>?_);go_simp;refine hK _ ?_;clear hK K)
   refine planS_still rfl rfl (fun K hK=>?_)
   go_simp
   refine ⟨_,(HR.out.2.2.2.2.2.2.2.2.1).mono (fun _ _ ⟨a,b⟩=>⟨a,b.symm⟩),hK _ ?_⟩
   clear hK K
   refine planS_still rfl rfl (fun K hK=>?_);go_simp;refine hK _ ?_;clear hK K
   refine planS_still rfl rfl (fun K hK=>?_)
   go_simp
   refine ⟨_,(HR.out.2.2.2.2.2.2.2.2.2.1).mono (fun _ _ ⟨a,b⟩=>⟨a,b.symm⟩),hK _ ?_⟩
   clear hK K
   iterate 4 (refine planS_still rfl rfl (fun K hK=>?_);go_simp;refine hK _ ?_;clear hK K)
   refine planS_loud rfl rfl (fun K hK=>?_)
   go_simp
   refine (HR.out.2.2.2.2.2.2.2.2.2.2).mono ?_
   rintro e w5 ⟨rfl,v5,hE5,hF5,hM5⟩
   have H5:=Lib.hid (And.intro hE5 (And.intro hF5 hM5))
   clear hE5 hF5 hM5
   dsimp only []
   refine hK _ _ trivial ?_
   clear hK K
   refine planS_done ?_
   clear hcl
   go_wp2_with fail
   go_roundw
   case rel=>
    have hmd:Mod (fun j=>j = g ∨ j = bk ∨ v1.ownBlock = some j) wr w5:=((Mod.refl _ wr).drew).trans H5.out.2.2
    have hsz:=HR.out.2.2.2.2.2.2.1.size
    have hEl:=eslow_len s1 t i a bit
    refine ⟨i + 1,eslow s1 t i a bit,v5,by omega,by go_num,H5.out.1,?_,by have:=HR.out.2.2.1;omega,fun _=>HR.out.2.2.2.1.mod hmd (fun j hj=>?_),HR.out.2.2.2.2.1,fun j hj=>?_,HR.out.2.2.2.2.2.2.1.into hmd (fun j hj=>?_)⟩
    ·rw [HR.out.2.2.2.2.2.2.2.1,show 2 - (i + 1) = 2 - 1 - i by omega]
     exact HR.out.2.1
    ·simp only [Value.ownBlock,Option.some.injEq] at hj
     subst hj
     rintro (h | h | h)
     ·exact hgr h.symm
     ·exact hbr h.symm
     ·exact (HR.out.2.2.2.2.2.1 _ h).2 rfl
    ·rcases H5.out.2.1 j hj with h | h
     ·exact HR.out.2.2.2.2.2.1 j h
     ·have h2:wr.heap.size ≤ j:=h
      exact ⟨.inr (Nat.le_trans hsz h2),by omega⟩
    ·rcases hj with h | h | h
     ·exact .inl (.inl h)
     ·exact .inl (.inr (.inl h))
     ·rcases (HR.out.2.2.2.2.2.1 j h).1 with h | h
      ·exact .inl (.inr (.inr h))
      ·exact .inr h
   case measure=>simp [intOf];omega
  ·obtain rfl:i = 2:=by omega
   have d1:decide ((2:Int) < (2:Int)) = false:=decide_eq_false (by omega)
   have Hx:=Lib.hid (And.intro hE (And.intro htg (And.intro hF hM)))
   clear hE htg hF hM hB0
   go_wp2_with fail
   go_ret
   refine ⟨rfl,v1,?_,fun j hj=>(Hx.out.2.2.1 j hj).1,Hx.out.2.2.2⟩
   have h1:=Hx.out.2.1
   have h2:=Hx.out.1
   rw [← h1]
   exact h2
theorem blen_zero:blen 0 = 0:=rfl
def RNumRel (N:Nat) (v10 v11:Value):Prop:=∃ n k:Nat,n + blen k = N ∧ k ≤ 1048577 ∧ n ≤ 21 ∧ v10 = .int .i64 (n:Int) ∧ v11 = .int .i64 (k:Int)
def RLenRel (w:World) (bk g:Nat) (v:Value) (t n:Nat) (tg:Es) (v12:Value) (wr:World):Prop:=
 ∃ (i:Nat) (s:Es) (v1:Value),i ≤ n ∧ v12 = .int .i64 (i:Int) ∧ REb wr bk g v1 s ∧ elens t (n - i) i s = tg ∧ s.code.length + (n - i) + 22 ≤ 1048576 ∧
  (∀ j,v1.ownBlock = some j → v.ownBlock = some j ∨ w.heap.size ≤ j) ∧ Mod (fun j=>j = g ∨ j = bk ∨ v.ownBlock = some j) w wr
def RStop (w:World) (bk g:Nat) (v:Value) (s':Es) (wr:World):Prop:=s'.code.length + 20 ≤ 1048576 ∧ REbGo w bk g v s' wr
theorem rbNum (w:World) (bk g:Nat) (v:Value) (s:Es) (t x:Nat) (ht:t < 16) (hx:x ≤ 1048576) (h:REb w bk g v s) (hl:s.code.length + 43 ≤ 1048576) :
  Calls Tryz.prog 162 #[.pointer (some ⟨bk,0,none⟩),.pointer (some ⟨g,0,none⟩),.int .i64 (t:Int),.int .i64 (x:Int)] w fun e w'=>e = .returned (.int .i64 0) ∧ REbGo w bk g v (enum t x s) w':=by
 have p0:decide ((x:Int) < 0) = false:=decide_eq_false (by omega)
 have p1:decide (1048576 < (x:Int)) = false:=decide_eq_false (by omega)
 have hN1:1 ≤ blen (x + 1):=blen_pos (by omega)
 have hN2:blen (x + 1) ≤ 21:=blen_pw (by omega)
 have HG:Hid (enum t x s = elow t (x + 1) (blen (x + 1) - 1) 0 0 (estop t (blen (x + 1)) (elens t (blen (x + 1) - 1) 0 s))):=rfl
 obtain ⟨tg,htg⟩:∃ tg,tg = enum t x s:=⟨_,rfl⟩
 rw [← htg] at HG ⊢
 clear htg
 obtain ⟨N,hN⟩:∃ N,N = blen (x + 1):=⟨_,rfl⟩
 have HNN:=Lib.hid hN
 rw [← hN] at HG hN1 hN2
 clear hN
 have H:=Lib.hid h
 clear h
 go_enter Tryz.func162,Tryz.ntmps162
 go_wp2_with fail
 refine (rbTopic _ t ht).mono ?_
 rintro e w1 ⟨rfl,rfl⟩
 go_wp2_with fail
 rename World=>w
 go_loop [10,11] (RNumRel N) (fun _ k=>(intOf k).toNat)
 case atStart=>exact ⟨0,x + 1,by rw [Nat.zero_add];exact HNN.out.symm,by omega,by omega,rfl,by go_num⟩
 case round=>
  obtain ⟨n,k,hnk,hk,hn,rfl,rfl⟩:=hrel
  by_cases hk0:0 < k
  ·have d1:decide (0 < (k:Int)) = true:=decide_eq_true (by omega)
   have hh:=blen_half k hk0
   have hp:=blen_pos hk0
   obtain ⟨k2,hk2⟩:∃ k2,k2 = k / 2:=⟨_,rfl⟩
   rw [← hk2] at hh
   have t1:(k:Int) / 2 = (k2:Int):=by omega
   have HH:=Lib.hid (And.intro hh (And.intro hnk t1))
   clear hh hnk t1
   go_wp2_with fail
   refine ⟨⟨n + 1,k2,by have:=HH.out.1;have:=HH.out.2.1;omega,by omega,by have:=HH.out.2.1;omega,by go_num,by rw [HH.out.2.2]⟩,?_⟩
   simp only [intOf]
   omega
  ·obtain rfl:k = 0:=by omega
   rw [blen_zero] at hnk
   obtain rfl:n = N:=by omega
   have d1:decide (0 < ((0:Nat):Int)) = false:=by decide
   clear hnk hk hk0
   obtain ⟨m,hm⟩:∃ m,n = m + 1:=⟨n - 1,by omega⟩
   have en:(n:Int) - 1 = (m:Int):=by omega
   have hml:m ≤ 20:=by omega
   have HMM:=Lib.hid hm
   rw [show n - 1 = m by omega] at HG
   obtain ⟨t2,ht2⟩:∃ t2,t2 = elens t m 0 s:=⟨_,rfl⟩
   rw [← ht2] at HG
   have HT2:=Lib.hid ht2
   have hl2:=elens_len t m 0 s
   rw [← ht2] at hl2
   obtain ⟨hl3,hl4⟩:=hl2
   clear hm ht2
   go_wp2_with fail
   go_loopw [12] (RLenRel w bk g v t m t2) (fun i _=>m - (intOf i).toNat)
   case atStart=>exact ⟨0,s,v,by omega,rfl,H.out,by rw [HT2.out];rfl,by omega,fun _ e=>.inl e,Mod.refl _ _⟩
   case round=>
    rename World=>wr
    obtain ⟨i,s1,v1,hi,rfl,hE,htg,hlen,hF,hM⟩:=hrel
    by_cases hlt:i < m
    ·have d2:decide ((i:Int) < (m:Int)) = true:=decide_eq_true (by omega)
     rw [show m - i = (m - (i + 1)) + 1 by omega] at htg
     unfold elens at htg
     have P0:=rbPut_at wr bk g v1 s1 t i 1 ht (by omega) (by omega) hE (by omega)
     have HR:=Lib.hid (And.intro htg (And.intro hF (And.intro hM P0)))
     clear htg hF hM P0 hE
     go_wp2_with fail
     refine HR.out.2.2.2.mono ?_
     rintro e w5 ⟨rfl,hg5⟩
     have H5:=Lib.hid (REbGo.trans HR.out.2.1 HR.out.2.2.1 hg5)
     clear hg5
     go_wp2_with fail
     go_roundw
     case rel=>
      obtain ⟨v5,hE5,hF5,hM5⟩:=H5.out
      have hEl:=eputAt_len s1 (t * 37 + i) 1
      exact ⟨i + 1,_,v5,by omega,by go_num,hE5,HR.out.1,by omega,hF5,hM5⟩
     case measure=>simp [intOf];omega
    ·obtain rfl:i = m:=by omega
     have d2:decide ((i:Int) < (i:Int)) = false:=decide_eq_false (by omega)
     rw [Nat.sub_self] at htg
     have htg':s1 = t2:=htg
     subst htg'
     have HR:=Lib.hid (And.intro hE (And.intro hF hM))
     clear htg hF hM hE
     go_upto_if 47 with (fail)
     go_cut [] (fun wx=>RStop w bk g v (estop t n s1) wx)
     case first=>
      have hEl:=estop_len t n s1
      by_cases h21:n < 21
      ·have d3:decide ((n:Int) < 21) = true:=decide_eq_true (by omega)
       have P0:=Lib.hid (rbPut_at wr bk g v1 s1 t i 0 ht (by omega) (by omega) HR.out.1 (by omega))
       go_wp2_with fail
       refine P0.out.mono ?_
       rintro e w5 ⟨rfl,hg5⟩
       have H5:=Lib.hid (REbGo.trans HR.out.2.1 HR.out.2.2 hg5)
       clear hg5
       go_wp2_with fail
       go_meet
       refine ⟨by omega,?_⟩
       have:=H5.out
       unfold estop
       rw [if_pos h21,show n - 1 = i by omega]
       exact this
      ·have d3:decide ((n:Int) < 21) = false:=decide_eq_false (by omega)
       go_wp2_with fail
       go_meet
       refine ⟨by omega,?_⟩
       unfold estop
       rw [if_neg h21]
       exact ⟨v1,HR.out.1,HR.out.2.1,HR.out.2.2⟩
     case rest=>
      obtain ⟨hsl,hgo⟩:=hcut
      rename World=>w6
      obtain ⟨m,hmi⟩:∃ m,m = i:=⟨_,rfl⟩
      subst hmi
      obtain ⟨v2,hE2,hF2,hM2⟩:=hgo
      obtain ⟨s2,hs2⟩:∃ s2,s2 = estop t n s1:=⟨_,rfl⟩
      rw [← hs2] at hE2 hsl HG
      have HD:Hid (Calls Tryz.prog 97 #[.int .u64 ((x:Int) + 1),.int .i64 (m:Int)] w6 fun e w'=>∃ s,e = .returned s ∧ Bytes w' w6.heap.size s (digitsL (x + 1) m) ∧ Mod (fun _=>False) w6 w'):=refDigits w6 (x + 1) m (by omega) (by omega)
      have xw:IntKind.u64.wrap ((x:Int) + 1) = (x:Int) + 1:=IntWalk.u64_in _ ⟨by omega,by omega⟩
      have H6:=Lib.hid (And.intro hE2 (And.intro hF2 hM2))
      clear hs2 hE2 hF2 hM2 HR
      go_wp2_with fail
      refine HD.out.mono ?_
      rintro e w7 ⟨sl,rfl,hB,hm7⟩
      obtain ⟨A,c,rfl⟩:=own_shape hB
      rw [digitsL_length] at hB ⊢
      have H7:=Lib.hid (And.intro hB (And.intro hm7 hsl))
      clear hB hm7 HD
      by_cases hm0:m = 0
      ·have d4:decide ((0:Int) < (m:Int)) = false:=decide_eq_false (by omega)
       have hme:(m:Int) ≤ 0:=by omega
       have HM0:=Lib.hid hm0
       clear hm0
       go_wp2_with fail
       go_loopw [14] (fun v14 wr=>v14 = .int .i64 0 ∧ wr = w7) (fun _ _=>0)
       case atStart=>exact ⟨rfl,rfl⟩
       case round=>
        obtain ⟨rfl,rfl⟩:=hrel
        go_wp2_with fail
        go_ret
        have hg:=HG.out
        rw [HM0.out] at hg
        exact ⟨rfl,v2,by rw [hg];exact H6.out.1.quiet H7.out.2.1,H6.out.2.1,H6.out.2.2.trans (H7.out.2.1.mono (fun _ h=>h.elim))⟩
      ·obtain ⟨r,rfl,hrc⟩:=H7.out.1.some_ (by rw [digitsL_length];omega)
       rw [digitsL_length] at hrc
       have hwr:=H7.out.1.low
       go_wp2_with fail
       go_loopw [14] (RLowRel w bk g v t (x + 1) m tg w6.heap.size r c) (fun i _=>m - (intOf i).toNat)
       case atStart=>exact ⟨0,s2,v2,by omega,rfl,H6.out.1.quiet H7.out.2.1,by rw [HG.out];rfl,by have:=H7.out.2.2;omega,fun _=>H7.out.1,H6.out.2.2.size,fun j hj=>⟨H6.out.2.1 j hj,fun e=>by have:=(H6.out.1.enc.own.lt j hj).2;omega⟩,H6.out.2.2.trans (H7.out.2.1.mono (fun _ h=>h.elim))⟩
       case round=>
        rename World=>wr
        obtain ⟨i,s1,v1,hi,rfl,hE,htg,hlen,hB0,hwB,hF,hM⟩:=hrel
        by_cases hlt:i < m
        ·have d1:decide ((i:Int) < (m:Int)) = true:=decide_eq_true (by omega)
         have hB:=hB0 (by omega)
         obtain ⟨bit,hbit⟩:∃ bit,bit = (x + 1) / 2 ^ (m - 1 - i) % 2:=⟨_,rfl⟩
         have hb1:bit ≤ 1:=by omega
         obtain ⟨a,ha⟩:∃ a,a = numL ((digitsL (x + 1) m).take i):=⟨_,rfl⟩
         have hal:a < 2 ^ i:=by rw [ha];exact numL_lt _ (digitsL_bits (x + 1) m) i (by rw [digitsL_length];omega)
         have ha2:a < 1048576:=Nat.lt_of_lt_of_le hal (by have:=Nat.pow_le_pow_right (show 0 < 2 by omega) (show i ≤ 20 by omega);omega)
         have hcl:wr.drew.cell? ⟨r,i,none⟩ = some (.int .u8 (bit:Int)):=by
          have:=hB.cell i (by rw [digitsL_length];omega)
          rw [digitsL_getD (x + 1) m i (by omega),← hbit] at this
          exact this
         have hgr:g ≠ r:=fun e=>hB.ne_ hE.enc.blk (by decide) e.symm
         have hbr:bk ≠ r:=fun e=>hB.ne_ hE.bk_ (by decide) e.symm
         have hrl:=hB.low.2
         have N0:=refNumber wr.drew (some ⟨r,0,none⟩) i c ((digitsL (x + 1) m).take i) ((hB.quiet ((Mod.refl _ wr).drew)).take i (by rw [digitsL_length];omega)).in_ (by omega) (fun b hb=>digitsL_bits (x + 1) m b (List.mem_of_mem_take hb))
         rw [← ha] at N0
         have P0:Calls Tryz.prog 160 #[.int .i64 (i:Int),.int .i64 (IntKind.i64.wrap (a:Int))] wr.drew fun e w'=>e = .returned (.int .i64 (placeI i a)) ∧ wr.drew = w':=by
          rw [IntWalk.i64_in (a:Int) ⟨by omega,by omega⟩]
          exact fPlaceA _ i a (by omega) ha2
         have S0:=rbSlow wr.drew bk g v1 s1 t i a bit ht hal hb1 (hE.quiet ((Mod.refl _ wr).drew)) (by omega)
         rw [show m - i = (m - 1 - i) + 1 by omega] at htg hlen
         unfold elow at htg
         rw [← hbit,← ha] at htg
         have hnx:numL ((digitsL (x + 1) m).take (i + 1)) = 2 * a + bit:=by rw [digitsL_num (x + 1) m i (by omega),← ha,← hbit]
         have hic:(i:Int) ≤ (c:Int):=by omega
         have p9:(i:Int) < (m:Int):=by omega
         have HR:=Lib.hid (And.intro hE (And.intro htg (And.intro hlen (And.intro hB (And.intro hwB (And.intro hF (And.intro hM (And.intro hnx (And.intro N0 (And.intro P0 S0))))))))))
         clear hE htg hlen hB hB0 hwB hF hM hnx N0 P0 S0 ha hbit hal ha2
         go_upto_region 19 with (fail)
         refine wp_region_planS [14] [] (0 :: 1 :: 2 :: 3 :: 4 :: 5 :: 6 :: 7 :: 8 :: 9 :: 10 :: 11 :: 12 :: 13 :: 14 :: []) (fun _=>True) (by kernel_rfl) (by kernel_rfl) (fun _ _ _ d _ h=>by cases d <;> exact h) trivial ?_
         iterate 7 (refine planS_still rfl rfl (fun K hK=>?_);go_simp;refine hK _ ?_;clear hK K)
         refine planS_still rfl rfl (fun K hK=>?_)
         go_simp
         refine ⟨_,(HR.out.2.2.2.2.2.2.2.2.1).mono (fun _ _ ⟨a,b⟩=>⟨a,b.symm⟩),hK _ ?_⟩
         clear hK K
         refine planS_still rfl rfl (fun K hK=>?_);go_simp;refine hK _ ?_;clear hK K
         refine planS_still rfl rfl (fun K hK=>?_)
         go_simp
         refine ⟨_,(HR.out.2.2.2.2.2.2.2.2.2.1).mono (fun _ _ ⟨a,b⟩=>⟨a,b.symm⟩),hK _ ?_⟩
         clear hK K
         iterate 4 (refine planS_still rfl rfl (fun K hK=>?_);go_simp;refine hK _ ?_;clear hK K)
         refine planS_loud rfl rfl (fun K hK=>?_)
         go_simp
         refine (HR.out.2.2.2.2.2.2.2.2.2.2).mono ?_
         rintro e w5 ⟨rfl,v5,hE5,hF5,hM5⟩
         have H5:=Lib.hid (And.intro hE5 (And.intro hF5 hM5))
         clear hE5 hF5 hM5
         dsimp only []
         refine hK _ _ trivial ?_
         clear hK K
         refine planS_done ?_
         clear hcl
         go_wp2_with fail
         go_roundw
         case rel=>
          have hmd:Mod (fun j=>j = g ∨ j = bk ∨ v1.ownBlock = some j) wr w5:=((Mod.refl _ wr).drew).trans H5.out.2.2
          have hsz:=HR.out.2.2.2.2.2.2.1.size
          have hEl:=eslow_len s1 t i a bit
          refine ⟨i + 1,eslow s1 t i a bit,v5,by omega,by go_num,H5.out.1,?_,by have:=HR.out.2.2.1;omega,fun _=>HR.out.2.2.2.1.mod hmd (fun j hj=>?_),HR.out.2.2.2.2.1,fun j hj=>?_,HR.out.2.2.2.2.2.2.1.into hmd (fun j hj=>?_)⟩
          ·rw [HR.out.2.2.2.2.2.2.2.1,show m - (i + 1) = m - 1 - i by omega]
           exact HR.out.2.1
          ·simp only [Value.ownBlock,Option.some.injEq] at hj
           subst hj
           rintro (h | h | h)
           ·exact hgr h.symm
           ·exact hbr h.symm
           ·exact (HR.out.2.2.2.2.2.1 _ h).2 rfl
          ·rcases H5.out.2.1 j hj with h | h
           ·exact HR.out.2.2.2.2.2.1 j h
           ·have h2:wr.heap.size ≤ j:=h
            exact ⟨.inr (Nat.le_trans hsz h2),by omega⟩
          ·rcases hj with h | h | h
           ·exact .inl (.inl h)
           ·exact .inl (.inr (.inl h))
           ·rcases (HR.out.2.2.2.2.2.1 j h).1 with h | h
            ·exact .inl (.inr (.inr h))
            ·exact .inr h
         case measure=>simp [intOf];omega
        ·obtain rfl:i = m:=by omega
         have d1:decide ((i:Int) < (i:Int)) = false:=decide_eq_false (by omega)
         have HX:=Lib.hid (And.intro hE (And.intro htg (And.intro hF hM)))
         clear hE htg hF hM hB0
         go_wp2_with fail
         go_ret
         refine ⟨rfl,v1,?_,fun j hj=>(HX.out.2.2.1 j hj).1,HX.out.2.2.2⟩
         have h1:=HX.out.2.1
         have h2:=HX.out.1
         rw [Nat.sub_self] at h1
         rw [← h1]
         exact h2
theorem rbSigned (w:World) (bk g:Nat) (v:Value) (s:Es) (t:Nat) (x:Int) (ht:t < 16) (hx:-1048576 ≤ x ∧ x ≤ 1048576) (h:REb w bk g v s) (hl:s.code.length + 43 ≤ 1048576) :
  Calls Tryz.prog 102 #[.pointer (some ⟨bk,0,none⟩),.pointer (some ⟨g,0,none⟩),.int .i64 (t:Int),.int .i64 x] w fun e w'=>e = .returned (.int .i64 0) ∧ REbGo w bk g v (esigned t x s) w':=by
 obtain ⟨hx1,hx2⟩:=hx
 have p0:decide (x < -1048576) = false:=decide_eq_false (by omega)
 have p1:decide (1048576 < x) = false:=decide_eq_false (by omega)
 obtain ⟨y,hy⟩:∃ y,y = x.natAbs:=⟨_,rfl⟩
 have hyl:y ≤ 1048576:=by omega
 have HP:=Lib.hid (rbNum w bk g v s t y ht hyl h hl)
 have hlen:=enum_len (t:=t) hyl s
 have HX:Hid (esigned t x s = if x = 0 then enum t y s else eputAt (enum t y s) (t * 37 + 36) (if x < 0 then 1 else 0)):=by rw [hy];rfl
 obtain ⟨tg,htg⟩:∃ tg,tg = esigned t x s:=⟨_,rfl⟩
 rw [← htg] at HX ⊢
 clear htg h
 by_cases h0:x = 0
 ·subst h0
  obtain rfl:y = 0:=by omega
  have hX:tg = enum t 0 s:=HX.out
  have HX2:=Lib.hid hX
  clear hX hy
  go_enter Tryz.func102,Tryz.ntmps102
  go_wp2_with fail
  refine HP.out.mono ?_
  rintro e w1 ⟨rfl,hg⟩
  have H1:=Lib.hid hg
  clear hg
  go_wp2_with fail
  go_ret
  exact ⟨rfl,by rw [HX2.out];exact H1.out⟩
 ·have hX:=HX.out
  rw [if_neg h0] at hX
  by_cases hn:x < 0
  ·rw [if_pos hn] at hX
   have e1:x = -(y:Int):=by omega
   subst e1
   have HX2:=Lib.hid hX
   have d1:decide (-(y:Int) < 0) = true:=decide_eq_true hn
   have d2:decide (0 < -(y:Int)) = false:=decide_eq_false (by omega)
   have d3:decide (-(y:Int) < (y:Int)) = true:=decide_eq_true (by omega)
   have d4:decide ((y:Int) < -(y:Int)) = false:=decide_eq_false (by omega)
   have hy0:0 < y:=by omega
   clear hX hy HX h0
   go_enter Tryz.func102,Tryz.ntmps102
   go_wp2_with fail
   refine HP.out.mono ?_
   rintro e w1 ⟨rfl,v1,hE1,hF1,hM1⟩
   have S0:=Lib.hid (rbPut_at w1 bk g v1 (enum t y s) t 36 1 ht (by omega) (by omega) hE1 (by omega))
   have H1:=Lib.hid (And.intro hF1 hM1)
   clear hE1 hF1 hM1
   go_wp2_with fail
   refine S0.out.mono ?_
   rintro e w2 ⟨rfl,hg⟩
   have H2:=Lib.hid (REbGo.trans H1.out.1 H1.out.2 hg)
   clear hg
   go_wp2_with fail
   go_ret
   exact ⟨rfl,by rw [HX2.out];exact H2.out⟩
  ·rw [if_neg hn] at hX
   have e1:x = (y:Int):=by omega
   subst e1
   have HX2:=Lib.hid hX
   have hy0:0 < y:=by omega
   have d1:decide ((y:Int) < 0) = false:=decide_eq_false hn
   have d2:decide (0 < (y:Int)) = true:=decide_eq_true (by omega)
   have d3:decide (-(y:Int) < (y:Int)) = true:=decide_eq_true (by omega)
   have d4:decide ((y:Int) < -(y:Int)) = false:=decide_eq_false (by omega)
   clear hX hy HX h0 hn
   go_enter Tryz.func102,Tryz.ntmps102
   go_wp2_with fail
   refine HP.out.mono ?_
   rintro e w1 ⟨rfl,v1,hE1,hF1,hM1⟩
   have S0:=Lib.hid (rbPut_at w1 bk g v1 (enum t y s) t 36 0 ht (by omega) (by omega) hE1 (by omega))
   have H1:=Lib.hid (And.intro hF1 hM1)
   clear hE1 hF1 hM1
   go_wp2_with fail
   refine S0.out.mono ?_
   rintro e w2 ⟨rfl,hg⟩
   have H2:=Lib.hid (REbGo.trans H1.out.1 H1.out.2 hg)
   clear hg
   go_wp2_with fail
   go_ret
   exact ⟨rfl,by rw [HX2.out];exact H2.out⟩
end Go.Proofs.YtmkopcojnibhlaaGreatDoor

