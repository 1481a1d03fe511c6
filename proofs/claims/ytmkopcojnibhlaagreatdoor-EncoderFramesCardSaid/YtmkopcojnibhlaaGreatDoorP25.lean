/-
  The reference: one of any frame's planes; a block of a frame.
-/
import Derived.Test.YtmkopcojnibhlaaGreatDoorP24
import Derived.Test.YtmkopcojnibhlaaGreatDoorP15
import Derived.Test.YtmkopcojnibhlaaGreatDoorP20
import Derived.Test.YtmkopcojnibhlaaGreatDoorP23
import Derived.Test.YtmkopcojnibhlaaGreatDoorP5
import Derived.Test.YtmkopcojnibhlaaGreatDoorP7
import Derived.Test.YtmkopcojnibhlaaGreatDoorP13
namespace Go.Proofs.YtmkopcojnibhlaaGreatDoor
open Go.RowKit
set_option maxRecDepth 100000
set_option maxHeartbeats 8000000
def pickA (pl:Nat) (a b c:Option Addr):Option Addr:=if pl = 0 then a else if pl = 1 then b else c
def pickN (pl a b c:Nat):Nat:=if pl = 0 then a else if pl = 1 then b else c
def plA (d:Dim) (pl:Nat) (A:Option Addr) (k:Nat):Array Value:=#[.int .i64 (d.wOf pl:Int),.int .i64 (d.hOf pl:Int),.slice A (d.nOf pl) k]
theorem rePlaneOf (w:World) (d:Dim) (A0 A1 A2:Option Addr) (c0 c1 c2 pl:Nat) (hpl:pl < 3):Calls Tryz.prog 108 #[.agg (flV d A0 A1 A2 c0 c1 c2).toArray,.int .i64 (pl:Int)] w fun e w'=>e = .returned (.agg (plA d pl (pickA pl A0 A1 A2) (pickN pl c0 c1 c2))) ∧ Mod (fun _=>False) w w':=by
 have h3:pl = 0 ∨ pl = 1 ∨ pl = 2:=by omega
 rcases h3 with rfl | rfl | rfl
 ·unfold flV plA
  go_enter Tryz.func108,Tryz.ntmps108
  go_wp2_with fail
  exact bodyPost_ret (v:=.agg #[.int .i64 (d.W:Int),.int .i64 (d.H:Int),.slice A0 d.nY c0]) (by simp [results,Tryz.results108,go_sem]) rfl ⟨rfl,((Mod.refl _ _).alloc _).alloc _⟩
 ·unfold flV plA
  go_enter Tryz.func108,Tryz.ntmps108
  go_wp2_with fail
  exact bodyPost_ret (v:=.agg #[.int .i64 (d.W2:Int),.int .i64 (d.H2:Int),.slice A1 d.nC c1]) (by simp [results,Tryz.results108,go_sem]) rfl ⟨rfl,((Mod.refl _ _).alloc _).alloc _⟩
 ·unfold flV plA
  go_enter Tryz.func108,Tryz.ntmps108
  go_wp2_with fail
  exact bodyPost_ret (v:=.agg #[.int .i64 (d.W2:Int),.int .i64 (d.H2:Int),.slice A2 d.nC c2]) (by simp [results,Tryz.results108,go_sem]) rfl ⟨rfl,((Mod.refl _ _).alloc _).alloc _⟩
theorem FrIn.at_ {w:World} {d:Dim} {A0 A1 A2:Option Addr} {c0 c1 c2:Nat} {f:Pix} (h:FrIn w d (flV d A0 A1 A2 c0 c1 c2) f) {pl:Nat} (hpl:pl < 3):BytesIn w (pickA pl A0 A1 A2) (d.nOf pl) (pickN pl c0 c1 c2) (f.get pl) ∧ d.nOf pl ≤ pickN pl c0 c1 c2:=by
 obtain ⟨A,c,h1,h2,h3,h4,h5⟩:=h.pl pl hpl
 have hp:pl = 0 ∨ pl = 1 ∨ pl = 2:=by omega
 rcases hp with rfl | rfl | rfl
 all_goals
  injection h3 with h3
  injection h3 with e1 e2 e3
  subst e1 e3
  exact ⟨h4,h5⟩
theorem reBlk (w:World) (d:Dim) (hd:d.Ok) (A0 A1 A2:Option Addr) (c0 c1 c2:Nat) (f:Pix) (hf:FrIn w d (flV d A0 A1 A2 c0 c1 c2) f) (pl x y:Nat) (hpl:pl < 3) (hx:x + 8 ≤ d.wOf pl) (hy:y + 8 ≤ d.hOf pl) :
  Calls Tryz.prog 106 #[.agg (flV d A0 A1 A2 c0 c1 c2).toArray,.agg #[.int .i64 (pl:Int),.int .i64 (x:Int),.int .i64 (y:Int)]] w fun e w'=>∃ v,e = .returned v ∧ Bytes w' w.heap.size v (sqL (d.wOf pl) (f.get pl) x y 8) ∧ Mod (fun _=>False) w w':=by
 have h0:=((Sat.nil (fun _=>False) w).alloc 40 (flV d A0 A1 A2 c0 c1 c2).toArray rfl).alloc (g:=w.heap.size + 1) 185 #[.int .i64 (pl:Int),.int .i64 (x:Int),.int .i64 (y:Int)] (by simp)
 obtain ⟨hin,_⟩:=hf.at_ hpl
 obtain ⟨hsd,hnn⟩:=hd.nOf pl
 have HI:=Lib.hid (And.intro hsd (And.intro hnn hin))
 have H0:=Lib.hid h0.drew
 obtain ⟨fc,ff⟩:=(h0.drew.own_ 1 rfl).both
 obtain ⟨pc,pf⟩:=(h0.drew.own_ 0 rfl).both
 dsimp only at fc pc
 unfold flV at fc
 clear hf hin hsd hnn h0 hd
 have P1:=Lib.hid (fun w=>rePlaneOf w d A0 A1 A2 c0 c1 c2 pl hpl)
 unfold flV at P1 ⊢
 go_enter Tryz.func106,Tryz.ntmps106
 go_upto_region 1 with (fail)
 refine wp_region_planS [3,8] [4,5,6,7] (0 :: 1 :: 2 :: 4 :: 5 :: 6 :: 7 :: 3 :: 8 :: 9 :: []) (fun w'=>Blk w' (w.heap.size + 1) 185 #[.int .i64 (pl:Int),.int .i64 (x:Int),.int .i64 (y:Int)]) (by kernel_rfl) (by kernel_rfl) (fun _ _ _ d _ h=>by cases d <;> exact h) (H0.out.own_ 0 rfl) ?_
 iterate 3 (refine planS_still rfl rfl (fun K hK=>?_);go_simp;refine hK _ ?_;clear hK K)
 clear fc ff pc pf
 refine planS_pure rfl rfl rfl (fun _ _=>rfl) ?_
 refine planS_pure (v:=.int .i64 (x:Int)) rfl rfl rfl (fun w' hS=>?_) ?_
 ·have cS:=hS.cell
  go_simp
 refine planS_pure rfl rfl rfl (fun _ _=>rfl) ?_
 refine planS_pure (v:=.int .i64 (y:Int)) rfl rfl rfl (fun w' hS=>?_) ?_
 ·have cS:=hS.cell
  go_simp
 refine planS_loud rfl rfl (fun K hK=>?_)
 go_simp
 refine (P1.out _).mono ?_
 rintro e w2 ⟨rfl,hm2⟩
 have H2:=Lib.hid (H0.out.quiet hm2)
 dsimp only []
 refine hK _ _ (H2.out.own_ 0 rfl) ?_
 clear hK K hm2
 refine planS_loud rfl rfl (fun K hK=>?_)
 go_simp
 refine (rePBlk8 _ (d.wOf pl) (d.hOf pl) _ (d.nOf pl) _ (f.get pl) HI.out.1 HI.out.2.1 (HI.out.2.2.quiet H2.out.mod) x y hx hy).mono ?_
 rintro e w3 ⟨v3,rfl,hv3,hm3⟩
 have H3:=Lib.hid (And.intro (hv3.down H2.out.mod.size) (H2.out.mod.trans hm3))
 dsimp only []
 refine hK _ _ ((H2.out.quiet hm3).own_ 0 rfl) ?_
 clear hK K hm3 hv3
 refine planS_still rfl rfl (fun K hK=>?_);go_simp;refine hK _ ?_;clear hK K
 refine planS_done ?_
 go_wp2_with fail
 go_ret
 exact ⟨v3,rfl,H3.out.1,H3.out.2⟩
theorem floor_neg (v n:Int) (hn:0 < n):-((n - 1 - v) / n) = v / n:=by
 have h1:=Int.mul_ediv_add_emod v n
 have h2:=Int.emod_nonneg v (show n ≠ 0 by omega)
 have h3:=Int.emod_lt_of_pos v hn
 have e:n - 1 - v = (n - 1 - v % n) + n * (-(v / n)):=by rw [Int.mul_neg];omega
 rw [e,Int.add_mul_ediv_left _ _ (by omega),Int.ediv_eq_zero_of_lt (by omega) (by omega)]
 omega
theorem fFloor (w:World) (v:Int) (n:Nat) (hn:1 ≤ n ∧ n ≤ 64) (hv:-4611686018427387904 ≤ v ∧ v ≤ 4611686018427387904):Calls Tryz.prog 222 #[.int .i64 v,.int .i64 (n:Int)] w fun e w'=>e = .returned (.int .i64 (v / (n:Int))) ∧ w = w':=by
 obtain ⟨hn1,hn2⟩:=hn
 obtain ⟨hv1,hv2⟩:=hv
 by_cases h:0 ≤ v
 ·have d1:decide (0 ≤ v) = true:=decide_eq_true h
  go_enter Tryz.func222,Tryz.ntmps222
  go_wp2_with fail
  go_ret
  exact ⟨rfl,rfl⟩
 ·have d1:decide (0 ≤ v) = false:=decide_eq_false h
  go_enter Tryz.func222,Tryz.ntmps222
  go_wp2_with fail
  go_ret
  exact ⟨congrArg (fun z=>Ending.returned (.int .i64 z)) (by
   rw [floor_neg v (n:Int) (by omega)]
   have b1:v / (n:Int) < 0:=Int.ediv_neg_of_neg_of_pos h (by omega)
   have b2:v ≤ v / (n:Int):=Int.le_ediv_of_mul_le (by omega) (by
    have:=Int.mul_le_mul_of_nonpos_left (a:=v) (show v ≤ 0 by omega) (show (1:Int) ≤ (n:Int) by omega)
    omega)
   exact IntWalk.wrap64_in _ ⟨by omega,by omega⟩),rfl⟩
theorem fHalf (w:World) (a b c d e f:Nat) (ha:a < 256) (hb:b < 256) (hc:c < 256) (hd:d < 256) (he:e < 256) (hf:f < 256) :
  Calls Tryz.prog 270 #[.agg #[.int .i64 (a:Int),.int .i64 (b:Int),.int .i64 (c:Int),.int .i64 (d:Int),.int .i64 (e:Int),.int .i64 (f:Int)]] w fun r w'=>r = .returned (.int .i64 ((halfN a b c d e f:Nat):Int)) ∧ Mod (fun _=>False) w w':=by
 go_enter Tryz.func270,Tryz.ntmps270
 go_wp2_with fail
 refine (fFloor _ _ 32 ⟨by omega,by omega⟩ ⟨by omega,by omega⟩).mono ?_
 rintro r w1 ⟨rfl,rfl⟩
 go_wp2_with fail
 all_goals
  go_ret
  refine ⟨congrArg (fun z=>Ending.returned (.int .i64 z)) ?_,(Mod.refl _ _).alloc _⟩
  unfold halfN clipN halfI
  (repeat' split) <;> omega
def filI (f:Nat → Nat) (n k:Nat):Array Value:=((List.range n).map fun i=>Value.int .i64 ((if i < k then f i else 0:Nat):Int)).toArray
theorem filI6 (f:Nat → Nat):filI f 6 6 = #[.int .i64 (f 0:Int),.int .i64 (f 1:Int),.int .i64 (f 2:Int),.int .i64 (f 3:Int),.int .i64 (f 4:Int),.int .i64 (f 5:Int)]:=rfl
theorem filI6_0 (f:Nat → Nat):filI f 6 0 = #[.int .i64 0,.int .i64 0,.int .i64 0,.int .i64 0,.int .i64 0,.int .i64 0]:=rfl
theorem filI_set (f:Nat → Nat) (n k:Nat):(filI f n k).setIfInBounds k (.int .i64 (f k:Int)) = filI f n (k + 1):=by
 unfold filI
 rw [List.setIfInBounds_toArray]
 refine congrArg List.toArray (List.ext_getElem (by simp) fun i h1 h2=>?_)
 simp only [List.getElem_set,List.getElem_map,List.getElem_range]
 by_cases e:k = i
 ·subst e;simp
 ·rw [if_neg e]
  by_cases h:i < k
  ·rw [if_pos h,if_pos (by omega)]
  ·rw [if_neg h,if_neg (by omega)]
theorem filI_cell {w:World} {q n k:Nat} {t:TypeId} {f:Nat → Nat} (hb:Blk w q t (filI f n k)) (hk:k < n):w.cell? ⟨q,k,none⟩ = some (.int .i64 0):=by
 rw [hb.cell]
 unfold filI
 rw [List.getElem?_toArray]
 simp [hk]
def FSix (w:World) (p q:Nat) (pv:Array Value) (f:Nat → Nat) (i:Value) (wr:World):Prop:=
 ∃ k:Nat,k ≤ 6 ∧ i = .int .i64 (k:Int) ∧ Sat (fun _=>False) w wr [⟨q,309,filI f 6 k⟩,⟨p,38,pv⟩] []
theorem fAcross (w:World) (W H:Nat) (A:Option Addr) (n c:Nat) (pix:List UInt8) (h:sidesB W H = true) (hn:n = W * H) (hin:BytesIn w A n c pix) (x y:Int) (hx:-1073741824 ≤ x ∧ x ≤ 1073741824) :
  Calls Tryz.prog 259 #[.agg #[.int .i64 (W:Int),.int .i64 (H:Int),.slice A n c],.int .i64 x,.int .i64 y] w fun e w'=>e = .returned (.int .i64 ((acrN W H pix x y:Nat):Int)) ∧ Mod (fun _=>False) w w':=by
 have HI:=Lib.hid (And.intro h (And.intro hin hn))
 clear h hin hn
 have h0:=(Sat.nil (fun _=>False) w)
 obtain ⟨hx1,hx2⟩:=hx
 go_enter Tryz.func259,Tryz.ntmps259
 go_wp2_with fail
 obtain ⟨f,hf⟩:∃ f:Nat → Nat,f = fun (i:Nat)=>(patL W H pix (x - 2 + (i:Int)) y).toNat:=⟨_,rfl⟩
 have HF:=Lib.hid hf
 clear hf
 go_loopw [8] (FSix w w.heap.size (w.heap.size + 1) #[.int .i64 (W:Int),.int .i64 (H:Int),.slice A n c] f) (fun i _=>6 - (intOf i).toNat)
 case atStart=>exact ⟨0,by omega,rfl,by rw [filI6_0];exact (by repeat' (first | with_reducible exact h0 | with_reducible refine Sat.put ?_ ?_ | with_reducible refine Sat.alloc ?_ _ _ ?_ | with_reducible rfl | (show (World.heap _).size = _;simp;done) | with_reducible refine Sat.drewN ?_ _ | with_reducible refine Sat.drew ?_ | exact Upd.here rfl | exact Upd.there (Upd.here rfl) | exact Upd.there (Upd.there (Upd.here rfl)) | exact Upd.there (Upd.there (Upd.there (Upd.here rfl))) | exact Upd.there (Upd.there (Upd.there (Upd.there (Upd.here rfl))))))⟩
 case round=>
  obtain ⟨k,hk,rfl,HS⟩:=hrel
  obtain ⟨pc,pf⟩:=(HS.own_ 1 rfl).both
  obtain ⟨qc,qf⟩:=(HS.own_ 0 rfl).both
  have pl:=(HS.own_ 1 rfl).lt
  have ql:=(HS.own_ 0 rfl).lt
  have HH:=Lib.hid HS
  clear HS
  by_cases hlt:k < 6
  ·have d1:decide ((k:Int) < 6) = true:=decide_eq_true (by omega)
   have hfk:(patL W H pix (x - 2 + (k:Int)) y).toNat = f k:=by rw [HF.out]
   have HK:=Lib.hid hfk
   clear hfk qc qf
   go_wp2_with fail
   refine (fAt _ W H A n c pix HI.out.1 HI.out.2.2 (HI.out.2.1.quiet HH.out.mod) _ _).mono ?_
   rintro e w1 ⟨rfl,hm1⟩
   have HS1:=Sat.after hm1 HH.out
   clear hm1 pc pf pl ql
   have qf:=(HS1.own_ 0 rfl).frozen
   have ql:=(HS1.own_ 0 rfl).lt
   have q0:=filI_cell (HS1.own_ 0 rfl) hlt
   have x0:(patL W H pix (x - 2 + (k:Int)) y).toNat < 256:=UInt8.toNat_lt _
   have HG:=Lib.hid HS1
   clear HS1
   rw [HK.out] at x0 ⊢
   go_wp2_with fail
   go_roundw
   case rel=>exact ⟨k + 1,by omega,by go_num,HG.out.put (Upd.here (filI_set f 6 k))⟩
   case measure=>simp [intOf];omega
  ·obtain rfl:k = 6:=by omega
   have hb:=HH.out.own_ 0 rfl
   rw [filI6] at hb
   have q0:wr.cell? ⟨w.heap.size + 1,0,none⟩ = some (.int .i64 (f 0:Int)):=hb.cell 0
   have q1:wr.cell? ⟨w.heap.size + 1,1,none⟩ = some (.int .i64 (f 1:Int)):=hb.cell 1
   have q2:wr.cell? ⟨w.heap.size + 1,2,none⟩ = some (.int .i64 (f 2:Int)):=hb.cell 2
   have q3:wr.cell? ⟨w.heap.size + 1,3,none⟩ = some (.int .i64 (f 3:Int)):=hb.cell 3
   have q4:wr.cell? ⟨w.heap.size + 1,4,none⟩ = some (.int .i64 (f 4:Int)):=hb.cell 4
   have q5:wr.cell? ⟨w.heap.size + 1,5,none⟩ = some (.int .i64 (f 5:Int)):=hb.cell 5
   have hf8:∀ i,f i < 256:=fun i=>by rw [HF.out];exact UInt8.toNat_lt _
   clear hb pc pf pl qc qf
   go_wp2_with fail
   refine (fHalf _ _ _ _ _ _ _ (hf8 _) (hf8 _) (hf8 _) (hf8 _) (hf8 _) (hf8 _)).mono ?_
   rintro e w1 ⟨rfl,hm1⟩
   have hM:=HH.out.mod.trans hm1
   clear hm1 ql q0 q1 q2 q3 q4 q5
   go_wp2_with fail
   go_ret
   exact ⟨by rw [HF.out];simp [acrN],hM⟩
theorem fDown (w:World) (W H:Nat) (A:Option Addr) (n c:Nat) (pix:List UInt8) (h:sidesB W H = true) (hn:n = W * H) (hin:BytesIn w A n c pix) (x y:Int) (hx:-1073741824 ≤ y ∧ y ≤ 1073741824) :
  Calls Tryz.prog 260 #[.agg #[.int .i64 (W:Int),.int .i64 (H:Int),.slice A n c],.int .i64 x,.int .i64 y] w fun e w'=>e = .returned (.int .i64 ((dwnN W H pix x y:Nat):Int)) ∧ Mod (fun _=>False) w w':=by
 have HI:=Lib.hid (And.intro h (And.intro hin hn))
 clear h hin hn
 have h0:=(Sat.nil (fun _=>False) w)
 obtain ⟨hx1,hx2⟩:=hx
 go_enter Tryz.func260,Tryz.ntmps260
 go_wp2_with fail
 obtain ⟨f,hf⟩:∃ f:Nat → Nat,f = fun (i:Nat)=>(patL W H pix x (y - 2 + (i:Int))).toNat:=⟨_,rfl⟩
 have HF:=Lib.hid hf
 clear hf
 go_loopw [8] (FSix w w.heap.size (w.heap.size + 1) #[.int .i64 (W:Int),.int .i64 (H:Int),.slice A n c] f) (fun i _=>6 - (intOf i).toNat)
 case atStart=>exact ⟨0,by omega,rfl,by rw [filI6_0];exact (by repeat' (first | with_reducible exact h0 | with_reducible refine Sat.put ?_ ?_ | with_reducible refine Sat.alloc ?_ _ _ ?_ | with_reducible rfl | (show (World.heap _).size = _;simp;done) | with_reducible refine Sat.drewN ?_ _ | with_reducible refine Sat.drew ?_ | exact Upd.here rfl | exact Upd.there (Upd.here rfl) | exact Upd.there (Upd.there (Upd.here rfl)) | exact Upd.there (Upd.there (Upd.there (Upd.here rfl))) | exact Upd.there (Upd.there (Upd.there (Upd.there (Upd.here rfl))))))⟩
 case round=>
  obtain ⟨k,hk,rfl,HS⟩:=hrel
  obtain ⟨pc,pf⟩:=(HS.own_ 1 rfl).both
  obtain ⟨qc,qf⟩:=(HS.own_ 0 rfl).both
  have pl:=(HS.own_ 1 rfl).lt
  have ql:=(HS.own_ 0 rfl).lt
  have HH:=Lib.hid HS
  clear HS
  by_cases hlt:k < 6
  ·have d1:decide ((k:Int) < 6) = true:=decide_eq_true (by omega)
   have hfk:(patL W H pix x (y - 2 + (k:Int))).toNat = f k:=by rw [HF.out]
   have HK:=Lib.hid hfk
   clear hfk qc qf
   go_wp2_with fail
   refine (fAt _ W H A n c pix HI.out.1 HI.out.2.2 (HI.out.2.1.quiet HH.out.mod) _ _).mono ?_
   rintro e w1 ⟨rfl,hm1⟩
   have HS1:=Sat.after hm1 HH.out
   clear hm1 pc pf pl ql
   have qf:=(HS1.own_ 0 rfl).frozen
   have ql:=(HS1.own_ 0 rfl).lt
   have q0:=filI_cell (HS1.own_ 0 rfl) hlt
   have x0:(patL W H pix x (y - 2 + (k:Int))).toNat < 256:=UInt8.toNat_lt _
   have HG:=Lib.hid HS1
   clear HS1
   rw [HK.out] at x0 ⊢
   go_wp2_with fail
   go_roundw
   case rel=>exact ⟨k + 1,by omega,by go_num,HG.out.put (Upd.here (filI_set f 6 k))⟩
   case measure=>simp [intOf];omega
  ·obtain rfl:k = 6:=by omega
   have hb:=HH.out.own_ 0 rfl
   rw [filI6] at hb
   have q0:wr.cell? ⟨w.heap.size + 1,0,none⟩ = some (.int .i64 (f 0:Int)):=hb.cell 0
   have q1:wr.cell? ⟨w.heap.size + 1,1,none⟩ = some (.int .i64 (f 1:Int)):=hb.cell 1
   have q2:wr.cell? ⟨w.heap.size + 1,2,none⟩ = some (.int .i64 (f 2:Int)):=hb.cell 2
   have q3:wr.cell? ⟨w.heap.size + 1,3,none⟩ = some (.int .i64 (f 3:Int)):=hb.cell 3
   have q4:wr.cell? ⟨w.heap.size + 1,4,none⟩ = some (.int .i64 (f 4:Int)):=hb.cell 4
   have q5:wr.cell? ⟨w.heap.size + 1,5,none⟩ = some (.int .i64 (f 5:Int)):=hb.cell 5
   have hf8:∀ i,f i < 256:=fun i=>by rw [HF.out];exact UInt8.toNat_lt _
   clear hb pc pf pl qc qf
   go_wp2_with fail
   refine (fHalf _ _ _ _ _ _ _ (hf8 _) (hf8 _) (hf8 _) (hf8 _) (hf8 _) (hf8 _)).mono ?_
   rintro e w1 ⟨rfl,hm1⟩
   have hM:=HH.out.mod.trans hm1
   clear hm1 ql q0 q1 q2 q3 q4 q5
   go_wp2_with fail
   go_ret
   exact ⟨by rw [HF.out];simp [dwnN],hM⟩
theorem tmod2_iff (x:Int):x.tmod 2 = 0 ↔ x % 2 = 0:=by
 by_cases h:0 ≤ x
 ·rw [Int.tmod_eq_emod_of_nonneg h]
 ·have e:x = -(-x):=by omega
  have h2:x.tmod 2 = -((-x) % 2):=by
   conv=>lhs;rw [e]
   rw [Int.neg_tmod,Int.tmod_eq_emod_of_nonneg (by omega)]
  rw [h2]
  omega
theorem tmod2_t {x:Int} (h:x % 2 = 0):(x.tmod 2 == 0) = true:=by rw [beq_iff_eq,tmod2_iff];exact h
theorem tmod2_f {x:Int} (h:¬ x % 2 = 0):(x.tmod 2 == 0) = false:=by rw [beq_eq_false_iff_ne,Ne,tmod2_iff];exact h
theorem fMvSample (w:World) (W H:Nat) (A:Option Addr) (n c:Nat) (pix:List UInt8) (h:sidesB W H = true) (hn:n = W * H) (hin:BytesIn w A n c pix) (x y:Int) (hx:-1073741824 ≤ x ∧ x ≤ 1073741824) (hy:-1073741824 ≤ y ∧ y ≤ 1073741824) :
  Calls Tryz.prog 224 #[.agg #[.int .i64 (W:Int),.int .i64 (H:Int),.slice A n c],.int .i64 x,.int .i64 y] w fun e w'=>e = .returned (.int .u8 ((smpN W H pix x y:Nat):Int)) ∧ Mod (fun _=>False) w w':=by
 have HI:=Lib.hid (And.intro h (And.intro hin hn))
 clear h hin hn
 have h0:=(Sat.nil (fun _=>False) w)
 obtain ⟨hx1,hx2⟩:=hx
 obtain ⟨hy1,hy2⟩:=hy
 have hrs:smpN W H pix x y = smpN W H pix x y:=rfl
 conv at hrs=>rhs;unfold smpN
 have HD:=Lib.hid hrs
 clear hrs
 by_cases hcy:y % 2 = 0
 ·have d2:(y.tmod 2 == 0) = true:=tmod2_t hcy
  have HR:=Lib.hid (HD.out.trans (if_pos hcy))
  clear hcy HD
  by_cases hcx:x % 2 = 0
  ·have d1:(x.tmod 2 == 0) = true:=tmod2_t hcx
   have HR:=Lib.hid (HR.out.trans (if_pos hcx))
   clear hcx
   go_enter Tryz.func224,Tryz.ntmps224;go_wp2_with fail;refine (fPRight _ W H A n c HI.out.1 HI.out.2.2).mono ?_;rintro e w1 ⟨rfl,hm1⟩;have HS:=(h0.alloc 38 #[.int .i64 (W:Int),.int .i64 (H:Int),.slice A n c] rfl).quiet hm1;obtain ⟨pc,pf⟩:=(HS.own_ 0 rfl).both;clear hm1;go_wp2_with fail;refine (fFloor _ _ 2 ⟨by omega,by omega⟩ ⟨by omega,by omega⟩).mono ?_;rintro e w2 ⟨rfl,rfl⟩;go_wp2_with fail;refine (fFloor _ _ 2 ⟨by omega,by omega⟩ ⟨by omega,by omega⟩).mono ?_;rintro e w2 ⟨rfl,rfl⟩;go_wp2_with fail
   refine (fAt _ W H A n c pix HI.out.1 HI.out.2.2 (HI.out.2.1.quiet HS.mod) _ _).mono ?_
   rintro e w2 ⟨rfl,hm2⟩;go_wp2_with fail;go_ret;exact ⟨by rw [HR.out];rfl,HS.mod.trans hm2⟩
  ·have d1:(x.tmod 2 == 0) = false:=tmod2_f hcx
   have HR:=Lib.hid (HR.out.trans (if_neg hcx))
   have hl:=acrN_lt W H pix (x / 2) (y / 2)
   clear hcx
   go_enter Tryz.func224,Tryz.ntmps224;go_wp2_with fail;refine (fPRight _ W H A n c HI.out.1 HI.out.2.2).mono ?_;rintro e w1 ⟨rfl,hm1⟩;have HS:=(h0.alloc 38 #[.int .i64 (W:Int),.int .i64 (H:Int),.slice A n c] rfl).quiet hm1;obtain ⟨pc,pf⟩:=(HS.own_ 0 rfl).both;clear hm1;go_wp2_with fail;refine (fFloor _ _ 2 ⟨by omega,by omega⟩ ⟨by omega,by omega⟩).mono ?_;rintro e w2 ⟨rfl,rfl⟩;go_wp2_with fail;refine (fFloor _ _ 2 ⟨by omega,by omega⟩ ⟨by omega,by omega⟩).mono ?_;rintro e w2 ⟨rfl,rfl⟩;go_wp2_with fail
   refine (fAcross _ W H A n c pix HI.out.1 HI.out.2.2 (HI.out.2.1.quiet HS.mod) _ _ ⟨by omega,by omega⟩).mono ?_
   rintro e w2 ⟨rfl,hm2⟩;go_wp2_with fail;go_ret;exact ⟨by rw [HR.out];rfl,HS.mod.trans hm2⟩
 ·have d2:(y.tmod 2 == 0) = false:=tmod2_f hcy
  have HR:=Lib.hid (HD.out.trans (if_neg hcy))
  clear hcy HD
  by_cases hcx:x % 2 = 0
  ·have d1:(x.tmod 2 == 0) = true:=tmod2_t hcx
   have HR:=Lib.hid (HR.out.trans (if_pos hcx))
   have hl:dwnN W H pix (x / 2) (y / 2) < 256:=halfN_lt _ _ _ _ _ _
   clear hcx
   go_enter Tryz.func224,Tryz.ntmps224;go_wp2_with fail;refine (fPRight _ W H A n c HI.out.1 HI.out.2.2).mono ?_;rintro e w1 ⟨rfl,hm1⟩;have HS:=(h0.alloc 38 #[.int .i64 (W:Int),.int .i64 (H:Int),.slice A n c] rfl).quiet hm1;obtain ⟨pc,pf⟩:=(HS.own_ 0 rfl).both;clear hm1;go_wp2_with fail;refine (fFloor _ _ 2 ⟨by omega,by omega⟩ ⟨by omega,by omega⟩).mono ?_;rintro e w2 ⟨rfl,rfl⟩;go_wp2_with fail;refine (fFloor _ _ 2 ⟨by omega,by omega⟩ ⟨by omega,by omega⟩).mono ?_;rintro e w2 ⟨rfl,rfl⟩;go_wp2_with fail
   refine (fDown _ W H A n c pix HI.out.1 HI.out.2.2 (HI.out.2.1.quiet HS.mod) _ _ ⟨by omega,by omega⟩).mono ?_
   rintro e w2 ⟨rfl,hm2⟩;go_wp2_with fail;go_ret;exact ⟨by rw [HR.out];rfl,HS.mod.trans hm2⟩
  ·have d1:(x.tmod 2 == 0) = false:=tmod2_f hcx
   have HR:=Lib.hid (HR.out.trans (if_neg hcx))
   clear hcx
   go_enter Tryz.func224,Tryz.ntmps224;go_wp2_with fail;refine (fPRight _ W H A n c HI.out.1 HI.out.2.2).mono ?_;rintro e w1 ⟨rfl,hm1⟩;have HS:=(h0.alloc 38 #[.int .i64 (W:Int),.int .i64 (H:Int),.slice A n c] rfl).quiet hm1;obtain ⟨pc,pf⟩:=(HS.own_ 0 rfl).both;clear hm1;go_wp2_with fail;refine (fFloor _ _ 2 ⟨by omega,by omega⟩ ⟨by omega,by omega⟩).mono ?_;rintro e w2 ⟨rfl,rfl⟩;go_wp2_with fail;refine (fFloor _ _ 2 ⟨by omega,by omega⟩ ⟨by omega,by omega⟩).mono ?_;rintro e w2 ⟨rfl,rfl⟩;go_wp2_with fail
   have HS1:=HS.drew
   have y0:IntKind.i64.wrap (y / 2 + 1) = y / 2 + 1:=IntWalk.i64_in _ ⟨by omega,by omega⟩
   have l1:=acrN_lt W H pix (x / 2) (y / 2)
   have l2:=acrN_lt W H pix (x / 2) (y / 2 + 1)
   clear pc
   go_region_held3 (fun w'=>w'.cell? ⟨w.heap.size,0,none⟩ = some (.int .i64 (W:Int)) ∧ w'.cell? ⟨w.heap.size,1,none⟩ = some (.int .i64 (H:Int)) ∧ w'.cell? ⟨w.heap.size,2,none⟩ = some (.slice A n c)) (first | exact pl_cells (HS1.own_ 0 rfl) | exact pl_cells (HS.own_ 0 rfl)) (first | (go_at_call 259;refine (fAcross _ W H A n c pix HI.out.1 HI.out.2.2 (HI.out.2.1.quiet HS1.mod) _ _ ⟨by omega,by omega⟩).mono ?_;rintro e w2 ⟨rfl,hm2⟩;have HS1:=HS1.quiet hm2;clear hm2))
   have hM:=HS1.mod
   clear y0
   go_wp2_with fail
   go_ret
   refine ⟨congrArg (fun z=>Ending.returned (.int .u8 z)) ?_,hM⟩
   rw [HR.out]
   generalize acrN W H pix (x / 2) (y / 2) = a at *
   generalize acrN W H pix (x / 2) (y / 2 + 1) = b at *
   rw [IntWalk.i64_in ((a:Int) + (b:Int)) ⟨by omega,by omega⟩,IntWalk.i64_in ((a:Int) + (b:Int) + 1) ⟨by omega,by omega⟩]
   rw [Int.tdiv_eq_ediv_of_nonneg (by omega),IntWalk.i64_in _ ⟨by omega,by omega⟩,IntWalk.u8_in _ ⟨by omega,by omega⟩]
   omega
theorem fSmall (w:World) (v:Int) (hv:-1048576 ≤ v ∧ v ≤ 1048576):Calls Tryz.prog 223 #[.int .i64 v] w fun e w'=>e = .returned (.bool true) ∧ w = w':=by
 have d1:decide (-1048576 ≤ v) = true:=decide_eq_true hv.1
 have d2:decide (v ≤ 1048576) = true:=decide_eq_true hv.2
 go_enter Tryz.func223,Tryz.ntmps223
 go_wp2_with fail
 go_ret
 exact ⟨rfl,rfl⟩
def GrowS (w wr:World) (L:List Ent) (v:Value) (l:List UInt8):Prop:=Bytes wr w.heap.size v l ∧ Sat (fun _=>False) w wr L []
theorem GrowS.quiet {w wr w':World} {L:List Ent} {v:Value} {l:List UInt8} (h:GrowS w wr L v l) (hm:Mod (fun _=>False) wr w'):GrowS w w' L v l:=⟨h.1.quiet hm,h.2.quiet hm⟩
theorem GrowS.app {w wr w':World} {L:List Ent} {v v':Value} {l l':List UInt8} (h:GrowS w wr L v l) (hL:∀ e ∈ L,e.t ≠ 5) (ho:Bytes w' w.heap.size v' l') (hm:Mod (fun j=>v.ownBlock = some j) wr w'):GrowS w w' L v' l':=
 ⟨ho,Sat.beside hm h.2 (fun j e=>.inr (World.ownsRow.lt h.1 j e).1) (fun e he hb=>h.1.apart (h.2.blk e he) (hL e (by simpa using he)) hb)⟩
def FB1 (w:World) (L:List Ent) (f:Nat → UInt8) (v13 v14:Value) (wr:World):Prop:=∃ j:Nat,j ≤ 8 ∧ v14 = .int .i64 (j:Int) ∧ GrowS w wr L v13 (rowTil f (j * 8))
def FB2 (w:World) (L:List Ent) (f:Nat → UInt8) (j:Nat) (v13 v15:Value) (wr:World):Prop:=∃ i:Nat,i ≤ 8 ∧ v15 = .int .i64 (i:Int) ∧ GrowS w wr L v13 (rowTil f (j * 8 + i))
theorem fMvBlock (w:World) (W H:Nat) (A:Option Addr) (n c:Nat) (pix:List UInt8) (h:sidesB W H = true) (hn:n = W * H) (hin:BytesIn w A n c pix) (x y:Nat) (vx vy:Int) (hx:x ≤ 4096) (hy:y ≤ 4096) (hvx:-128 ≤ vx ∧ vx ≤ 128) (hvy:-128 ≤ vy ∧ vy ≤ 128) :
  Calls Tryz.prog 164 #[.agg #[.int .i64 (W:Int),.int .i64 (H:Int),.slice A n c],.int .i64 (x:Int),.int .i64 (y:Int),.int .i64 8,.agg #[.int .i64 vx,.int .i64 vy]] w
   fun e w'=>∃ v,e = .returned v ∧ Bytes w' w.heap.size v (mvL W H pix x y 8 vx vy) ∧ Mod (fun _=>False) w w':=by
 have HI:=Lib.hid (And.intro h (And.intro hn hin))
 clear h hin hn
 obtain ⟨hvx1,hvx2⟩:=hvx
 obtain ⟨hvy1,hvy2⟩:=hvy
 have h0:=((Sat.nil (fun _=>False) w).alloc 38 #[.int .i64 (W:Int),.int .i64 (H:Int),.slice A n c] rfl).alloc (g:=w.heap.size + 1) 156 #[.int .i64 vx,.int .i64 vy] (by simp)
 have H0:=Lib.hid h0
 clear h0
 go_enter Tryz.func164,Tryz.ntmps164
 go_wp2_with fail
 refine (fPRight _ W H A n c HI.out.1 HI.out.2.1).mono ?_
 rintro e w1 ⟨rfl,hm1⟩
 have HS:=H0.out.quiet hm1
 obtain ⟨pc,pf⟩:=(HS.own_ 1 rfl).both
 obtain ⟨vc,vf⟩:=(HS.own_ 0 rfl).both
 have HG0:Hid (GrowS w w1 _ (.slice none 0 0) (rowTil (mvF W H pix x y 8 vx vy) (0 * 8))):=⟨World.ownsRow_nil _ _ _ _,HS⟩
 clear hm1 HS H0
 go_wp2_with fail
 refine (fSmall _ _ ⟨by omega,by omega⟩).mono ?_
 rintro e w2 ⟨rfl,rfl⟩
 go_wp2_with fail
 refine (fSmall _ _ ⟨by omega,by omega⟩).mono ?_
 rintro e w2 ⟨rfl,rfl⟩
 go_wp2_with fail
 refine (fSmall _ _ ⟨by omega,by omega⟩).mono ?_
 rintro e w2 ⟨rfl,rfl⟩
 go_wp2_with fail
 refine (fSmall _ _ ⟨by omega,by omega⟩).mono ?_
 rintro e w2 ⟨rfl,rfl⟩
 go_wp2_with fail
 go_loopw [14,15] (FB1 w _ (mvF W H pix x y 8 vx vy)) (fun _ s _=>8 - (intOf s).toNat)
 case atStart=>exact ⟨0,by omega,rfl,HG0.out⟩
 case round=>
  clear HG0 pc pf vc vf
  obtain ⟨j,hj,rfl,hG⟩:=hrel
  have HG:=Lib.hid hG
  clear hG
  by_cases hlt:j < 8
  ·have d1:decide ((j:Int) < 8) = true:=decide_eq_true (by omega)
   go_wp2_with fail
   go_loopw [14,16] (FB2 w _ (mvF W H pix x y 8 vx vy) j) (fun _ s _=>8 - (intOf s).toNat)
   case atStart=>exact ⟨0,by omega,rfl,HG.out⟩
   case round=>
    clear HG
    rename World=>w5
    obtain ⟨i,hi,rfl,hG⟩:=hrel
    by_cases hli:i < 8
    ·have d2:decide ((i:Int) < 8) = true:=decide_eq_true (by omega)
     obtain ⟨pc,pf⟩:=(hG.2.own_ 1 rfl).both
     obtain ⟨vc,vf⟩:=(hG.2.own_ 0 rfl).both
     have hff:smpN W H pix (2 * ((x:Int) + (i:Int)) + vx) (2 * ((y:Int) + (j:Int)) + vy) = (mvF W H pix x y 8 vx vy (j * 8 + i)).toNat:=(mvF_at _ _ _ _ _ _ _ _ _ _ hli).symm
     have HK:=Lib.hid (And.intro hG hff)
     clear hG hff
     go_wp2_with fail
     refine (fMvSample _ W H A n c pix HI.out.1 HI.out.2.1 (HI.out.2.2.quiet HK.out.1.2.mod) _ _ ⟨by omega,by omega⟩ ⟨by omega,by omega⟩).mono ?_
     rintro e w6 ⟨rfl,hm6⟩
     rw [HK.out.2]
     have HA:=Lib.hid (And.intro (HK.out.1.quiet hm6) ((HK.out.1.quiet hm6).2.mod.size))
     clear hm6 pc pf vc vf
     go_wp2_with (at_builtin;have _t:=HA;refine wpList_app_u8 _ rfl (.tmp 61) (.tmp 78) rfl w.heap.size _ (rowTil (mvF W H pix x y 8 vx vy) (j * 8 + i)) (mvF W H pix x y 8 vx vy (j * 8 + i)) rfl rfl HA.out.1.1 HA.out.2 (by rw [rowTil_length];omega) ?_;intro v7 w7 hown7 hM7 _ _;have HO:=Lib.hid (HA.out.1.app (by intro e he;simp at he;rcases he with rfl | rfl <;> (dsimp only;decide)) hown7 hM7);clear hown7 hM7)
     go_roundw
     case rel=>exact ⟨i + 1,by omega,by go_num,by rw [← Nat.add_assoc,rowTil_succ];exact HO.out⟩
     case measure=>simp [intOf];omega
    ·obtain rfl:i = 8:=by omega
     have HK:=Lib.hid hG
     clear hG
     go_wp2_with fail
     go_roundw
     case rel=>exact ⟨j + 1,by omega,by go_num,by rw [Nat.add_mul,Nat.one_mul];exact HK.out⟩
     case measure=>simp [intOf];omega
  ·obtain rfl:j = 8:=by omega
   go_wp2_with fail
   go_ret
   exact ⟨_,rfl,HG.out.1,HG.out.2.mod⟩
theorem fChroma (w:World) (vx vy:Int) (hx:-1048576 ≤ vx ∧ vx ≤ 1048576) (hy:-1048576 ≤ vy ∧ vy ≤ 1048576):Calls Tryz.prog 163 #[.agg #[.int .i64 vx,.int .i64 vy]] w fun e w'=>e = .returned (.agg #[.int .i64 (vx / 2),.int .i64 (vy / 2)]) ∧ Mod (fun _=>False) w w':=by
 obtain ⟨hx1,hx2⟩:=hx
 obtain ⟨hy1,hy2⟩:=hy
 have h0:=((Sat.nil (fun _=>False) w).alloc 156 #[.int .i64 vx,.int .i64 vy] rfl).alloc (g:=w.heap.size + 1) 156 #[.int .i64 0,.int .i64 0] (by simp)
 have HS:=h0.drew
 obtain ⟨pc,pf⟩:=(HS.own_ 1 rfl).both
 obtain ⟨qc,qf⟩:=(HS.own_ 0 rfl).both
 have ql:=(HS.own_ 0 rfl).lt
 have H0:=Lib.hid h0
 clear h0 HS
 go_enter Tryz.func163,Tryz.ntmps163
 go_upto_region 1 with (fail)
 refine wp_region_plan [7] [] [0,1,2,3,4,5,6,7] (by kernel_rfl) (by kernel_rfl) (fun _ _ _ d _ h=>by cases d <;> exact h) ?_
 refine plan_still rfl rfl (fun K hK=>?_);go_simp;refine hK _ ?_;clear hK K
 refine plan_still rfl rfl (fun K hK=>?_);go_simp;refine hK _ ?_;clear hK K
 refine plan_still rfl rfl (fun K hK=>?_)
 go_simp
 refine ⟨_,(fFloor _ vx 2 ⟨by omega,by omega⟩ ⟨by omega,by omega⟩).mono (fun _ _ ⟨a,b⟩=>⟨a,b.symm⟩),hK _ ?_⟩
 clear hK K
 refine plan_still rfl rfl (fun K hK=>?_);go_simp;refine hK _ ?_;clear hK K
 refine plan_still rfl rfl (fun K hK=>?_);go_simp;refine hK _ ?_;clear hK K
 refine plan_still rfl rfl (fun K hK=>?_)
 go_simp
 refine ⟨_,(fFloor _ vy 2 ⟨by omega,by omega⟩ ⟨by omega,by omega⟩).mono (fun _ _ ⟨a,b⟩=>⟨a,b.symm⟩),hK _ ?_⟩
 clear hK K
 refine plan_still rfl rfl (fun K hK=>?_);go_simp;refine hK _ ?_;clear hK K
 refine plan_loud rfl rfl (fun K hK=>?_);go_simp;refine hK _ _ ?_;clear hK K
 refine plan_done ?_
 go_wp2_with fail
 refine bodyPost_ret (v:=.agg #[.int .i64 (vx / 2),.int .i64 (vy / 2)]) (by simp [results,Tryz.results163,go_sem]) rfl ⟨rfl,?_⟩
 exact (((Mod.refl _ _).alloc _).alloc _).drew
theorem smoved_zero {W H:Nat} (pix:List UInt8) {x y:Nat} (pl:Nat) (hx:x + 8 ≤ W) (hy:y + 8 ≤ H):smoved W H pix x y pl 0 0 = sqL W pix x y 8:=by
 have h0:(if 0 < pl then (0:Int) / 2 else 0) = 0:=by split <;> rfl
 unfold smoved
 rw [h0]
 unfold mvL sqL
 refine List.map_congr_left fun k hk=>?_
 have hk64:k < 64:=by simpa using hk
 have e1:mvF W H pix (x:Int) (y:Int) 8 0 0 k = patL W H pix ((x + k % 8:Nat):Int) ((y + k / 8:Nat):Int):=by
  unfold mvF smpN
  rw [if_pos (by omega),if_pos (by omega),show (2 * ((x:Int) + ((k % 8:Nat):Int)) + 0) / 2 = ((x + k % 8:Nat):Int) by omega,show (2 * ((y:Int) + ((k / 8:Nat):Int)) + 0) / 2 = ((y + k / 8:Nat):Int) by omega]
  exact UInt8.ofNat_toNat
 rw [e1]
 unfold patL sqF
 rw [near_in (by omega),near_in (by omega)]
def rsStep (W H:Nat) (pix:List UInt8) (x y:Nat) (b:List UInt8) (vx vy:Int) (f:Found):Found:=
 if mvFar W H pix x y b vx vy < f.far ∨ mvFar W H pix x y b vx vy = f.far ∧ aheadB vx vy f.vx f.vy = true then ⟨vx,vy,mvFar W H pix x y b vx vy⟩ else f
theorem ahead_zero (vx vy:Int):aheadB vx vy 0 0 = false:=by
 unfold aheadB
 by_cases h:vx = 0 ∧ vy = 0
 ·obtain ⟨rfl,rfl⟩:=h;decide
 ·rw [if_pos (by show ¬ _ = (0:Int).natAbs + (0:Int).natAbs;omega)]
  exact decide_eq_false (by show ¬ _ < (0:Int).natAbs + (0:Int).natAbs;omega)
theorem seTo_inv (W H:Nat) (pix:List UInt8) (x y:Nat) (b:List UInt8) (k:Nat):(seTo W H pix x y b k).far ≤ mvFar W H pix x y b 0 0 ∧ ((seTo W H pix x y b k).far = mvFar W H pix x y b 0 0 → (seTo W H pix x y b k).vx = 0 ∧ (seTo W H pix x y b k).vy = 0):=by
 induction k with
 | zero=>exact ⟨Nat.le_refl _,fun _=>⟨rfl,rfl⟩⟩
 | succ k ih=>
  unfold seTo seStep
  generalize seTo W H pix x y b k = f at *
  split
  ·exact ih
  ·split
   ·rename_i h
    rcases h with h | ⟨h1,h2⟩
    ·exact ⟨by show mvFar W H pix x y b _ _ ≤ _;omega,fun e=>by
      have e2:mvFar W H pix x y b (((k % 9:Nat):Int) - 4) (((k / 9:Nat):Int) - 4) = mvFar W H pix x y b 0 0:=e
      omega⟩
    ·refine ⟨by show mvFar W H pix x y b _ _ ≤ _;omega,fun e=>?_⟩
     have e2:mvFar W H pix x y b (((k % 9:Nat):Int) - 4) (((k / 9:Nat):Int) - 4) = mvFar W H pix x y b 0 0:=e
     obtain ⟨q1,q2⟩:=ih.2 (by omega)
     rw [q1,q2,ahead_zero] at h2
     cases h2
   ·exact ih
theorem seTo_next (W H:Nat) (pix:List UInt8) (x y:Nat) (b:List UInt8) (k:Nat):seTo W H pix x y b (k + 1) = rsStep W H pix x y b (((k % 9:Nat):Int) - 4) (((k / 9:Nat):Int) - 4) (seTo W H pix x y b k):=by
 have hi:=seTo_inv W H pix x y b k
 show seStep W H pix x y b _ _ _ = _
 generalize seTo W H pix x y b k = f at *
 unfold seStep rsStep
 by_cases h:(((k % 9:Nat):Int) - 4) = 0 ∧ (((k / 9:Nat):Int) - 4) = 0
 ·rw [if_pos h,h.1,h.2,if_neg]
  rintro (h1 | ⟨h1,h2⟩)
  ·omega
  ·obtain ⟨q1,q2⟩:=hi.2 h1.symm
   rw [q1,q2,ahead_zero] at h2
   cases h2
 ·rw [if_neg h]
end Go.Proofs.YtmkopcojnibhlaaGreatDoor

