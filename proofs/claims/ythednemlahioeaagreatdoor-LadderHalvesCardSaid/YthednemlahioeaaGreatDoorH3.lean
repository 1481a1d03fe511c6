/-
  motion: half, across, down.
-/
import Derived.Test.YthednemlahioeaaGreatDoorH1
import Derived.Test.YthednemlahioeaaGreatDoorH2
namespace Go.Proofs.YthednemlahioeaaGreatDoor
open Go.RowKit
set_option maxRecDepth 100000
set_option maxHeartbeats 8000000
def fillL (f:Nat → UInt8) (n k:Nat):List UInt8:=(List.range n).map fun i=>if i < k then f i else 0
theorem fillL_length (f:Nat → UInt8) (n k:Nat):(fillL f n k).length = n:=by simp [fillL]
theorem fillL_zero (f:Nat → UInt8) (n:Nat):fillL f n 0 = List.replicate n 0:=by
 unfold fillL
 refine List.ext_getElem (by simp) fun i h1 h2=>?_
 simp
theorem fillL_all (f:Nat → UInt8) (n:Nat):fillL f n n = (List.range n).map f:=by
 unfold fillL
 refine List.map_congr_left fun i hi=>if_pos (List.mem_range.1 hi)
theorem fillL_set (f:Nat → UInt8) (n k:Nat):(fillL f n k).set k (f k) = fillL f n (k + 1):=by
 unfold fillL
 refine List.ext_getElem (by simp) fun i h1 h2=>?_
 simp only [List.getElem_set,List.getElem_map,List.getElem_range]
 by_cases e:k = i
 ·subst e;simp
 ·rw [if_neg e]
  by_cases h:i < k
  ·rw [if_pos h,if_pos (by omega)]
  ·rw [if_neg h,if_neg (by omega)]
def halfI (a b c d e f:Int):Int:=(a - 5 * b + 20 * c + 20 * d - 5 * e + f + 16) / 32
def halfN (a b c d e f:Nat):Nat:=clipN (halfI a b c d e f)
theorem halfN_lt (a b c d e f:Nat):halfN a b c d e f < 256:=clipN_lt _
theorem mHalf (w:World) (a b c d e f:Nat) (ha:a < 256) (hb:b < 256) (hc:c < 256) (hd:d < 256) (he:e < 256) (hf:f < 256) :
  Calls Tryz.prog 412 #[.agg #[.int .u8 (a:Int),.int .u8 (b:Int),.int .u8 (c:Int),.int .u8 (d:Int),.int .u8 (e:Int),.int .u8 (f:Int)]] w fun r w'=>r = .returned (.int .u8 ((halfN a b c d e f:Nat):Int)) ∧ Mod (fun _=>False) w w':=by
 go_enter Tryz.func412,Tryz.ntmps412
 go_wp2_with fail
 all_goals
  go_ret
  refine ⟨congrArg (fun z=>Ending.returned (.int .u8 z)) ?_,(Mod.refl _ _).alloc _⟩
  unfold halfN clipN halfI
  (repeat' split) <;> omega
def acrN (W H:Nat) (pix:List UInt8) (x y:Int):Nat:=
 halfN (patL W H pix (x - 2) y).toNat (patL W H pix (x - 2 + 1) y).toNat (patL W H pix (x - 2 + 2) y).toNat (patL W H pix (x - 2 + 3) y).toNat (patL W H pix (x - 2 + 4) y).toNat (patL W H pix (x - 2 + 5) y).toNat
def dwnN (W H:Nat) (pix:List UInt8) (x y:Int):Nat:=
 halfN (patL W H pix x (y - 2)).toNat (patL W H pix x (y - 2 + 1)).toNat (patL W H pix x (y - 2 + 2)).toNat (patL W H pix x (y - 2 + 3)).toNat (patL W H pix x (y - 2 + 4)).toNat (patL W H pix x (y - 2 + 5)).toNat
theorem fill6 (f:Nat → UInt8):(u8s (fillL f 6 6)).toArray = #[.int .u8 ((f 0).toNat:Int),.int .u8 ((f 1).toNat:Int),.int .u8 ((f 2).toNat:Int),.int .u8 ((f 3).toNat:Int),.int .u8 ((f 4).toNat:Int),.int .u8 ((f 5).toNat:Int)]:=rfl
theorem fill6_0 (f:Nat → UInt8):(u8s (fillL f 6 0)).toArray = #[.int .u8 0,.int .u8 0,.int .u8 0,.int .u8 0,.int .u8 0,.int .u8 0]:=rfl
theorem fill_set (f:Nat → UInt8) (n k:Nat):(u8s (fillL f n k)).toArray.setIfInBounds k (.int .u8 ((f k).toNat:Int)) = (u8s (fillL f n (k + 1))).toArray:=by
 rw [← fillL_set]
 unfold u8s
 rw [List.map_set]
 simp
theorem fill_cell {w:World} {q n k:Nat} {t:TypeId} {f:Nat → UInt8} (hb:Blk w q t (u8s (fillL f n k)).toArray) (hk:k < n):w.cell? ⟨q,k,none⟩ = some (.int .u8 0):=by
 rw [hb.cell,List.getElem?_toArray]
 unfold u8s fillL
 simp [hk]
theorem pAt' (w:World) (W H:Nat) (A:Option Addr) (n c:Nat) (pix:List UInt8) (h:sidesB W H = true) (hn:n = W * H) (hin:BytesIn w A (W * H) c pix) (x y:Int) :
  Calls Tryz.prog 392 #[.agg #[.int .i64 (W:Int),.int .i64 (H:Int),.slice A n c],.int .i64 x,.int .i64 y] w fun e w'=>e = .returned (.int .u8 ((patL W H pix x y).toNat:Int)) ∧ Mod (fun _=>False) w w':=by
 subst hn
 exact pAt w W H A c pix h hin x y
def SixRel (w:World) (p q:Nat) (pv:Array Value) (f:Nat → UInt8) (i:Value) (wr:World):Prop:=
 ∃ k:Nat,k ≤ 6 ∧ i = .int .i64 (k:Int) ∧ Sat (fun _=>False) w wr [⟨q,486,(u8s (fillL f 6 k)).toArray⟩,⟨p,56,pv⟩] []
theorem mAcross (w:World) (W H:Nat) (A:Option Addr) (c:Nat) (pix:List UInt8) (h:sidesB W H = true) (hin:BytesIn w A (W * H) c pix) (x y:Int) (hx:-1073741824 ≤ x ∧ x ≤ 1073741824) :
  Calls Tryz.prog 393 #[.agg #[.int .i64 (W:Int),.int .i64 (H:Int),.slice A (W * H) c],.int .i64 x,.int .i64 y] w fun e w'=>e = .returned (.int .u8 ((acrN W H pix x y:Nat):Int)) ∧ Mod (fun _=>False) w w':=by
 obtain ⟨n,hn⟩:∃ n,n = W * H:=⟨_,rfl⟩
 have HI:=Lib.hid (And.intro h (And.intro hin hn))
 rw [← hn]
 clear h hin hn
 have h0:=(Sat.nil (fun _=>False) w)
 obtain ⟨hx1,hx2⟩:=hx
 go_enter Tryz.func393,Tryz.ntmps393
 go_wp2_with fail
 obtain ⟨f,hf⟩:∃ f:Nat → UInt8,f = fun (i:Nat)=>patL W H pix (x - 2 + (i:Int)) y:=⟨_,rfl⟩
 have HF:=Lib.hid hf
 clear hf
 go_loopw [9] (SixRel w w.heap.size (w.heap.size + 1) #[.int .i64 (W:Int),.int .i64 (H:Int),.slice A n c] f) (fun i _=>6 - (intOf i).toNat)
 case atStart=>exact ⟨0,by omega,rfl,by rw [fill6_0];exact (by repeat' (first | with_reducible exact h0 | with_reducible refine Sat.put ?_ ?_ | with_reducible refine Sat.alloc ?_ _ _ ?_ | with_reducible rfl | (show (World.heap _).size = _;simp;done) | with_reducible refine Sat.drewN ?_ _ | with_reducible refine Sat.drew ?_ | exact Upd.here rfl | exact Upd.there (Upd.here rfl) | exact Upd.there (Upd.there (Upd.here rfl)) | exact Upd.there (Upd.there (Upd.there (Upd.here rfl))) | exact Upd.there (Upd.there (Upd.there (Upd.there (Upd.here rfl))))))⟩
 case round=>
  obtain ⟨k,hk,rfl,HS⟩:=hrel
  obtain ⟨pc,pf⟩:=(HS.own_ 1 rfl).both
  obtain ⟨qc,qf⟩:=(HS.own_ 0 rfl).both
  have pl:=(HS.own_ 1 rfl).lt
  have ql:=(HS.own_ 0 rfl).lt
  have HH:=Lib.hid HS
  clear HS
  by_cases hlt:k < 6
  ·have d1:decide ((k:Int) < 6) = true:=decide_eq_true (by omega)
   have hfk:patL W H pix (x - 2 + (k:Int)) y = f k:=by rw [HF.out]
   have HK:=Lib.hid hfk
   clear hfk qc qf
   go_wp2_with fail
   refine (pAt' _ W H A n c pix HI.out.1 HI.out.2.2 (HI.out.2.1.quiet HH.out.mod) _ _).mono ?_
   rintro e w1 ⟨rfl,hm1⟩
   have HS1:=Sat.after hm1 HH.out
   clear hm1 pc pf pl ql
   have qf:=(HS1.own_ 0 rfl).frozen
   have ql:=(HS1.own_ 0 rfl).lt
   have q0:=fill_cell (HS1.own_ 0 rfl) hlt
   have HG:=Lib.hid HS1
   clear HS1
   rw [HK.out]
   go_wp2_with fail
   go_roundw
   case rel=>exact ⟨k + 1,by omega,by go_num,HG.out.put (Upd.here (fill_set f 6 k))⟩
   case measure=>simp [intOf];omega
  ·obtain rfl:k = 6:=by omega
   have hb:=HH.out.own_ 0 rfl
   rw [fill6] at hb
   have q0:wr.cell? ⟨w.heap.size + 1,0,none⟩ = some (.int .u8 ((f 0).toNat:Int)):=hb.cell 0
   have q1:wr.cell? ⟨w.heap.size + 1,1,none⟩ = some (.int .u8 ((f 1).toNat:Int)):=hb.cell 1
   have q2:wr.cell? ⟨w.heap.size + 1,2,none⟩ = some (.int .u8 ((f 2).toNat:Int)):=hb.cell 2
   have q3:wr.cell? ⟨w.heap.size + 1,3,none⟩ = some (.int .u8 ((f 3).toNat:Int)):=hb.cell 3
   have q4:wr.cell? ⟨w.heap.size + 1,4,none⟩ = some (.int .u8 ((f 4).toNat:Int)):=hb.cell 4
   have q5:wr.cell? ⟨w.heap.size + 1,5,none⟩ = some (.int .u8 ((f 5).toNat:Int)):=hb.cell 5
   clear hb pc pf pl qc qf
   go_wp2_with fail
   refine (mHalf _ _ _ _ _ _ _ (UInt8.toNat_lt _) (UInt8.toNat_lt _) (UInt8.toNat_lt _) (UInt8.toNat_lt _) (UInt8.toNat_lt _) (UInt8.toNat_lt _)).mono ?_
   rintro e w1 ⟨rfl,hm1⟩
   have hM:=HH.out.mod.trans hm1
   clear hm1 ql q0 q1 q2 q3 q4 q5
   go_wp2_with fail
   go_ret
   exact ⟨by rw [HF.out];simp [acrN],hM⟩
theorem mDown (w:World) (W H:Nat) (A:Option Addr) (c:Nat) (pix:List UInt8) (h:sidesB W H = true) (hin:BytesIn w A (W * H) c pix) (x y:Int) (hx:-1073741824 ≤ y ∧ y ≤ 1073741824) :
  Calls Tryz.prog 394 #[.agg #[.int .i64 (W:Int),.int .i64 (H:Int),.slice A (W * H) c],.int .i64 x,.int .i64 y] w fun e w'=>e = .returned (.int .u8 ((dwnN W H pix x y:Nat):Int)) ∧ Mod (fun _=>False) w w':=by
 obtain ⟨n,hn⟩:∃ n,n = W * H:=⟨_,rfl⟩
 have HI:=Lib.hid (And.intro h (And.intro hin hn))
 rw [← hn]
 clear h hin hn
 have h0:=(Sat.nil (fun _=>False) w)
 obtain ⟨hx1,hx2⟩:=hx
 go_enter Tryz.func394,Tryz.ntmps394
 go_wp2_with fail
 obtain ⟨f,hf⟩:∃ f:Nat → UInt8,f = fun (i:Nat)=>patL W H pix x (y - 2 + (i:Int)):=⟨_,rfl⟩
 have HF:=Lib.hid hf
 clear hf
 go_loopw [9] (SixRel w w.heap.size (w.heap.size + 1) #[.int .i64 (W:Int),.int .i64 (H:Int),.slice A n c] f) (fun i _=>6 - (intOf i).toNat)
 case atStart=>exact ⟨0,by omega,rfl,by rw [fill6_0];exact (by repeat' (first | with_reducible exact h0 | with_reducible refine Sat.put ?_ ?_ | with_reducible refine Sat.alloc ?_ _ _ ?_ | with_reducible rfl | (show (World.heap _).size = _;simp;done) | with_reducible refine Sat.drewN ?_ _ | with_reducible refine Sat.drew ?_ | exact Upd.here rfl | exact Upd.there (Upd.here rfl) | exact Upd.there (Upd.there (Upd.here rfl)) | exact Upd.there (Upd.there (Upd.there (Upd.here rfl))) | exact Upd.there (Upd.there (Upd.there (Upd.there (Upd.here rfl))))))⟩
 case round=>
  obtain ⟨k,hk,rfl,HS⟩:=hrel
  obtain ⟨pc,pf⟩:=(HS.own_ 1 rfl).both
  obtain ⟨qc,qf⟩:=(HS.own_ 0 rfl).both
  have pl:=(HS.own_ 1 rfl).lt
  have ql:=(HS.own_ 0 rfl).lt
  have HH:=Lib.hid HS
  clear HS
  by_cases hlt:k < 6
  ·have d1:decide ((k:Int) < 6) = true:=decide_eq_true (by omega)
   have hfk:patL W H pix x (y - 2 + (k:Int)) = f k:=by rw [HF.out]
   have HK:=Lib.hid hfk
   clear hfk qc qf
   go_wp2_with fail
   refine (pAt' _ W H A n c pix HI.out.1 HI.out.2.2 (HI.out.2.1.quiet HH.out.mod) _ _).mono ?_
   rintro e w1 ⟨rfl,hm1⟩
   have HS1:=Sat.after hm1 HH.out
   clear hm1 pc pf pl ql
   have qf:=(HS1.own_ 0 rfl).frozen
   have ql:=(HS1.own_ 0 rfl).lt
   have q0:=fill_cell (HS1.own_ 0 rfl) hlt
   have HG:=Lib.hid HS1
   clear HS1
   rw [HK.out]
   go_wp2_with fail
   go_roundw
   case rel=>exact ⟨k + 1,by omega,by go_num,HG.out.put (Upd.here (fill_set f 6 k))⟩
   case measure=>simp [intOf];omega
  ·obtain rfl:k = 6:=by omega
   have hb:=HH.out.own_ 0 rfl
   rw [fill6] at hb
   have q0:wr.cell? ⟨w.heap.size + 1,0,none⟩ = some (.int .u8 ((f 0).toNat:Int)):=hb.cell 0
   have q1:wr.cell? ⟨w.heap.size + 1,1,none⟩ = some (.int .u8 ((f 1).toNat:Int)):=hb.cell 1
   have q2:wr.cell? ⟨w.heap.size + 1,2,none⟩ = some (.int .u8 ((f 2).toNat:Int)):=hb.cell 2
   have q3:wr.cell? ⟨w.heap.size + 1,3,none⟩ = some (.int .u8 ((f 3).toNat:Int)):=hb.cell 3
   have q4:wr.cell? ⟨w.heap.size + 1,4,none⟩ = some (.int .u8 ((f 4).toNat:Int)):=hb.cell 4
   have q5:wr.cell? ⟨w.heap.size + 1,5,none⟩ = some (.int .u8 ((f 5).toNat:Int)):=hb.cell 5
   clear hb pc pf pl qc qf
   go_wp2_with fail
   refine (mHalf _ _ _ _ _ _ _ (UInt8.toNat_lt _) (UInt8.toNat_lt _) (UInt8.toNat_lt _) (UInt8.toNat_lt _) (UInt8.toNat_lt _) (UInt8.toNat_lt _)).mono ?_
   rintro e w1 ⟨rfl,hm1⟩
   have hM:=HH.out.mod.trans hm1
   clear hm1 ql q0 q1 q2 q3 q4 q5
   go_wp2_with fail
   go_ret
   exact ⟨by rw [HF.out];simp [dwnN],hM⟩
def arL (ab lf:List UInt8) (co:UInt8):List Value:=.int .i64 8 :: (u8s ab ++ (u8s lf ++ [.int .u8 (co.toNat:Int)]))
def arV (ab lf:List UInt8) (co:UInt8):Array Value:=(arL ab lf co).toArray
section
variable {ab lf : List UInt8} {co : UInt8} {w : World} {p : Nat}
theorem ar_n (hb:Blk w p 478 (arV ab lf co)):w.cell? ⟨p,0,none⟩ = some (.int .i64 8):=hb.cell 0
theorem ar_above (hb:Blk w p 478 (arV ab lf co)) (h1:ab.length = 8) {i:Nat} (hi:i < 8):w.cell? ⟨p,1 + i,none⟩ = some (.int .u8 ((ab.getD i 0).toNat:Int)):=by
 rw [hb.cell,arV,List.getElem?_toArray,arL,Nat.add_comm 1 i,List.getElem?_cons_succ,List.getElem?_append_left (by rw [u8s_length];omega)]
 simp [u8s,h1,hi]
theorem ar_left (hb:Blk w p 478 (arV ab lf co)) (h1:ab.length = 8) (h2:lf.length = 8) {i:Nat} (hi:i < 8):w.cell? ⟨p,9 + i,none⟩ = some (.int .u8 ((lf.getD i 0).toNat:Int)):=by
 rw [hb.cell,arV,List.getElem?_toArray,arL,show 9 + i = (8 + i) + 1 by omega,List.getElem?_cons_succ,List.getElem?_append_right (by rw [u8s_length];omega),u8s_length,h1,Nat.add_sub_cancel_left,List.getElem?_append_left (by rw [u8s_length];omega)]
 simp [u8s,h2,hi]
theorem ar_corner (hb:Blk w p 478 (arV ab lf co)) (h1:ab.length = 8) (h2:lf.length = 8):w.cell? ⟨p,17,none⟩ = some (.int .u8 (co.toNat:Int)):=by
 rw [hb.cell,arV,List.getElem?_toArray,arL,show 17 = 16 + 1 by omega,List.getElem?_cons_succ,List.getElem?_append_right (by rw [u8s_length];omega),u8s_length,h1,List.getElem?_append_right (by rw [u8s_length];omega),u8s_length,h2]
 rfl
theorem ar_set_above {v:Nat} (h1:ab.length = 8) {i:Nat} (hi:i < 8) (hv:v < 256):(arV ab lf co).setIfInBounds (1 + i) (.int .u8 (v:Int)) = arV (ab.set i (UInt8.ofNat v)) lf co:=by
 have e:=u8s_set ab i v hv
 unfold arV arL
 rw [List.setIfInBounds_toArray,Nat.add_comm 1 i,List.set_cons_succ,List.set_append_left _ _ (by rw [u8s_length];omega),e]
theorem ar_set_left {v:Nat} (h1:ab.length = 8) (h2:lf.length = 8) {i:Nat} (hi:i < 8) (hv:v < 256):(arV ab lf co).setIfInBounds (9 + i) (.int .u8 (v:Int)) = arV ab (lf.set i (UInt8.ofNat v)) co:=by
 have e:=u8s_set lf i v hv
 unfold arV arL
 rw [List.setIfInBounds_toArray,show 9 + i = (8 + i) + 1 by omega,List.set_cons_succ,List.set_append_right _ _ (by rw [u8s_length];omega),u8s_length,h1,Nat.add_sub_cancel_left,List.set_append_left _ _ (by rw [u8s_length];omega),e]
theorem ar_set_corner {v:Nat} (h1:ab.length = 8) (h2:lf.length = 8) (hv:v < 256):(arV ab lf co).setIfInBounds 17 (.int .u8 (v:Int)) = arV ab lf (UInt8.ofNat v):=by
 unfold arV arL
 rw [List.setIfInBounds_toArray,show 17 = 16 + 1 by omega,List.set_cons_succ,List.set_append_right _ _ (by rw [u8s_length];omega),u8s_length,h1,List.set_append_right _ _ (by rw [u8s_length];omega),u8s_length,h2]
 simp [UInt8.toNat_ofNat',Nat.mod_eq_of_lt hv]
end
theorem iDown (w:World) (ab lf:List UInt8) (co:UInt8) (h1:ab.length = 8) (x:Nat) (y:Int) (hx:x < 8):Calls Tryz.prog 396 #[.agg (arV ab lf co),.int .i64 (x:Int),.int .i64 y] w fun e w'=>e = .returned (.int .u8 ((ab.getD x 0).toNat:Int)) ∧ Mod (fun _=>False) w w':=by
 have hb:Blk (w.alloc (.cells (arV ab lf co) 478)) w.heap.size 478 (arV ab lf co):=Blk.new _ _ _
 have k0:=ar_above hb h1 hx
 generalize (ab.getD x 0).toNat = v at *
 generalize arV ab lf co = cs at *
 clear hb
 go_enter Tryz.func396,Tryz.ntmps396
 go_wp2_with fail
 go_ret
 exact ⟨rfl,(Mod.refl _ _).alloc _⟩
theorem iAcross (w:World) (ab lf:List UInt8) (co:UInt8) (h1:ab.length = 8) (h2:lf.length = 8) (x:Int) (y:Nat) (hy:y < 8):Calls Tryz.prog 397 #[.agg (arV ab lf co),.int .i64 x,.int .i64 (y:Int)] w fun e w'=>e = .returned (.int .u8 ((lf.getD y 0).toNat:Int)) ∧ Mod (fun _=>False) w w':=by
 have hb:Blk (w.alloc (.cells (arV ab lf co) 478)) w.heap.size 478 (arV ab lf co):=Blk.new _ _ _
 have k0:=ar_left hb h1 h2 hy
 generalize (lf.getD y 0).toNat = v at *
 generalize arV ab lf co = cs at *
 clear hb
 go_enter Tryz.func397,Tryz.ntmps397
 go_wp2_with fail
 go_ret
 exact ⟨rfl,(Mod.refl _ _).alloc _⟩
def slopeN (ab lf:List UInt8) (co:UInt8) (x y:Nat):Nat:=clipN (((ab.getD x 0).toNat:Int) + ((lf.getD y 0).toNat:Int) - (co.toNat:Int))
theorem iSlope (w:World) (ab lf:List UInt8) (co:UInt8) (h1:ab.length = 8) (h2:lf.length = 8) (x y:Nat) (hx:x < 8) (hy:y < 8):Calls Tryz.prog 398 #[.agg (arV ab lf co),.int .i64 (x:Int),.int .i64 (y:Int)] w fun e w'=>e = .returned (.int .u8 ((slopeN ab lf co x y:Nat):Int)) ∧ Mod (fun _=>False) w w':=by
 have hb:Blk (w.alloc (.cells (arV ab lf co) 478)) w.heap.size 478 (arV ab lf co):=Blk.new _ _ _
 have k0:=ar_above hb h1 hx
 have k1:=ar_left hb h1 h2 hy
 have k2:=ar_corner hb h1 h2
 have x0:(ab.getD x 0).toNat < 256:=UInt8.toNat_lt _
 have x1:(lf.getD y 0).toNat < 256:=UInt8.toNat_lt _
 have x2:co.toNat < 256:=UInt8.toNat_lt _
 unfold slopeN
 generalize (ab.getD x 0).toNat = u at *
 generalize (lf.getD y 0).toNat = v at *
 generalize co.toNat = z at *
 have M0:Mod (fun _=>False) w (w.alloc (.cells (arV ab lf co) 478)):=(Mod.refl _ _).alloc _
 generalize arV ab lf co = cs at *
 clear hb
 have e0:IntKind.i64.wrap (u:Int) = (u:Int):=IntWalk.i64_in _ ⟨by omega,by omega⟩
 have e1:IntKind.i64.wrap (v:Int) = (v:Int):=IntWalk.i64_in _ ⟨by omega,by omega⟩
 have e2:IntKind.i64.wrap (z:Int) = (z:Int):=IntWalk.i64_in _ ⟨by omega,by omega⟩
 have e3:IntKind.i64.wrap ((u:Int) + (v:Int)) = (u:Int) + (v:Int):=IntWalk.i64_in _ ⟨by omega,by omega⟩
 have e4:IntKind.i64.wrap ((u:Int) + (v:Int) - (z:Int)) = (u:Int) + (v:Int) - (z:Int):=IntWalk.i64_in _ ⟨by omega,by omega⟩
 have p0:(0:Int) ≤ (x:Int):=by omega
 have p1:(x:Int) < 8:=by omega
 have p2:(0:Int) ≤ (y:Int):=by omega
 have p3:(y:Int) < 8:=by omega
 have q0:-9223372036854775808 ≤ (u:Int) + (v:Int) - (z:Int) ∧ (u:Int) + (v:Int) - (z:Int) ≤ 9223372036854775807:=⟨by omega,by omega⟩
 have HQ:=Lib.hid (And.intro q0 (And.intro M0 (And.intro e0 (And.intro e1 (And.intro e2 (And.intro e3 e4))))))
 clear q0 M0 e0 e1 e2 e3 e4
 go_enter Tryz.func398,Tryz.ntmps398
 go_wp2_with fail
 obtain ⟨_,_,e0,e1,e2,e3,e4⟩:=HQ.out
 go_quiet ((go_at_call 408;exact Calls.quiet_of_same ((clip_any _ _ HQ.out.1).mono fun _ _ ⟨a,b⟩=>⟨a,b.symm⟩)))
 clear e0 e1 e2 e3 e4
 go_wp2_with fail
 go_ret
 exact ⟨rfl,HQ.out.2.1.drewN _⟩
def flS (ab lf:List UInt8):Nat → Nat
 | 0=>8
 | k + 1=>flS ab lf k + ((ab.getD k 0).toNat + (lf.getD k 0).toNat)
theorem flS_le (ab lf:List UInt8):∀ k,flS ab lf k ≤ 8 + 510 * k
 | 0=>Nat.le_refl _
 | k + 1=>by
  have:=flS_le ab lf k
  have h1:(ab.getD k 0).toNat < 256:=UInt8.toNat_lt _
  have h2:(lf.getD k 0).toNat < 256:=UInt8.toNat_lt _
  unfold flS
  omega
def flatN (ab lf:List UInt8):Nat:=flS ab lf 8 / 16
def FlatRel (w:World) (p:Nat) (cs:Array Value) (ab lf:List UInt8) (s7 s13:Value) (wr:World):Prop:=
 ∃ k:Nat,k ≤ 8 ∧ s13 = .int .i64 (k:Int) ∧ s7 = .int .i64 ((flS ab lf k:Nat):Int) ∧ Sat (fun _=>False) w wr [⟨p,478,cs⟩] []
theorem iFlat (w:World) (ab lf:List UInt8) (co:UInt8) (h1:ab.length = 8) (h2:lf.length = 8) (x y:Int):Calls Tryz.prog 395 #[.agg (arV ab lf co),.int .i64 x,.int .i64 y] w fun e w'=>e = .returned (.int .u8 ((flatN ab lf:Nat):Int)) ∧ Mod (fun _=>False) w w':=by
 have HS:=(Sat.nil (fun _=>False) w).alloc 478 (arV ab lf co) rfl
 have k0:=ar_n (HS.own_ 0 rfl)
 have H0:=Lib.hid HS
 clear HS
 obtain ⟨cs,hcs⟩:∃ cs,cs = arV ab lf co:=⟨_,rfl⟩
 rw [← hcs] at k0 H0 ⊢
 have HC:=Lib.hid hcs
 clear hcs
 go_enter Tryz.func395,Tryz.ntmps395
 go_wp2_with fail
 clear k0
 go_loopw [7,13] (FlatRel w w.heap.size cs ab lf) (fun _ s _=>8 - (intOf s).toNat)
 case atStart=>exact ⟨0,by omega,rfl,rfl,H0.out⟩
 case round=>
  clear H0
  obtain ⟨k,hk,rfl,rfl,HS⟩:=hrel
  have hfl:=flS_le ab lf k
  by_cases hlt:k < 8
  ·have hb:=HS.own_ 0 rfl
   dsimp only at hb
   rw [HC.out] at hb
   have c0:=ar_above hb h1 hlt
   have c1:=ar_left hb h1 h2 hlt
   have x0:(ab.getD k 0).toNat < 256:=UInt8.toNat_lt _
   have x1:(lf.getD k 0).toNat < 256:=UInt8.toNat_lt _
   have hst:flS ab lf (k + 1) = flS ab lf k + ((ab.getD k 0).toNat + (lf.getD k 0).toNat):=rfl
   generalize (ab.getD k 0).toNat = u at *
   generalize (lf.getD k 0).toNat = v at *
   obtain ⟨z,hz⟩:∃ z,z = flS ab lf k:=⟨_,rfl⟩
   rw [← hz] at hfl hst ⊢
   have e0:IntKind.i64.wrap (u:Int) = (u:Int):=IntWalk.i64_in _ ⟨by omega,by omega⟩
   have e1:IntKind.i64.wrap (v:Int) = (v:Int):=IntWalk.i64_in _ ⟨by omega,by omega⟩
   have e3:IntKind.i64.wrap ((u:Int) + (v:Int)) = (u:Int) + (v:Int):=IntWalk.i64_in _ ⟨by omega,by omega⟩
   have e4:IntKind.i64.wrap ((z:Int) + ((u:Int) + (v:Int))) = (z:Int) + ((u:Int) + (v:Int)):=IntWalk.i64_in _ ⟨by omega,by omega⟩
   have p0:(0:Int) ≤ (k:Int):=by omega
   have p1:(k:Int) < 8:=by omega
   have HK:=Lib.hid (And.intro HS (And.intro hst (And.intro e0 (And.intro e1 (And.intro e3 e4)))))
   clear HS hst hb e0 e1 e3 e4 hz
   go_upto_region 5 with (fail)
   obtain ⟨_,_,e0,e1,e3,e4⟩:=HK.out
   go_quiet (fail)
   clear e0 e1 e3 e4
   go_wp2_with fail
   go_roundw
   case rel=>exact ⟨k + 1,by omega,by go_num,by rw [HK.out.2.1];go_num,HK.out.1.drewN _⟩
   case measure=>simp [intOf];omega
  ·obtain rfl:k = 8:=by omega
   have k0:wr.cell? ⟨w.heap.size,0,none⟩ = some (.int .i64 8):=by
    have hb:=HS.own_ 0 rfl
    dsimp only at hb
    rw [HC.out] at hb
    exact ar_n hb
   have HK:=Lib.hid HS
   clear HS
   obtain ⟨z,hz⟩:∃ z,z = flS ab lf 8:=⟨_,rfl⟩
   rw [← hz] at hfl ⊢
   have HZ:=Lib.hid hz
   clear hz
   go_wp2_with fail
   go_ret
   refine ⟨congrArg (fun z=>Ending.returned (.int .u8 z)) ?_,HK.out.mod⟩
   unfold flatN
   rw [← HZ.out]
   omega
end Go.Proofs.YthednemlahioeaaGreatDoor

