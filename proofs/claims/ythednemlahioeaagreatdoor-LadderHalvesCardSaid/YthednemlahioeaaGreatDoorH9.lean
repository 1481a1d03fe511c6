/-
  plane.New.
-/
import Derived.Test.YthednemlahioeaaGreatDoorH2
import Derived.Test.YthednemlahioeaaGreatDoorH8
import Derived.Test.YthednemlahioeaaGreatDoorH7
import Derived.Test.YthednemlahioeaaGreatDoorH4
import Derived.RegionTactic
import Derived.BigRegion
namespace Go.Proofs.YthednemlahioeaaGreatDoor
open Go.RowKit
set_option maxRecDepth 100000
set_option maxHeartbeats 8000000
def fillU (n:Nat) (v:UInt8) (k:Nat):List UInt8:=List.replicate k v ++ List.replicate (n - k) 0
theorem fillU_length (n:Nat) (v:UInt8) (k:Nat) (h:k ≤ n):(fillU n v k).length = n:=by simp [fillU];omega
theorem fillU_set (n:Nat) (v:UInt8) (k:Nat) (h:k < n):(u8s (fillU n v k)).set k (.int .u8 (v.toNat:Int)) = u8s (fillU n v (k + 1)):=by
 have e:(fillU n v k).set k v = fillU n v (k + 1):=by
  apply List.ext_getElem
  ·simp [fillU];omega
  ·intro i h1 h2
   rw [List.getElem_set]
   by_cases e:k = i
   ·subst e
    simp [fillU]
   ·rw [if_neg e]
    simp only [fillU,List.getElem_append,List.length_replicate,List.getElem_replicate]
    split <;> split <;> first | rfl | omega
 rw [← e]
 simp [u8s,List.map_set]
theorem fillU_zero (n:Nat) (v:UInt8):fillU n v 0 = List.replicate n 0:=by simp [fillU]
theorem fillU_full (n:Nat) (v:UInt8):fillU n v n = List.replicate n v:=by simp [fillU]
def NewRel (w:World) (res pb g:Nat) (pc:Array Value) (n:Nat) (v:UInt8) (v25:Value) (wr:World):Prop:=
 ∃ k:Nat,k ≤ n ∧ v25 = .int .i64 (k:Int) ∧ Blk wr res 56 #[.int .i64 0,.int .i64 0,.slice none 0 0] ∧ Blk wr pb 56 pc ∧ Blk wr g 5 (u8s (fillU n v k)).toArray ∧ Mod (fun _=>False) w wr
def PlaneMade (w:World) (W H:Nat) (pix:List UInt8) (v:Value) (w':World):Prop:=
 ∃ g,v = .agg #[.int .i64 (W:Int),.int .i64 (H:Int),.slice (some ⟨g,0,none⟩) (W * H) (W * H)] ∧ Blk w' g 5 (u8s pix).toArray ∧ pix.length = W * H ∧ w.heap.size ≤ g
def NewPlane (w:World) (W H:Nat) (v:UInt8) (e:Ending) (w':World):Prop:=
 ∃ p,e = .returned (.tuple #[p,.int .i64 0]) ∧ PlaneMade w W H (List.replicate (W * H) v) p w' ∧ Mod (fun _=>False) w w'
theorem pNew (w:World) (W H:Nat) (v:UInt8) (h:sidesB W H = true):Calls Tryz.prog 90 #[.int .i64 (W:Int),.int .i64 (H:Int),.int .u8 (v.toNat:Int)] w (NewPlane w W H v):=by
 obtain ⟨ha,h1,h2,h3,h4,h5⟩:=area_le h
 obtain ⟨n,hn⟩:∃ n,n = W * H:=⟨_,rfl⟩
 unfold NewPlane PlaneMade
 rw [← hn] at ha h5 ⊢
 have e1:wrap64 ((W:Int) * (H:Int)) = (n:Int):=by
  rw [show (W:Int) * (H:Int) = (n:Int) by rw [hn];simp]
  exact IntWalk.wrap64_in _ ⟨by omega,by omega⟩
 have HE:=Lib.hid e1
 clear hn e1
 go_enter Tryz.func90,Tryz.ntmps90
 go_wp2_with fail
 refine (pSides_yes _ W H h).mono ?_
 rintro e w1 ⟨rfl,rfl⟩
 have hr0:Blk (w.alloc (.cells #[.int .i64 0,.int .i64 0,.slice none 0 0] 56)) w.heap.size 56 #[.int .i64 0,.int .i64 0,.slice none 0 0]:=Blk.new _ _ _
 have m0:Mod (fun _=>False) w (w.alloc (.cells #[.int .i64 0,.int .i64 0,.slice none 0 0] 56)):=(Mod.refl _ _).alloc _
 have HR:=Lib.hid (And.intro hr0 m0)
 clear hr0 m0
 go_upto_region 4 with (refine wpList_mk_u8 _ rfl (.tmp 19) (.tmp 19) rfl n (congrArg (Value.int .i64) HE.out) (congrArg (Value.int .i64) HE.out) (by omega) ?_;intro w3 hb3 hm3;have HO:=Lib.hid (And.intro hb3 hm3);clear hb3 hm3)
 have hg3:Blk w3 (w.heap.size + 1) 5 (u8s (fillU n v 0)).toArray:=by
  have h:=HO.out.1
  rw [← fillU_zero n v] at h
  simpa using h
 have hr3:=HR.out.1.keep HO.out.2 (fun h=>h)
 have M3:=HR.out.2.trans HO.out.2
 have hgl:=hg3.lt
 have hrl:=hr3.lt
 have hs3:=M3.size
 obtain ⟨pc,hpc⟩:∃ pc:Array Value,pc = #[.int .i64 (W:Int),.int .i64 (H:Int),.slice (some ⟨w.heap.size + 1,0,none⟩) n n]:=⟨_,rfl⟩
 have hp4:Blk (w3.alloc (.cells pc 56)) w3.heap.size 56 pc:=Blk.new _ _ _
 have hg4:=hg3.alloc (.cells pc 56)
 have hr4:=hr3.alloc (.cells pc 56)
 have M4:=M3.alloc (.cells pc 56)
 have c0:(w3.alloc (.cells pc 56)).cell? ⟨w3.heap.size,2,none⟩ = some (.slice (some ⟨w.heap.size + 1,0,none⟩) n n):=by rw [hp4.cell,hpc];rfl
 have HP:=Lib.hid hpc
 rw [← hpc]
 obtain ⟨res,hres⟩:∃ res,res = w.heap.size:=⟨_,rfl⟩
 obtain ⟨g,hge⟩:∃ g,g = w.heap.size + 1:=⟨_,rfl⟩
 obtain ⟨pb,hpb⟩:∃ pb,pb = w3.heap.size:=⟨_,rfl⟩
 rw [← hge] at hgl hg4 HP c0 ⊢
 rw [← hpb] at hp4 c0 ⊢
 rw [← hres] at hrl hr4 ⊢
 have n1:res ≠ g:=by omega
 have n2:res ≠ pb:=by omega
 have n3:g ≠ pb:=by omega
 have n4:w.heap.size ≤ res:=by omega
 have n5:w.heap.size ≤ g:=by omega
 have HB:=Lib.hid (And.intro hr4 (And.intro hp4 (And.intro hg4 M4)))
 clear hr4 hp4 hg4 M4 hg3 hr3 M3 HO HR hpc hres hge hpb
 generalize w3.alloc (.cells pc 56) = w4 at *
 go_wp2_with fail
 clear c0
 go_loopw [25] (NewRel w res pb g pc n v) (fun i _=>n - (intOf i).toNat)
 case atStart=>exact ⟨0,by omega,rfl,HB.out.1,HB.out.2.1,HB.out.2.2.1,HB.out.2.2.2⟩
 case round=>
  clear HB
  obtain ⟨k,hk,rfl,hr,hp,hg,hM⟩:=hrel
  by_cases hlt:k < n
  ·have c2:wr.cell? ⟨pb,2,none⟩ = some (.slice (some ⟨g,0,none⟩) n n):=by rw [hp.cell,HP.out];rfl
   have p1:(0:Int) ≤ (k:Int):=by omega
   have p2:(k:Int) < (n:Int):=by omega
   have k3:wr.cell? ⟨g,k,none⟩ = some (.int .u8 ((fillU n v k).getD k 0).toNat):=by rw [hg.cell];simp [u8s,List.getD_eq_getElem?_getD,fillU_length n v k hk,hlt]
   have f3:=hg.frozen k
   have hl:=hg.lt
   generalize ((fillU n v k).getD k 0).toNat = old at *
   have HB:=Lib.hid (And.intro hr (And.intro hp (And.intro hg hM)))
   clear hr hp hg hM
   go_wp2_with fail
   go_roundw
   case rel=>exact ⟨k + 1,by omega,by go_num,HB.out.1.far n1 _,HB.out.2.1.far (fun h=>n3 h.symm) _,HB.out.2.2.1.put (by simpa using fillU_set n v k hlt),HB.out.2.2.2.setCell (.inr n5) _⟩
   case measure=>simp [intOf];omega
  ·obtain rfl:k = n:=by omega
   obtain ⟨hpc',hpf'⟩:=hp.both
   rw [HP.out] at hpc'
   obtain ⟨hrc',hrf'⟩:=hr.both
   have hrl':=hr.lt
   have hpl':=hp.lt
   have HB:=Lib.hid (And.intro hr (And.intro hg hM))
   clear hr hp hg hM
   go_wp2_with fail
   obtain ⟨hr,hg,hM⟩:=HB.out
   rw [fillU_full] at hg
   refine bodyPost_ret (v:=.tuple #[.agg #[.int .i64 (W:Int),.int .i64 (H:Int),.slice (some ⟨g,0,none⟩) k k],.int .i64 0]) (by simp [results,Tryz.results90,go_sem,hrc']) rfl ⟨_,rfl,⟨g,rfl,?_,by simp,n5⟩,?_⟩
   ·exact (by repeat' (first | with_reducible exact hg | with_reducible refine Blk.far ?_ n1.symm _))
   ·exact (by repeat' (first | with_reducible exact hM | with_reducible refine Mod.setCell ?_ (.inr n4) _))
theorem run_mk_u8 (w:World) (n:Nat) (hn:n ≤ 16777216):(Instr.makeSlice 54 (.int .i64 (n:Int)) (.int .i64 (n:Int))).run Tryz.prog w = .ok (.slice (some ⟨w.heap.size,0,none⟩) n n) (w.alloc (.cells (u8s (List.replicate n 0)).toArray 5)):=by
 obtain ⟨i0,hi0,hz0,hz1,hz2⟩:=info_parts u8_info
 have h:=run_makeSlice (P:=Tryz.prog) (w:=w) 54 5 i0 (.int .u8 0) Tryz.underlying54 hi0 hz0 .i64 .i64 (n:Int) (n:Int) (by omega) (by omega) (by rw [hz1];simp;omega) (by rw [hz2];omega) (by omega)
 rw [h,hz1,Nat.mul_one]
 have e:(madeCells (Value.cells (.int .u8 0)) n) = (u8s (List.replicate n 0)).toArray:=by
  rw [← madeU8 n]
 simp [e]
theorem pOwn (w:World) (W H:Nat) (A:Option Addr) (n c:Nat) (pix:List UInt8) (hn:n ≤ 16777216) (hin:BytesIn w A n c pix):Calls Tryz.prog 218 #[.agg #[.int .i64 (W:Int),.int .i64 (H:Int),.slice A n c]] w fun e w'=>∃ g,e = .returned (.agg #[.int .i64 (W:Int),.int .i64 (H:Int),.slice (some ⟨g,0,none⟩) n n]) ∧ Blk w' g 5 (u8s pix).toArray ∧ w.heap.size ≤ g ∧ Mod (fun _=>False) w w':=by
 have HIN:=Lib.hid hin
 clear hin
 obtain ⟨pc,hpc⟩:∃ pc:Array Value,pc = #[.int .i64 (W:Int),.int .i64 (H:Int),.slice A n c]:=⟨_,rfl⟩
 have hb0:Blk ((w.alloc (.cells #[.int .i64 (W:Int),.int .i64 (H:Int),.slice A n c] 56)).alloc (.cells #[.int .i64 0,.int .i64 0,.slice none 0 0] 56)) w.heap.size 56 #[.int .i64 (W:Int),.int .i64 (H:Int),.slice A n c]:=(Blk.new _ _ _).alloc _
 have hr0:Blk ((w.alloc (.cells #[.int .i64 (W:Int),.int .i64 (H:Int),.slice A n c] 56)).alloc (.cells #[.int .i64 0,.int .i64 0,.slice none 0 0] 56)) (w.heap.size + 1) 56 #[.int .i64 0,.int .i64 0,.slice none 0 0]:=by
  have:=Blk.new (w.alloc (.cells #[.int .i64 (W:Int),.int .i64 (H:Int),.slice A n c] 56)) 56 #[.int .i64 0,.int .i64 0,.slice none 0 0]
  simpa using this
 have m0:Mod (fun _=>False) w ((w.alloc (.cells #[.int .i64 (W:Int),.int .i64 (H:Int),.slice A n c] 56)).alloc (.cells #[.int .i64 0,.int .i64 0,.slice none 0 0] 56)):=((Mod.refl _ _).alloc _).alloc _
 have HH:=Lib.hid (And.intro hb0 (And.intro hr0 m0))
 clear hb0 hr0 m0 hpc
 go_enter Tryz.func218,Tryz.ntmps218
 go_upto_region 1 with (fail)
 generalize hw1:((w.alloc (.cells #[.int .i64 (W:Int),.int .i64 (H:Int),.slice A n c] 56)).alloc (.cells #[.int .i64 0,.int .i64 0,.slice none 0 0] 56)) = w1 at *
 clear hw1
 have c0:w1.cell? ⟨w.heap.size,0,none⟩ = some (.int .i64 (W:Int)):=HH.out.1.cell 0
 have c1:w1.cell? ⟨w.heap.size,1,none⟩ = some (.int .i64 (H:Int)):=HH.out.1.cell 1
 have c2:w1.cell? ⟨w.heap.size,2,none⟩ = some (.slice A n c):=HH.out.1.cell 2
 have hl:=HH.out.1.lt
 have hmk:=fun w=>run_mk_u8 w n hn
 go_region
 ·have hg:Blk (((w1.alloc (.cells (u8s (List.replicate n 0)).toArray 5)).alloc (.cells #[.int .i64 (W:Int),.int .i64 (H:Int),.slice (some ⟨w1.heap.size,0,none⟩) n n] 56)).drew) (w1.heap.size) 5 (u8s (List.replicate n 0)).toArray:=by exact ((Blk.new _ _ _).alloc _).drew
  have hq:Blk (((w1.alloc (.cells (u8s (List.replicate n 0)).toArray 5)).alloc (.cells #[.int .i64 (W:Int),.int .i64 (H:Int),.slice (some ⟨w1.heap.size,0,none⟩) n n] 56)).drew) (w1.heap.size + 1) 56 #[.int .i64 (W:Int),.int .i64 (H:Int),.slice (some ⟨w1.heap.size,0,none⟩) n n]:=by have h:=(Blk.new (w1.alloc (.cells (u8s (List.replicate n 0)).toArray 5)) 56 #[.int .i64 (W:Int),.int .i64 (H:Int),.slice (some ⟨w1.heap.size,0,none⟩) n n]).drew;simpa using h
  have hp:Blk (((w1.alloc (.cells (u8s (List.replicate n 0)).toArray 5)).alloc (.cells #[.int .i64 (W:Int),.int .i64 (H:Int),.slice (some ⟨w1.heap.size,0,none⟩) n n] 56)).drew) w.heap.size 56 _:=((HH.out.1.alloc _).alloc _).drew
  have hr:Blk (((w1.alloc (.cells (u8s (List.replicate n 0)).toArray 5)).alloc (.cells #[.int .i64 (W:Int),.int .i64 (H:Int),.slice (some ⟨w1.heap.size,0,none⟩) n n] 56)).drew) (w.heap.size + 1) 56 _:=((HH.out.2.1.alloc _).alloc _).drew
  have hM:Mod (fun _=>False) w (((w1.alloc (.cells (u8s (List.replicate n 0)).toArray 5)).alloc (.cells #[.int .i64 (W:Int),.int .i64 (H:Int),.slice (some ⟨w1.heap.size,0,none⟩) n n] 56)).drew):=((HH.out.2.2.alloc _).alloc _).drew
  have hs1:=HH.out.2.2.size
  have hrl1:=HH.out.2.1.lt
  generalize ((w1.alloc (.cells (u8s (List.replicate n 0)).toArray 5)).alloc (.cells #[.int .i64 (W:Int),.int .i64 (H:Int),.slice (some ⟨w1.heap.size,0,none⟩) n n] 56)).drew = w2 at *
  clear hmk c0 c1 c2 HH
  obtain ⟨g,hge⟩:∃ g,g = w1.heap.size:=⟨_,rfl⟩
  obtain ⟨pq,hpq⟩:∃ pq,pq = w1.heap.size + 1:=⟨_,rfl⟩
  obtain ⟨pi,hpi⟩:∃ pi,pi = w.heap.size:=⟨_,rfl⟩
  obtain ⟨res,hres⟩:∃ res,res = w.heap.size + 1:=⟨_,rfl⟩
  rw [← hpq] at hq ⊢
  rw [← hge] at hg hq ⊢
  rw [← hres] at hr ⊢
  rw [← hpi] at hp ⊢
  have n1:res ≠ g:=by omega
  have n2:res ≠ pq:=by omega
  have n3:g ≠ pq:=by omega
  have n4:w.heap.size ≤ res:=by omega
  have n5:w.heap.size ≤ g:=by omega
  have k2:w2.cell? ⟨pi,2,none⟩ = some (.slice A n c):=hp.cell 2
  have k3:w2.cell? ⟨pq,2,none⟩ = some (.slice (some ⟨g,0,none⟩) n n):=hq.cell 2
  have hin2:=HIN.out.quiet hM
  have x1:0 + n ≤ (u8s (List.replicate n 0)).length:=by simp [u8s]
  have HF:=Lib.hid (And.intro hg (And.intro hq (And.intro hr (And.intro hM (And.intro hin2 x1)))))
  clear hg hq hr hM hp hin2 hge hpq hpi hres x1 hl
  go_upto_region 3 with (refine wpList_copy_blk rfl (.tmp 14) (.tmp 16) _ _ rfl 5 Tryz.underlying54 (by kernel_rfl) (some ⟨g,0,none⟩) n n A n c (u8s pix) rfl rfl HF.out.2.2.2.2.1.2.2.1 g 0 _ 5 HF.out.1 n (Nat.min_self _).symm (fun _=>rfl) HF.out.2.2.2.2.2 (u8s_one pix) ?_;intro w3 hb3 hm3;have HB3:=Lib.hid (And.intro hb3 hm3);clear hb3 hm3)
  have hg3:Blk w3 g 5 (u8s pix).toArray:=by
   have h:=HB3.out.1
   have hl:=HF.out.2.2.2.2.1.1
   have e:splice (u8s (List.replicate n 0)) 0 ((u8s pix).take n) = u8s pix:=by
    rw [List.take_of_length_le (by rw [u8s_length];omega)]
    unfold splice
    rw [List.drop_eq_nil_of_le (by simp [u8s];omega)]
    simp
   rwa [e] at h
  have hq3:=HF.out.2.1.keep HB3.out.2 (fun h=>n3 h.symm)
  have hr3:=HF.out.2.2.1.keep HB3.out.2 n1
  have hM3:Mod (fun _=>False) w w3:=HF.out.2.2.2.1.into HB3.out.2 (fun i e=>.inr (by omega))
  obtain ⟨hqc,hqf⟩:=hq3.both
  obtain ⟨hrc,hrf⟩:=hr3.both
  have hrl:=hr3.lt
  have HB:=Lib.hid (And.intro hg3 hM3)
  clear hg3 hq3 hr3 hM3 HB3 k2 k3
  go_wp2_with fail
  refine bodyPost_ret (v:=.agg #[.int .i64 (W:Int),.int .i64 (H:Int),.slice (some ⟨g,0,none⟩) n n]) (by simp [results,Tryz.results218,go_sem,hrc]) rfl ⟨g,rfl,?_,n5,?_⟩
  ·have hg:=HB.out.1
   exact (by repeat' (first | with_reducible exact hg | with_reducible refine Blk.far ?_ n1.symm _))
  ·have hM:=HB.out.2
   exact (by repeat' (first | with_reducible exact hM | with_reducible refine Mod.setCell ?_ (.inr n4) _))
 ·have hg:Blk (((w1.alloc (.cells #[.int .i64 (W:Int),.int .i64 (H:Int),.slice (some ⟨w1.heap.size + 1,0,none⟩) n n] 56)).alloc (.cells (u8s (List.replicate n 0)).toArray 5)).drew) (w1.heap.size + 1) 5 (u8s (List.replicate n 0)).toArray:=by have h:=(Blk.new (w1.alloc (.cells #[.int .i64 (W:Int),.int .i64 (H:Int),.slice (some ⟨w1.heap.size + 1,0,none⟩) n n] 56)) 5 (u8s (List.replicate n 0)).toArray).drew;simpa using h
  have hq:Blk (((w1.alloc (.cells #[.int .i64 (W:Int),.int .i64 (H:Int),.slice (some ⟨w1.heap.size + 1,0,none⟩) n n] 56)).alloc (.cells (u8s (List.replicate n 0)).toArray 5)).drew) (w1.heap.size) 56 #[.int .i64 (W:Int),.int .i64 (H:Int),.slice (some ⟨w1.heap.size + 1,0,none⟩) n n]:=by exact ((Blk.new _ _ _).alloc _).drew
  have hp:Blk (((w1.alloc (.cells #[.int .i64 (W:Int),.int .i64 (H:Int),.slice (some ⟨w1.heap.size + 1,0,none⟩) n n] 56)).alloc (.cells (u8s (List.replicate n 0)).toArray 5)).drew) w.heap.size 56 _:=((HH.out.1.alloc _).alloc _).drew
  have hr:Blk (((w1.alloc (.cells #[.int .i64 (W:Int),.int .i64 (H:Int),.slice (some ⟨w1.heap.size + 1,0,none⟩) n n] 56)).alloc (.cells (u8s (List.replicate n 0)).toArray 5)).drew) (w.heap.size + 1) 56 _:=((HH.out.2.1.alloc _).alloc _).drew
  have hM:Mod (fun _=>False) w (((w1.alloc (.cells #[.int .i64 (W:Int),.int .i64 (H:Int),.slice (some ⟨w1.heap.size + 1,0,none⟩) n n] 56)).alloc (.cells (u8s (List.replicate n 0)).toArray 5)).drew):=((HH.out.2.2.alloc _).alloc _).drew
  have hs1:=HH.out.2.2.size
  have hrl1:=HH.out.2.1.lt
  generalize ((w1.alloc (.cells #[.int .i64 (W:Int),.int .i64 (H:Int),.slice (some ⟨w1.heap.size + 1,0,none⟩) n n] 56)).alloc (.cells (u8s (List.replicate n 0)).toArray 5)).drew = w2 at *
  clear hmk c0 c1 c2 HH
  obtain ⟨g,hge⟩:∃ g,g = w1.heap.size + 1:=⟨_,rfl⟩
  obtain ⟨pq,hpq⟩:∃ pq,pq = w1.heap.size:=⟨_,rfl⟩
  obtain ⟨pi,hpi⟩:∃ pi,pi = w.heap.size:=⟨_,rfl⟩
  obtain ⟨res,hres⟩:∃ res,res = w.heap.size + 1:=⟨_,rfl⟩
  rw [← hge] at hg hq ⊢
  rw [← hpq] at hq ⊢
  rw [← hres] at hr ⊢
  rw [← hpi] at hp ⊢
  have n1:res ≠ g:=by omega
  have n2:res ≠ pq:=by omega
  have n3:g ≠ pq:=by omega
  have n4:w.heap.size ≤ res:=by omega
  have n5:w.heap.size ≤ g:=by omega
  have k2:w2.cell? ⟨pi,2,none⟩ = some (.slice A n c):=hp.cell 2
  have k3:w2.cell? ⟨pq,2,none⟩ = some (.slice (some ⟨g,0,none⟩) n n):=hq.cell 2
  have hin2:=HIN.out.quiet hM
  have x1:0 + n ≤ (u8s (List.replicate n 0)).length:=by simp [u8s]
  have HF:=Lib.hid (And.intro hg (And.intro hq (And.intro hr (And.intro hM (And.intro hin2 x1)))))
  clear hg hq hr hM hp hin2 hge hpq hpi hres x1 hl
  go_upto_region 3 with (refine wpList_copy_blk rfl (.tmp 14) (.tmp 16) _ _ rfl 5 Tryz.underlying54 (by kernel_rfl) (some ⟨g,0,none⟩) n n A n c (u8s pix) rfl rfl HF.out.2.2.2.2.1.2.2.1 g 0 _ 5 HF.out.1 n (Nat.min_self _).symm (fun _=>rfl) HF.out.2.2.2.2.2 (u8s_one pix) ?_;intro w3 hb3 hm3;have HB3:=Lib.hid (And.intro hb3 hm3);clear hb3 hm3)
  have hg3:Blk w3 g 5 (u8s pix).toArray:=by
   have h:=HB3.out.1
   have hl:=HF.out.2.2.2.2.1.1
   have e:splice (u8s (List.replicate n 0)) 0 ((u8s pix).take n) = u8s pix:=by
    rw [List.take_of_length_le (by rw [u8s_length];omega)]
    unfold splice
    rw [List.drop_eq_nil_of_le (by simp [u8s];omega)]
    simp
   rwa [e] at h
  have hq3:=HF.out.2.1.keep HB3.out.2 (fun h=>n3 h.symm)
  have hr3:=HF.out.2.2.1.keep HB3.out.2 n1
  have hM3:Mod (fun _=>False) w w3:=HF.out.2.2.2.1.into HB3.out.2 (fun i e=>.inr (by omega))
  obtain ⟨hqc,hqf⟩:=hq3.both
  obtain ⟨hrc,hrf⟩:=hr3.both
  have hrl:=hr3.lt
  have HB:=Lib.hid (And.intro hg3 hM3)
  clear hg3 hq3 hr3 hM3 HB3 k2 k3
  go_wp2_with fail
  refine bodyPost_ret (v:=.agg #[.int .i64 (W:Int),.int .i64 (H:Int),.slice (some ⟨g,0,none⟩) n n]) (by simp [results,Tryz.results218,go_sem,hrc]) rfl ⟨g,rfl,?_,n5,?_⟩
  ·have hg:=HB.out.1
   exact (by repeat' (first | with_reducible exact hg | with_reducible refine Blk.far ?_ n1.symm _))
  ·have hM:=HB.out.2
   exact (by repeat' (first | with_reducible exact hM | with_reducible refine Mod.setCell ?_ (.inr n4) _))
structure Dim where
 W:Nat
 H:Nat
 W2:Nat
 H2:Nat
 nY:Nat
 nC:Nat
structure Dim.Ok (d:Dim):Prop where
 sides:sidesB d.W d.H = true
 w16:d.W % 16 = 0
 h16:d.H % 16 = 0
 w2:d.W = 2 * d.W2
 h2:d.H = 2 * d.H2
 ny:d.nY = d.W * d.H
 nc:d.nC = d.W2 * d.H2
theorem Dim.Ok.half {d:Dim} (h:d.Ok):sidesB d.W2 d.H2 = true:=by
 have a:=h.sides
 unfold sidesB at *
 rw [decide_eq_true_eq] at *
 have:=h.w16;have:=h.h16;have:=h.w2;have:=h.h2
 omega
def frameV (d:Dim) (gy gu gv:Nat):List Value:=
 [.int .i64 (d.W:Int),.int .i64 (d.H:Int),.slice (some ⟨gy,0,none⟩) d.nY d.nY,.int .i64 (d.W2:Int),.int .i64 (d.H2:Int),.slice (some ⟨gu,0,none⟩) d.nC d.nC,.int .i64 (d.W2:Int),.int .i64 (d.H2:Int),.slice (some ⟨gv,0,none⟩) d.nC d.nC]
structure Pix where
 Y:List UInt8
 U:List UInt8
 V:List UInt8
structure FrameAt (w:World) (d:Dim) (gy gu gv:Nat) (f:Pix):Prop where
 by_:Blk w gy 5 (u8s f.Y).toArray
 bu:Blk w gu 5 (u8s f.U).toArray
 bv:Blk w gv 5 (u8s f.V).toArray
 ly:f.Y.length = d.nY
 lu:f.U.length = d.nC
 lv:f.V.length = d.nC
 yu:gy ≠ gu
 yv:gy ≠ gv
 uv:gu ≠ gv
theorem FrameAt.mod {w w':World} {S:Nat → Prop} {d:Dim} {gy gu gv:Nat} {f:Pix} (h:FrameAt w d gy gu gv f) (hm:Mod S w w') (h1:¬ S gy) (h2:¬ S gu) (h3:¬ S gv):FrameAt w' d gy gu gv f:=
 ⟨h.by_.keep hm h1,h.bu.keep hm h2,h.bv.keep hm h3,h.ly,h.lu,h.lv,h.yu,h.yv,h.uv⟩
theorem FrameAt.quiet {w w':World} {d:Dim} {gy gu gv:Nat} {f:Pix} (h:FrameAt w d gy gu gv f) (hm:Mod (fun _=>False) w w'):FrameAt w' d gy gu gv f:=h.mod hm (fun h=>h) (fun h=>h) (fun h=>h)
def blankPix (d:Dim) (v:UInt8):Pix:=⟨List.replicate d.nY v,List.replicate d.nC v,List.replicate d.nC v⟩
def FrameMade (w:World) (d:Dim) (f:Pix) (v:Value) (w':World):Prop:=
 ∃ gy gu gv,v = .agg (frameV d gy gu gv).toArray ∧ FrameAt w' d gy gu gv f ∧ w.heap.size ≤ gy ∧ w.heap.size ≤ gu ∧ w.heap.size ≤ gv
def BlankPost (w:World) (d:Dim) (v:UInt8) (e:Ending) (w':World):Prop:=∃ p,e = .returned (.tuple #[p,.int .i64 0]) ∧ FrameMade w d (blankPix d v) p w' ∧ Mod (fun _=>False) w w'
def NewPlane' (w:World) (W H n:Nat) (v:UInt8) (e:Ending) (w':World):Prop:=
 ∃ g,e = .returned (.tuple #[.agg #[.int .i64 (W:Int),.int .i64 (H:Int),.slice (some ⟨g,0,none⟩) n n],.int .i64 0]) ∧ Blk w' g 5 (u8s (List.replicate n v)).toArray ∧ w.heap.size ≤ g ∧ Mod (fun _=>False) w w'
theorem pNew' (w:World) (W H n:Nat) (v:UInt8) (h:sidesB W H = true) (hn:n = W * H):Calls Tryz.prog 90 #[.int .i64 (W:Int),.int .i64 (H:Int),.int .u8 (v.toNat:Int)] w (NewPlane' w W H n v):=by
 refine (pNew w W H v h).mono ?_
 rintro e w' ⟨p,rfl,⟨g,rfl,hb,_,hg⟩,hm⟩
 rw [← hn] at hb ⊢
 exact ⟨g,rfl,hb,hg,hm⟩
theorem pBlank (w:World) (d:Dim) (hd:d.Ok) (v:UInt8):Calls Tryz.prog 46 #[.int .i64 (d.W:Int),.int .i64 (d.H:Int),.int .u8 (v.toNat:Int)] w (BlankPost w d v):=by
 have hh:=hd.half
 obtain ⟨a1,a2,a3,a4,a5,a6⟩:=area_le hd.sides
 have hw16:=hd.w16
 have hh16:=hd.h16
 have m1:((d.W:Int) % 16 != 0) = false:=by simp;omega
 have m2:((d.H:Int) % 16 != 0) = false:=by simp;omega
 have q1:(d.W:Int) / 2 = (d.W2:Int):=by have:=hd.w2;omega
 have q2:(d.H:Int) / 2 = (d.H2:Int):=by have:=hd.h2;omega
 have HD:=Lib.hid (And.intro hd (And.intro hh (And.intro q1 q2)))
 clear hd hh hw16 hh16 q1 q2 a1 a6
 go_enter Tryz.func46,Tryz.ntmps46
 go_wp2_with fail
 refine (pSides_yes _ d.W d.H HD.out.1.sides).mono ?_
 rintro e w1 ⟨rfl,rfl⟩
 go_wp2_with fail
 have hr0:Blk ((w.alloc (.cells #[.int .i64 0,.int .i64 0,.slice none 0 0,.int .i64 0,.int .i64 0,.slice none 0 0,.int .i64 0,.int .i64 0,.slice none 0 0] 58)).alloc (.cells #[.int .i64 0,.int .i64 0,.slice none 0 0,.int .i64 0,.int .i64 0,.slice none 0 0,.int .i64 0,.int .i64 0,.slice none 0 0] 58)) w.heap.size 58 #[.int .i64 0,.int .i64 0,.slice none 0 0,.int .i64 0,.int .i64 0,.slice none 0 0,.int .i64 0,.int .i64 0,.slice none 0 0]:=(Blk.new _ _ _).alloc _
 have hf0:Blk ((w.alloc (.cells #[.int .i64 0,.int .i64 0,.slice none 0 0,.int .i64 0,.int .i64 0,.slice none 0 0,.int .i64 0,.int .i64 0,.slice none 0 0] 58)).alloc (.cells #[.int .i64 0,.int .i64 0,.slice none 0 0,.int .i64 0,.int .i64 0,.slice none 0 0,.int .i64 0,.int .i64 0,.slice none 0 0] 58)) (w.heap.size + 1) 58 #[.int .i64 0,.int .i64 0,.slice none 0 0,.int .i64 0,.int .i64 0,.slice none 0 0,.int .i64 0,.int .i64 0,.slice none 0 0]:=by
  have h:=Blk.new (w.alloc (.cells #[.int .i64 0,.int .i64 0,.slice none 0 0,.int .i64 0,.int .i64 0,.slice none 0 0,.int .i64 0,.int .i64 0,.slice none 0 0] 58)) 58 #[.int .i64 0,.int .i64 0,.slice none 0 0,.int .i64 0,.int .i64 0,.slice none 0 0,.int .i64 0,.int .i64 0,.slice none 0 0]
  simpa using h
 have M0:Mod (fun _=>False) w ((w.alloc (.cells #[.int .i64 0,.int .i64 0,.slice none 0 0,.int .i64 0,.int .i64 0,.slice none 0 0,.int .i64 0,.int .i64 0,.slice none 0 0] 58)).alloc (.cells #[.int .i64 0,.int .i64 0,.slice none 0 0,.int .i64 0,.int .i64 0,.slice none 0 0,.int .i64 0,.int .i64 0,.slice none 0 0] 58)):=((Mod.refl _ _).alloc _).alloc _
 generalize ((w.alloc (.cells #[.int .i64 0,.int .i64 0,.slice none 0 0,.int .i64 0,.int .i64 0,.slice none 0 0,.int .i64 0,.int .i64 0,.slice none 0 0] 58)).alloc (.cells #[.int .i64 0,.int .i64 0,.slice none 0 0,.int .i64 0,.int .i64 0,.slice none 0 0,.int .i64 0,.int .i64 0,.slice none 0 0] 58)) = w0 at *
 have hs0:=M0.size
 obtain ⟨res,hres⟩:∃ res,res = w.heap.size:=⟨_,rfl⟩
 obtain ⟨fb,hfb⟩:∃ fb,fb = w.heap.size + 1:=⟨_,rfl⟩
 rw [← hfb] at hf0 ⊢
 rw [← hres] at hr0 ⊢
 have n1:res ≠ fb:=by omega
 have n2:w.heap.size ≤ res:=by omega
 have n3:w.heap.size ≤ fb:=by omega
 have rl:=hr0.lt
 have fl:=hf0.lt
 clear hfb hres
 have HB0:=Lib.hid (And.intro hr0 (And.intro hf0 M0))
 clear hr0 hf0 M0
 refine (pNew' _ d.W d.H d.nY v HD.out.1.sides HD.out.1.ny).mono ?_
 rintro e w2 ⟨gy,rfl,by2,gy2,hm2⟩
 have hr2:=HB0.out.1.keep hm2 (fun h=>h)
 have hf2:=HB0.out.2.1.keep hm2 (fun h=>h)
 obtain ⟨fc,ff⟩:=hf2.both
 have fl2:=hf2.lt
 have M2:=HB0.out.2.2.trans hm2
 have hf2':Blk (((w2.setCell ⟨fb,0,none⟩ (.int .i64 (d.W:Int))).setCell ⟨fb,1,none⟩ (.int .i64 (d.H:Int))).setCell ⟨fb,2,none⟩ (.slice (some ⟨gy,0,none⟩) d.nY d.nY)) fb 58 #[.int .i64 (d.W:Int),.int .i64 (d.H:Int),.slice (some ⟨gy,0,none⟩) d.nY d.nY,.int .i64 0,.int .i64 0,.slice none 0 0,.int .i64 0,.int .i64 0,.slice none 0 0]:=((hf2.set_ 0 _).set_ 1 _).set_ 2 _
 have by2':=((by2.far (p:=⟨fb,0,none⟩) (by dsimp;omega) (.int .i64 (d.W:Int))).far (p:=⟨fb,1,none⟩) (by dsimp;omega) (.int .i64 (d.H:Int))).far (p:=⟨fb,2,none⟩) (by dsimp;omega) (.slice (some ⟨gy,0,none⟩) d.nY d.nY)
 have hr2':=((hr2.far (p:=⟨fb,0,none⟩) n1 (.int .i64 (d.W:Int))).far (p:=⟨fb,1,none⟩) n1 (.int .i64 (d.H:Int))).far (p:=⟨fb,2,none⟩) n1 (.slice (some ⟨gy,0,none⟩) d.nY d.nY)
 have M2':=((M2.setCell (p:=⟨fb,0,none⟩) (.inr n3) (.int .i64 (d.W:Int))).setCell (p:=⟨fb,1,none⟩) (.inr n3) (.int .i64 (d.H:Int))).setCell (p:=⟨fb,2,none⟩) (.inr n3) (.slice (some ⟨gy,0,none⟩) d.nY d.nY)
 have HB2:=Lib.hid (And.intro hr2' (And.intro hf2' (And.intro by2' M2')))
 have hgy:fb < gy:=by omega
 clear hr2 hf2 by2 M2 hm2 hr2' hf2' by2' M2' HB0
 have q1:=HD.out.2.2.1
 have q2:=HD.out.2.2.2
 go_wp2_with fail
 clear q1 q2 fc ff fl2
 generalize (((w2.setCell ⟨fb,0,none⟩ (.int .i64 (d.W:Int))).setCell ⟨fb,1,none⟩ (.int .i64 (d.H:Int))).setCell ⟨fb,2,none⟩ (.slice (some ⟨gy,0,none⟩) d.nY d.nY)) = w3 at *
 have hs3:=HB2.out.2.2.2.size
 have gyl:=HB2.out.2.2.1.lt
 refine (pNew' _ d.W2 d.H2 d.nC v HD.out.2.1 HD.out.1.nc).mono ?_
 rintro e w4 ⟨gu,rfl,bu4,gu4,hm4⟩
 have hr4:=HB2.out.1.keep hm4 (fun h=>h)
 have hf4:=HB2.out.2.1.keep hm4 (fun h=>h)
 have by4:=HB2.out.2.2.1.keep hm4 (fun h=>h)
 have M4:=HB2.out.2.2.2.trans hm4
 have fl3:=HB2.out.2.1.lt
 obtain ⟨fc,ff⟩:=hf4.both
 have fl4:=hf4.lt
 have HB4:=Lib.hid (And.intro hr4 (And.intro hf4 (And.intro by4 (And.intro M4 bu4))))
 clear hr4 hf4 by4 M4 hm4 bu4 HB2
 have q1:=HD.out.2.2.1
 have q2:=HD.out.2.2.2
 go_wp2_with fail
 clear q1 q2 fc ff fl4
 have hf5:=((HB4.out.2.1.set_ 3 (.int .i64 (d.W2:Int))).set_ 4 (.int .i64 (d.H2:Int))).set_ 5 (.slice (some ⟨gu,0,none⟩) d.nC d.nC)
 have by5:=((HB4.out.2.2.1.far (p:=⟨fb,3,none⟩) (by dsimp;omega) (.int .i64 (d.W2:Int))).far (p:=⟨fb,4,none⟩) (by dsimp;omega) (.int .i64 (d.H2:Int))).far (p:=⟨fb,5,none⟩) (by dsimp;omega) (.slice (some ⟨gu,0,none⟩) d.nC d.nC)
 have bu5:=((HB4.out.2.2.2.2.far (p:=⟨fb,3,none⟩) (by dsimp;omega) (.int .i64 (d.W2:Int))).far (p:=⟨fb,4,none⟩) (by dsimp;omega) (.int .i64 (d.H2:Int))).far (p:=⟨fb,5,none⟩) (by dsimp;omega) (.slice (some ⟨gu,0,none⟩) d.nC d.nC)
 have hr5:=((HB4.out.1.far (p:=⟨fb,3,none⟩) n1 (.int .i64 (d.W2:Int))).far (p:=⟨fb,4,none⟩) n1 (.int .i64 (d.H2:Int))).far (p:=⟨fb,5,none⟩) n1 (.slice (some ⟨gu,0,none⟩) d.nC d.nC)
 have M5:=((HB4.out.2.2.2.1.setCell (p:=⟨fb,3,none⟩) (.inr n3) (.int .i64 (d.W2:Int))).setCell (p:=⟨fb,4,none⟩) (.inr n3) (.int .i64 (d.H2:Int))).setCell (p:=⟨fb,5,none⟩) (.inr n3) (.slice (some ⟨gu,0,none⟩) d.nC d.nC)
 have hf5':Blk (((w4.setCell ⟨fb,3,none⟩ (.int .i64 (d.W2:Int))).setCell ⟨fb,4,none⟩ (.int .i64 (d.H2:Int))).setCell ⟨fb,5,none⟩ (.slice (some ⟨gu,0,none⟩) d.nC d.nC)) fb 58 #[.int .i64 (d.W:Int),.int .i64 (d.H:Int),.slice (some ⟨gy,0,none⟩) d.nY d.nY,.int .i64 (d.W2:Int),.int .i64 (d.H2:Int),.slice (some ⟨gu,0,none⟩) d.nC d.nC,.int .i64 0,.int .i64 0,.slice none 0 0]:=hf5
 have HB5:=Lib.hid (And.intro hr5 (And.intro hf5' (And.intro by5 (And.intro M5 bu5))))
 clear hf5 hf5' by5 bu5 hr5 M5
 have hgu:gy < gu:=by omega
 generalize (((w4.setCell ⟨fb,3,none⟩ (.int .i64 (d.W2:Int))).setCell ⟨fb,4,none⟩ (.int .i64 (d.H2:Int))).setCell ⟨fb,5,none⟩ (.slice (some ⟨gu,0,none⟩) d.nC d.nC)) = w5 at *
 have gul:=HB5.out.2.2.2.2.lt
 refine (pNew' _ d.W2 d.H2 d.nC v HD.out.2.1 HD.out.1.nc).mono ?_
 rintro e w6 ⟨gv,rfl,bv6,gv6,hm6⟩
 have hgv:gu < gv:=by omega
 have hr6:=HB5.out.1.keep hm6 (fun h=>h)
 have hf6:=HB5.out.2.1.keep hm6 (fun h=>h)
 have by6:=HB5.out.2.2.1.keep hm6 (fun h=>h)
 have bu6:=HB5.out.2.2.2.2.keep hm6 (fun h=>h)
 have M6:=HB5.out.2.2.2.1.trans hm6
 obtain ⟨fc,ff⟩:=hf6.both
 obtain ⟨rc,rf⟩:=hr6.both
 have fl6:=hf6.lt
 have rl6:=hr6.lt
 have HB6:=Lib.hid (And.intro by6 (And.intro bu6 (And.intro bv6 M6)))
 clear hr6 hf6 by6 bu6 bv6 M6 hm6 HB5 HB4
 go_wp2_with fail
 refine bodyPost_ret (v:=.tuple #[.agg (frameV d gy gu gv).toArray,.int .i64 0]) (by simp [results,Tryz.results46,go_sem,rc,frameV]) rfl ⟨_,rfl,⟨gy,gu,gv,rfl,⟨?_,?_,?_,by simp [blankPix],by simp [blankPix],by simp [blankPix],by omega,by omega,by omega⟩,by omega,by omega,by omega⟩,?_⟩
 ·have h:Blk w6 gy 5 (u8s (blankPix d v).Y).toArray:=HB6.out.1
  have k1:gy ≠ res:=by omega
  have k2:gy ≠ fb:=by omega
  exact (by repeat' (first | with_reducible exact h | with_reducible refine Blk.far ?_ k1 _ | with_reducible refine Blk.far ?_ k2 _))
 ·have h:Blk w6 gu 5 (u8s (blankPix d v).U).toArray:=HB6.out.2.1
  have k1:gu ≠ res:=by omega
  have k2:gu ≠ fb:=by omega
  exact (by repeat' (first | with_reducible exact h | with_reducible refine Blk.far ?_ k1 _ | with_reducible refine Blk.far ?_ k2 _))
 ·have h:Blk w6 gv 5 (u8s (blankPix d v).V).toArray:=HB6.out.2.2.1
  have k1:gv ≠ res:=by omega
  have k2:gv ≠ fb:=by omega
  exact (by repeat' (first | with_reducible exact h | with_reducible refine Blk.far ?_ k1 _ | with_reducible refine Blk.far ?_ k2 _))
 ·have h:=HB6.out.2.2.2
  exact (by repeat' (first | with_reducible exact h | with_reducible refine Mod.setCell ?_ (.inr n2) _ | with_reducible refine Mod.setCell ?_ (.inr n3) _))
theorem blkIn {w:World} {g n:Nat} {L:List UInt8} (h:Blk w g 5 (u8s L).toArray) (hl:L.length = n) (hn:n ≤ 16777216):BytesIn w (some ⟨g,0,none⟩) n n L:=by
 subst hl
 exact (Bytes.of_blk (Nat.zero_le _) h (by unfold maxLen;omega)).in_
theorem Dim.Ok.nyle {d:Dim} (h:d.Ok):d.nY ≤ 16777216:=by rw [h.ny];exact (area_le h.sides).1
theorem Dim.Ok.ncle {d:Dim} (h:d.Ok):d.nC ≤ 16777216:=by rw [h.nc];exact (area_le h.half).1
theorem pWhole (w:World) (d:Dim) (hd:d.Ok) (gy gu gv:Nat):Calls Tryz.prog 60 #[.agg (frameV d gy gu gv).toArray] w fun e w'=>e = .returned (.bool true) ∧ Mod (fun _=>False) w w':=by
 unfold frameV
 have HD:=Lib.hid hd
 obtain ⟨_,b1,b2,b3,b4,_⟩:=area_le hd.sides
 obtain ⟨_,b5,b6,b7,b8,_⟩:=area_le hd.half
 have m1:((d.W:Int) % 16 == 0) = true:=by have:=hd.w16;simp;omega
 have m2:((d.H:Int) % 16 == 0) = true:=by have:=hd.h16;simp;omega
 have q1:(d.W:Int) / 2 = (d.W2:Int):=by have:=hd.w2;omega
 have q2:(d.H:Int) / 2 = (d.H2:Int):=by have:=hd.h2;omega
 have HM:=Lib.hid (And.intro m1 (And.intro m2 (And.intro q1 q2)))
 clear hd m1 m2 q1 q2
 have h0:=(Sat.nil (fun _=>False) w)
 go_enter Tryz.func60,Tryz.ntmps60
 go_wp2_with fail
 refine (pRight' _ d.W d.H _ d.nY _ HD.out.sides HD.out.ny).mono ?_
 rintro e w1 ⟨rfl,hm1⟩
 have HS:=Sat.after hm1 (h0.alloc _ _ rfl)
 clear hm1 h0
 obtain ⟨pc,pf⟩:=(HS.own_ 0 rfl).both
 have H1:=Lib.hid HS
 clear HS
 go_wp2_with fail
 refine (pRight' _ d.W2 d.H2 _ d.nC _ HD.out.half HD.out.nc).mono ?_
 rintro e w2 ⟨rfl,hm2⟩
 have HS:=H1.out.quiet hm2
 clear hm2 pc pf H1
 obtain ⟨pc,pf⟩:=(HS.own_ 0 rfl).both
 have H1:=Lib.hid HS
 clear HS
 go_wp2_with fail
 refine (pRight' _ d.W2 d.H2 _ d.nC _ HD.out.half HD.out.nc).mono ?_
 rintro e w3 ⟨rfl,hm3⟩
 have HS:=H1.out.quiet hm3
 clear hm3 pc pf H1
 obtain ⟨pc,pf⟩:=(HS.own_ 0 rfl).both
 have H1:=Lib.hid HS
 clear HS
 obtain ⟨m1,m2,q1,q2⟩:=HM.out
 go_wp2_with fail
 go_ret
 exact ⟨rfl,H1.out.mod⟩
def smPix (q:Nat) (d:Dim) (f:Pix):Pix:=⟨smPlane q d.W d.H f.Y,smPlane q d.W2 d.H2 f.U,smPlane q d.W2 d.H2 f.V⟩
def FramePost (w:World) (d:Dim) (f:Pix) (e:Ending) (w':World):Prop:=∃ p,e = .returned (.tuple #[p,.int .i64 0]) ∧ FrameMade w d f p w' ∧ Mod (fun _=>False) w w'
theorem dPlane' (w:World) (W H:Nat) (A:Option Addr) (n c:Nat) (pix:List UInt8) (q:Nat) (h:sidesB W H = true) (hn:n = W * H) (hin:BytesIn w A n c pix) (hq:q ≤ 31) :
  Calls Tryz.prog 217 #[.agg #[.int .i64 (W:Int),.int .i64 (H:Int),.slice A n c],.int .i64 (q:Int)] w
   fun e w'=>∃ g,e = .returned (.tuple #[.agg #[.int .i64 (W:Int),.int .i64 (H:Int),.slice (some ⟨g,0,none⟩) n n],.int .i64 0]) ∧ Blk w' g 5 (u8s (smPlane q W H pix)).toArray ∧ w.heap.size ≤ g ∧ Mod (fun _=>False) w w':=by
 subst hn
 exact dPlane w W H A _ c pix q h rfl hin hq
theorem dFrame (w:World) (d:Dim) (hd:d.Ok) (gy gu gv:Nat) (f:Pix) (q:Nat) (hq:q ≤ 31) (hf:FrameAt w d gy gu gv f):Calls Tryz.prog 154 #[.agg (frameV d gy gu gv).toArray,.int .i64 (q:Int)] w (FramePost w d (smPix q d f)):=by
 have HC:=pWhole ((w.alloc (.cells (frameV d gy gu gv).toArray 58)).alloc (.cells #[.int .i64 0,.int .i64 0,.slice none 0 0,.int .i64 0,.int .i64 0,.slice none 0 0,.int .i64 0,.int .i64 0,.slice none 0 0] 58)) d hd gy gu gv
 unfold frameV at HC ⊢
 have HD:=Lib.hid (And.intro hd hf)
 clear hd hf
 have h0:=(Sat.nil (fun _=>False) w)
 go_enter Tryz.func154,Tryz.ntmps154
 go_wp2_with fail
 refine HC.mono ?_
 clear HC
 rintro e w1 ⟨rfl,hm1⟩
 have HS:=Sat.after hm1 ((h0.alloc _ _ rfl).alloc (g:=w.heap.size + 1) _ _ (by simp))
 clear hm1 h0
 have H1:=Lib.hid HS
 clear HS
 go_wp2_with fail
 refine (dKnown _ q hq).mono ?_
 rintro e w2 ⟨rfl,rfl⟩
 obtain ⟨pc,pf⟩:=(H1.out.own_ 1 rfl).both
 have hs1:w.heap.size + 2 ≤ w1.heap.size:=(H1.out.own_ 0 rfl).lt
 have n1:w.heap.size < w1.heap.size:=by omega
 have HS1:=H1.out.alloc 58 #[.int .i64 0,.int .i64 0,.slice none 0 0,.int .i64 0,.int .i64 0,.slice none 0 0,.int .i64 0,.int .i64 0,.slice none 0 0] rfl
 obtain ⟨ob,hob⟩:∃ ob,ob = w1.heap.size:=⟨_,rfl⟩
 rw [← hob] at HS1
 have G1:=Lib.hid HS1
 clear HS1
 go_wp2_with fail
 rw [← hob]
 refine (dPlane' _ d.W d.H _ d.nY _ f.Y q HD.out.1.sides HD.out.1.ny (blkIn (HD.out.2.quiet G1.out.mod).by_ HD.out.2.ly HD.out.1.nyle) hq).mono ?_
 rintro e w2 ⟨g1,rfl,hb1,hg1,hm1⟩
 have HS:=Sat.grew hm1 G1.out hb1 hg1
 clear hb1 hm1 pc pf H1 G1 hob n1 hs1
 obtain ⟨pc,pf⟩:=(HS.own_ 3 rfl).both
 obtain ⟨oc,of⟩:=(HS.own_ 1 rfl).both
 have n1:=HS.apart 1 3 rfl rfl (by omega)
 have n2:=HS.apart 1 2 rfl rfl (by omega)
 have n3:=HS.apart 2 3 rfl rfl (by omega)
 dsimp only at n1 n2 n3
 have ol:=(HS.own_ 1 rfl).lt
 have pl:=(HS.own_ 3 rfl).lt
 have rl:=(HS.own_ 2 rfl).lt
 have HS2:=(((HS).put (g:=ob) (i:=0) (u:=.int .i64 (d.W:Int)) (.there (.here rfl))).put (g:=ob) (i:=1) (u:=.int .i64 (d.H:Int)) (.there (.here rfl))).put (g:=ob) (i:=2) (u:=.slice (some ⟨g1,0,none⟩) d.nY d.nY) (.there (.here rfl))
 have G:=Lib.hid HS2
 clear HS HS2
 go_wp2_with fail
 refine (dPlane' _ d.W2 d.H2 _ d.nC _ f.U q HD.out.1.half HD.out.1.nc (blkIn (HD.out.2.quiet G.out.mod).bu HD.out.2.lu HD.out.1.ncle) hq).mono ?_
 rintro e w3 ⟨g2,rfl,hb1,hg2,hm1⟩
 have HS:=Sat.grew hm1 G.out hb1 hg2
 clear hb1 hm1 pc pf oc of n1 n2 n3 ol pl rl G
 obtain ⟨pc,pf⟩:=(HS.own_ 4 rfl).both
 obtain ⟨oc,of⟩:=(HS.own_ 2 rfl).both
 have n1:=HS.apart 2 4 rfl rfl (by omega)
 have n2:=HS.apart 2 3 rfl rfl (by omega)
 have n3:=HS.apart 3 4 rfl rfl (by omega)
 dsimp only at n1 n2 n3
 have ol:=(HS.own_ 2 rfl).lt
 have pl:=(HS.own_ 4 rfl).lt
 have rl:=(HS.own_ 3 rfl).lt
 have HS2:=(((HS).put (g:=ob) (i:=3) (u:=.int .i64 (d.W2:Int)) (.there (.there (.here rfl)))).put (g:=ob) (i:=4) (u:=.int .i64 (d.H2:Int)) (.there (.there (.here rfl)))).put (g:=ob) (i:=5) (u:=.slice (some ⟨g2,0,none⟩) d.nC d.nC) (.there (.there (.here rfl)))
 have G:=Lib.hid HS2
 clear HS HS2
 go_wp2_with fail
 refine (dPlane' _ d.W2 d.H2 _ d.nC _ f.V q HD.out.1.half HD.out.1.nc (blkIn (HD.out.2.quiet G.out.mod).bv HD.out.2.lv HD.out.1.ncle) hq).mono ?_
 rintro e w4 ⟨g3,rfl,hb1,hg3,hm1⟩
 have HS:=Sat.grew hm1 G.out hb1 hg3
 clear hb1 hm1 pc pf oc of n1 n2 n3 ol pl rl G
 obtain ⟨pc,pf⟩:=(HS.own_ 5 rfl).both
 have hob3:Blk w4 ob 58 #[.int .i64 (d.W:Int),.int .i64 (d.H:Int),.slice (some ⟨g1,0,none⟩) d.nY d.nY,.int .i64 (d.W2:Int),.int .i64 (d.H2:Int),.slice (some ⟨g2,0,none⟩) d.nC d.nC,.int .i64 0,.int .i64 0,.slice none 0 0]:=HS.own_ 3 rfl
 obtain ⟨oc,of⟩:=hob3.both
 obtain ⟨rc,rf⟩:=(HS.own_ 4 rfl).both
 have n1:=HS.apart 3 5 rfl rfl (by omega)
 have n2:=HS.apart 3 4 rfl rfl (by omega)
 have n3:=HS.apart 4 5 rfl rfl (by omega)
 dsimp only at n1 n2 n3
 have ol:=(HS.own_ 3 rfl).lt
 have pl:=(HS.own_ 5 rfl).lt
 have rl:=(HS.own_ 4 rfl).lt
 have HS2:=(((HS).put (g:=ob) (i:=6) (u:=.int .i64 (d.W2:Int)) (.there (.there (.there (.here rfl))))).put (g:=ob) (i:=7) (u:=.int .i64 (d.H2:Int)) (.there (.there (.there (.here rfl))))).put (g:=ob) (i:=8) (u:=.slice (some ⟨g3,0,none⟩) d.nC d.nC) (.there (.there (.there (.here rfl))))
 have G:=Lib.hid HS2
 clear HS HS2
 clear hob3 pc pf
 go_wp2_with fail
 have HE:=(((((((((G.out).put (g:=w.heap.size + 1) (i:=0) (u:=.int .i64 (d.W:Int)) (.there (.there (.there (.there (.here rfl)))))).put (g:=w.heap.size + 1) (i:=1) (u:=.int .i64 (d.H:Int)) (.there (.there (.there (.there (.here rfl)))))).put (g:=w.heap.size + 1) (i:=2) (u:=.slice (some ⟨g1,0,none⟩) d.nY d.nY) (.there (.there (.there (.there (.here rfl)))))).put (g:=w.heap.size + 1) (i:=3) (u:=.int .i64 (d.W2:Int)) (.there (.there (.there (.there (.here rfl)))))).put (g:=w.heap.size + 1) (i:=4) (u:=.int .i64 (d.H2:Int)) (.there (.there (.there (.there (.here rfl)))))).put (g:=w.heap.size + 1) (i:=5) (u:=.slice (some ⟨g2,0,none⟩) d.nC d.nC) (.there (.there (.there (.there (.here rfl)))))).put (g:=w.heap.size + 1) (i:=6) (u:=.int .i64 (d.W2:Int)) (.there (.there (.there (.there (.here rfl)))))).put (g:=w.heap.size + 1) (i:=7) (u:=.int .i64 (d.H2:Int)) (.there (.there (.there (.there (.here rfl)))))).put (g:=w.heap.size + 1) (i:=8) (u:=.slice (some ⟨g3,0,none⟩) d.nC d.nC) (.there (.there (.there (.there (.here rfl)))))
 have h1:=HE.own_ 2 rfl
 have h2:=HE.own_ 1 rfl
 have h3:=HE.own_ 0 rfl
 dsimp only at h1 h2 h3
 have l1:w.heap.size ≤ g1:=HE.low 2 rfl
 have l2:w.heap.size ≤ g2:=HE.low 1 rfl
 have l3:w.heap.size ≤ g3:=HE.low 0 rfl
 have a12:g2 ≠ g1:=HE.apart 1 2 rfl rfl (by omega)
 have a13:g3 ≠ g1:=HE.apart 0 2 rfl rfl (by omega)
 have a23:g3 ≠ g2:=HE.apart 0 1 rfl rfl (by omega)
 have HM:=HE.mod
 clear HE
 refine bodyPost_ret (v:=.tuple #[.agg (frameV d g1 g2 g3).toArray,.int .i64 0]) (by simp [results,Tryz.results154,go_sem,rc,frameV]) rfl ⟨_,rfl,⟨g1,g2,g3,rfl,?_,l1,l2,l3⟩,HM⟩
 exact ⟨h1,h2,h3,smPlane_length.trans HD.out.2.ly,smPlane_length.trans HD.out.2.lu,smPlane_length.trans HD.out.2.lv,a12.symm,a13.symm,a23.symm⟩
theorem guessL_length (W:Nat) (pix:List UInt8) (x y m:Nat):(guessL W pix x y m).length = 64:=by simp [guessL]
theorem mvL_length (W H:Nat) (pix:List UInt8) (x y:Int) (n:Nat) (vx vy:Int):(mvL W H pix x y n vx vy).length = n * n:=by simp [mvL]
def smoved (W H:Nat) (pix:List UInt8) (x y pl:Nat) (vx vy:Int):List UInt8:=mvL W H pix x y 8 (if 0 < pl then vx / 2 else vx) (if 0 < pl then vy / 2 else vy)
end Go.Proofs.YthednemlahioeaaGreatDoor

