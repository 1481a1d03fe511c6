/-
  book.New.
-/
import Derived.Test.YthednemlahioeaaGreatDoorH7
import Derived.Test.YthednemlahioeaaGreatDoorH5
import Derived.Test.YthednemlahioeaaGreatDoorH9
import Derived.Test.YthednemlahioeaaGreatDoorH22
import Derived.Test.YthednemlahioeaaGreatDoorH23
import Derived.Test.YthednemlahioeaaGreatDoorH25
import Derived.Great.BuildSlice
import Derived.Deep.RegionHeld3
namespace Go.Proofs.YthednemlahioeaaGreatDoor
open Go.RowKit
set_option maxRecDepth 100000
set_option maxHeartbeats 8000000
def fillC (k:Nat):List Nat:=List.replicate k 1024 ++ List.replicate (37 - k) 0
theorem fillC_set (k:Nat) (h:k < 37):(u16s (fillC k)).set k (.int .u16 1024) = u16s (fillC (k + 1)):=by
 apply List.ext_getElem
 ·simp [u16s,fillC];omega
 ·intro i h1 h2
  have hi:i < 37:=by simp [u16s,fillC] at h2;omega
  rw [List.getElem_set]
  by_cases e:k = i
  ·subst e
   simp [u16s,fillC]
  ·rw [if_neg e]
   simp only [u16s,List.getElem_map,fillC,List.getElem_append,List.length_replicate,List.getElem_replicate]
   split <;> split <;> first | rfl | omega
theorem fillC_cell (k:Nat) (h:k < 37):(u16s (fillC k)).toArray[k]? = some (.int .u16 0):=by
 have h1:(fillC k)[k]? = some 0:=by
  unfold fillC
  rw [List.getElem?_append_right (by simp),List.length_replicate,Nat.sub_self,List.getElem?_replicate,if_pos (by omega)]
 simp [u16s,h1]
def Fill1 (w:World) (c:Nat) (v:Value) (wr:World):Prop:=∃ k:Nat,k ≤ 20 ∧ v = .int .i64 (k:Int) ∧ Blk wr c 332 (u16s (fillC k)).toArray ∧ Mod (fun _=>False) w wr
def Fill2 (w:World) (c:Nat) (v:Value) (wr:World):Prop:=∃ k:Nat,k ≤ 16 ∧ v = .int .i64 (k:Int) ∧ Blk wr c 332 (u16s (fillC (20 + k))).toArray ∧ Mod (fun _=>False) w wr
def fillB (k:Nat):List Nat:=List.replicate (k * 37) 1024 ++ List.replicate (592 - k * 37) 0
theorem fillB_length (k:Nat) (h:k ≤ 16):(fillB k).length = 592:=by simp [fillB];omega
theorem fillB_put (k:Nat) (h:k < 16):splice (u16s (fillB k)) (k * 37) (u16s (fillC 37)) = u16s (fillB (k + 1)):=by
 have h1:u16s (fillC 37) = List.replicate 37 (.int .u16 1024):=by simp [u16s,fillC]
 have h2:∀ k,u16s (fillB k) = List.replicate (k * 37) (.int .u16 1024) ++ List.replicate (592 - k * 37) (.int .u16 0):=fun k=>by simp [u16s,fillB]
 rw [h1,h2,h2]
 unfold splice
 rw [List.take_append_of_le_length (by simp),List.take_of_length_le (by simp),List.drop_append,List.drop_eq_nil_of_le (by simp),List.nil_append,List.drop_replicate,← List.append_assoc,List.replicate_append_replicate]
 congr 1
 ·congr 1;omega
 ·congr 1;simp;omega
def Fill3 (w:World) (c b:Nat) (v:Value) (wr:World):Prop:=∃ k:Nat,k ≤ 16 ∧ v = .int .i64 (k:Int) ∧ Blk wr b 335 (u16s (fillB k)).toArray ∧ Blk wr c 332 (u16s (fillC 37)).toArray ∧ Mod (fun _=>False) w wr
theorem ch_one (l:List Nat):∀ v ∈ u16s l,v.oneCell' = true:=fun v hv=>by
 obtain ⟨x,_,rfl⟩:=List.mem_map.1 hv
 rfl
theorem bNew (w:World):Calls Tryz.prog 151 #[] w fun e w'=>∃ b,e = .returned (.pointer (some ⟨b,0,none⟩)) ∧ Blk w' b 335 (u16s (fillB 16)).toArray ∧ w.heap.size ≤ b ∧ Mod (fun _=>False) w w':=by
 have hz:Tryz.zeroCells335 = (u16s (fillB 0)).toArray:=by kernel_rfl
 have HZ:=Lib.hid hz
 clear hz
 have hb0:Blk (w.alloc (.cells (u16s (fillC 0)).toArray 332)) w.heap.size 332 (u16s (fillC 0)).toArray:=Blk.new _ _ _
 have m0:Mod (fun _=>False) w (w.alloc (.cells (u16s (fillC 0)).toArray 332)):=(Mod.refl _ _).alloc _
 have HM:=Lib.hid (And.intro hb0 m0)
 clear hb0 m0
 go_enter Tryz.func151,Tryz.ntmps151
 go_upto_region 2 with (fail)
 rw [show w.alloc (.cells #[.int .u16 0,.int .u16 0,.int .u16 0,.int .u16 0,.int .u16 0,.int .u16 0,.int .u16 0,.int .u16 0,.int .u16 0,.int .u16 0,.int .u16 0,.int .u16 0,.int .u16 0,.int .u16 0,.int .u16 0,.int .u16 0,.int .u16 0,.int .u16 0,.int .u16 0,.int .u16 0,.int .u16 0,.int .u16 0,.int .u16 0,.int .u16 0,.int .u16 0,.int .u16 0,.int .u16 0,.int .u16 0,.int .u16 0,.int .u16 0,.int .u16 0,.int .u16 0,.int .u16 0,.int .u16 0,.int .u16 0,.int .u16 0,.int .u16 0] 332) = w.alloc (.cells (u16s (fillC 0)).toArray 332) from rfl]
 generalize hw1:w.alloc (.cells (u16s (fillC 0)).toArray 332) = w1 at *
 go_wp2_with fail
 go_loopw [6] (Fill1 w w.heap.size) (fun i _=>20 - (intOf i).toNat)
 case atStart=>exact ⟨0,by omega,rfl,HM.out.1,HM.out.2⟩
 case round=>
  obtain ⟨k,hk,rfl,hb,hM⟩:=hrel
  by_cases hlt:k < 20
  ·have d1:decide ((k:Int) < 20) = true:=decide_eq_true (by omega)
   have p0:(0:Int) ≤ (k:Int):=by omega
   have p1:(k:Int) < 20:=by omega
   have ck:wr.cell? ⟨w.heap.size,k,none⟩ = some (.int .u16 0):=(hb.cell k).trans (fillC_cell k (by omega))
   have fk:=hb.frozen k
   have hl:=hb.lt
   have HB:=Lib.hid (And.intro hb hM)
   clear hb hM
   go_wp2_with fail
   go_roundw
   case rel=>exact ⟨k + 1,by omega,by go_num,HB.out.1.put (by simpa using fillC_set k (by omega)),HB.out.2.setCell (.inr (Nat.le_refl _)) _⟩
   case measure=>simp [intOf];omega
  ·obtain rfl:k = 20:=by omega
   have HB:=Lib.hid (And.intro hb hM)
   clear hb hM
   go_wp2_with fail
   go_loopw [13] (Fill2 w w.heap.size) (fun i _=>16 - (intOf i).toNat)
   case atStart=>exact ⟨0,by omega,rfl,HB.out.1,HB.out.2⟩
   case round=>
    clear HB
    obtain ⟨k,hk,rfl,hb,hM⟩:=hrel
    by_cases hlt:k < 16
    ·have d1:decide ((k:Int) < 16) = true:=decide_eq_true (by omega)
     have p0:(0:Int) ≤ (k:Int):=by omega
     have p1:(k:Int) < 16:=by omega
     have ck:wr.cell? ⟨w.heap.size,20 + k,none⟩ = some (.int .u16 0):=(hb.cell (20 + k)).trans (fillC_cell (20 + k) (by omega))
     have fk:=hb.frozen (20 + k)
     have hl:=hb.lt
     have HB:=Lib.hid (And.intro hb hM)
     clear hb hM
     go_wp2_with fail
     go_roundw
     case rel=>exact ⟨k + 1,by omega,by go_num,HB.out.1.put (by rw [← Nat.add_assoc];simpa using fillC_set (20 + k) (by omega)),HB.out.2.setCell (.inr (Nat.le_refl _)) _⟩
     case measure=>simp [intOf];omega
    ·obtain rfl:k = 16:=by omega
     have ck:wr.cell? ⟨w.heap.size,36,none⟩ = some (.int .u16 0):=by rw [hb.cell];rfl
     have fk:=hb.frozen 36
     have hl:=hb.lt
     have hb2:Blk (wr.setCell ⟨w.heap.size,36,none⟩ (.int .u16 1024)) w.heap.size 332 (u16s (fillC 37)).toArray:=hb.put (by simpa using fillC_set 36 (by omega))
     have hM2:Mod (fun _=>False) w (wr.setCell ⟨w.heap.size,36,none⟩ (.int .u16 1024)):=hM.setCell (.inr (Nat.le_refl _)) _
     have HB:=Lib.hid (And.intro hb2 hM2)
     clear hb hM hb2 hM2
     go_upto_region 13 with (fail)
     clear ck fk hl
     generalize wr.setCell ⟨w.heap.size,36,none⟩ (.int .u16 1024) = w2 at *
     go_upto_region 14 with (fail)
     rw [HZ.out]
     have hb3:Blk (w2.alloc (.cells (u16s (fillB 0)).toArray 335)) w2.heap.size 335 (u16s (fillB 0)).toArray:=Blk.new _ _ _
     have hc3:=HB.out.1.alloc (.cells (u16s (fillB 0)).toArray 335)
     have hM3:=HB.out.2.alloc (.cells (u16s (fillB 0)).toArray 335)
     have hs2:=HB.out.2.size
     have hcl:=HB.out.1.lt
     generalize hbk:w2.heap.size = bk at *
     generalize w2.alloc (.cells (u16s (fillB 0)).toArray 335) = w3 at *
     have HB3:=Lib.hid (And.intro hb3 (And.intro hc3 hM3))
     clear hb3 hc3 hM3 HB hbk
     obtain ⟨ch,hch⟩:∃ ch,ch = w.heap.size:=⟨_,rfl⟩
     rw [← hch] at HB3 hcl ⊢
     clear HM
     have HCH:=Lib.hid hch
     clear hch
     go_wp2_with fail
     go_loopw [23] (Fill3 w ch bk) (fun i _=>16 - (intOf i).toNat)
     case atStart=>exact ⟨0,by omega,rfl,HB3.out.1,HB3.out.2.1,HB3.out.2.2⟩
     case round=>
      clear HB3
      obtain ⟨k,hk,rfl,hb,hc,hM⟩:=hrel
      by_cases hlt:k < 16
      ·have d1:decide ((k:Int) < 16) = true:=decide_eq_true (by omega)
       have p0:(0:Int) ≤ (k:Int):=by omega
       have p1:(k:Int) < 16:=by omega
       have HB:=Lib.hid (And.intro hb (And.intro hc hM))
       clear hb hc hM
       go_upto_region 17 with (fail)
       refine wp_region_still_tail 6 (by kernel_rfl) (by kernel_rfl) ?_
       simp only [List.take_succ_cons,List.take_zero,List.drop_succ_cons,List.drop_zero]
       repeat (first | (refine wpStill_load_row rfl 332 (.tmp 1) rfl ch rfl 332 (u16s (fillC 37)).toArray _ HB.out.2.1 Tryz.underlying332 rfl (by kernel_rfl) ?_) | still_step)
       refine wpStill_nil ?_
       change wpList _ _ _ _ _ wr.drew
       refine wpList_store_part rfl 332 (.tmp 31) (.tmp 28) rfl bk (k * 37) (u16s (fillC 37)) rfl rfl 335 (u16s (fillB k)) HB.out.1 (by kernel_rfl) (by simp [u16s,fillC,fillB];omega) (ch_one _) ?_
       intro w5 hb5 hm5
       rw [fillB_put k hlt] at hb5
       have hc5:=HB.out.2.1.keep (w:=wr.drew) hm5 (by omega)
       have hM5:Mod (fun _=>False) w w5:=(HB.out.2.2.drew).into hm5 (fun i e=>.inr (by omega))
       have HB5:=Lib.hid (And.intro hb5 (And.intro hc5 hM5))
       clear hb5 hc5 hM5 hm5
       go_wp2_with fail
       go_roundw
       case rel=>((repeat apply Exists.intro);exact ⟨⟨k + 1,by omega,by go_num,HB5.out.1,HB5.out.2.1,HB5.out.2.2⟩,rfl⟩)
       case measure=>simp [intOf];omega
      ·obtain rfl:k = 16:=by omega
       have HB:=Lib.hid (And.intro hb hM)
       clear hb hc hM
       go_wp2_with fail
       go_ret
       exact ⟨bk,rfl,HB.out.1,hs2,HB.out.2⟩
theorem fr_cells {w:World} {p:Nat} {a b c d e f g h i:Value} (hb:Blk w p 58 #[a,b,c,d,e,f,g,h,i]):w.cell? ⟨p,0,none⟩ = some a ∧ w.cell? ⟨p,1,none⟩ = some b ∧ w.cell? ⟨p,2,none⟩ = some c ∧ w.cell? ⟨p,3,none⟩ = some d ∧ w.cell? ⟨p,4,none⟩ = some e ∧ w.cell? ⟨p,5,none⟩ = some f ∧ w.cell? ⟨p,6,none⟩ = some g ∧ w.cell? ⟨p,7,none⟩ = some h ∧ w.cell? ⟨p,8,none⟩ = some i:=
 ⟨hb.cell 0,hb.cell 1,hb.cell 2,hb.cell 3,hb.cell 4,hb.cell 5,hb.cell 6,hb.cell 7,hb.cell 8⟩
theorem pCopy (w:World) (d:Dim) (hd:d.Ok) (gy gu gv:Nat) (f:Pix) (hf:FrameAt w d gy gu gv f):Calls Tryz.prog 157 #[.agg (frameV d gy gu gv).toArray] w fun e w'=>∃ p,e = .returned p ∧ FrameMade w d f p w' ∧ Mod (fun _=>False) w w':=by
 unfold frameV
 have HD:=Lib.hid (And.intro hd hf)
 clear hd hf
 have HS:=((((Sat.nil (fun _=>False) w).alloc 58 #[.int .i64 (d.W:Int),.int .i64 (d.H:Int),.slice (some ⟨gy,0,none⟩) d.nY d.nY,.int .i64 (d.W2:Int),.int .i64 (d.H2:Int),.slice (some ⟨gu,0,none⟩) d.nC d.nC,.int .i64 (d.W2:Int),.int .i64 (d.H2:Int),.slice (some ⟨gv,0,none⟩) d.nC d.nC] rfl).alloc (g:=w.heap.size + 1) 58 #[.int .i64 0,.int .i64 0,.slice none 0 0,.int .i64 0,.int .i64 0,.slice none 0 0,.int .i64 0,.int .i64 0,.slice none 0 0] (by simp))).drew
 have x0:=HS.own_ 1 rfl
 dsimp only at x0
 go_enter Tryz.func157,Tryz.ntmps157
 go_wp2_with fail
 obtain ⟨fb,hfb⟩:∃ fb,fb = w.heap.size:=⟨_,rfl⟩
 rw [← hfb] at x0 HS ⊢
 obtain ⟨res,hres⟩:∃ res,res = fb + 1:=⟨_,rfl⟩
 rw [← hres] at HS ⊢
 have n1:fb ≠ res:=by omega
 clear hfb hres
 go_region_held3 (fun w'=>w'.cell? ⟨fb,0,none⟩ = some (.int .i64 (d.W:Int)) ∧ w'.cell? ⟨fb,1,none⟩ = some (.int .i64 (d.H:Int)) ∧ w'.cell? ⟨fb,2,none⟩ = some (.slice (some ⟨gy,0,none⟩) d.nY d.nY) ∧ w'.cell? ⟨fb,3,none⟩ = some (.int .i64 (d.W2:Int)) ∧ w'.cell? ⟨fb,4,none⟩ = some (.int .i64 (d.H2:Int)) ∧ w'.cell? ⟨fb,5,none⟩ = some (.slice (some ⟨gu,0,none⟩) d.nC d.nC) ∧ w'.cell? ⟨fb,6,none⟩ = some (.int .i64 (d.W2:Int)) ∧ w'.cell? ⟨fb,7,none⟩ = some (.int .i64 (d.H2:Int)) ∧ w'.cell? ⟨fb,8,none⟩ = some (.slice (some ⟨gv,0,none⟩) d.nC d.nC)) (first | with_reducible exact fr_cells x0 | exact fr_cells (by repeat' (first | with_reducible exact x0 | with_reducible refine Blk.far ?_ n1 _))) (first | (go_at_call 218;(with_reducible refine (pOwn _ d.W d.H (some ⟨gy,0,none⟩) d.nY d.nY f.Y HD.out.1.nyle (blkIn (HD.out.2.quiet HS.mod).by_ HD.out.2.ly HD.out.1.nyle)).mono ?_);rintro e w2 ⟨g1,rfl,hb1,hg1,hm1⟩;have HS:=Sat.grew hm1 HS hb1 hg1;have x0:=x0.keep hm1 (fun h=>h);clear hb1 hg1 hm1) | (go_at_call 218;(with_reducible refine (pOwn _ d.W2 d.H2 (some ⟨gu,0,none⟩) d.nC d.nC f.U HD.out.1.ncle (blkIn (HD.out.2.quiet HS.mod).bu HD.out.2.lu HD.out.1.ncle)).mono ?_);rintro e w3 ⟨g2,rfl,hb1,hg1,hm1⟩;have HS:=Sat.grew hm1 HS hb1 hg1;have x0:=x0.keep hm1 (fun h=>h);clear hb1 hg1 hm1) | (go_at_call 218;(with_reducible refine (pOwn _ d.W2 d.H2 (some ⟨gv,0,none⟩) d.nC d.nC f.V HD.out.1.ncle (blkIn (HD.out.2.quiet HS.mod).bv HD.out.2.lv HD.out.1.ncle)).mono ?_);rintro e w4 ⟨g3,rfl,hb1,hg1,hm1⟩;have HS:=Sat.grew hm1 HS hb1 hg1;have x0:=x0.keep hm1 (fun h=>h);clear hb1 hg1 hm1;obtain ⟨rc,rf⟩:=(HS.own_ 3 rfl).both))
 have HE:=(((((((((HS).put (g:=res) (i:=0) (u:=.int .i64 (d.W:Int)) (.there (.there (.there (.here rfl))))).put (g:=res) (i:=1) (u:=.int .i64 (d.H:Int)) (.there (.there (.there (.here rfl))))).put (g:=res) (i:=2) (u:=.slice (some ⟨g1,0,none⟩) d.nY d.nY) (.there (.there (.there (.here rfl))))).put (g:=res) (i:=3) (u:=.int .i64 (d.W2:Int)) (.there (.there (.there (.here rfl))))).put (g:=res) (i:=4) (u:=.int .i64 (d.H2:Int)) (.there (.there (.there (.here rfl))))).put (g:=res) (i:=5) (u:=.slice (some ⟨g2,0,none⟩) d.nC d.nC) (.there (.there (.there (.here rfl))))).put (g:=res) (i:=6) (u:=.int .i64 (d.W2:Int)) (.there (.there (.there (.here rfl))))).put (g:=res) (i:=7) (u:=.int .i64 (d.H2:Int)) (.there (.there (.there (.here rfl))))).put (g:=res) (i:=8) (u:=.slice (some ⟨g3,0,none⟩) d.nC d.nC) (.there (.there (.there (.here rfl))))
 clear x0
 have h1:=HE.own_ 2 rfl
 have h2:=HE.own_ 1 rfl
 have h3:=HE.own_ 0 rfl
 dsimp only at h1 h2 h3
 have l1:w.heap.size ≤ g1:=HE.low 2 rfl
 have l2:w.heap.size ≤ g2:=HE.low 1 rfl
 have l3:w.heap.size ≤ g3:=HE.low 0 rfl
 have a12:g2 ≠ g1:=HE.apart 1 2 rfl rfl (by omega)
 have a13:g3 ≠ g1:=HE.apart 0 2 rfl rfl (by omega)
 have a23:g3 ≠ g2:=HE.apart 0 1 rfl rfl (by omega)
 have HM:=HE.mod
 clear HE HS
 go_wp2_with fail
 refine bodyPost_ret (v:=.agg (frameV d g1 g2 g3).toArray) (by simp [results,Tryz.results157,go_sem,rc,frameV]) rfl ⟨_,rfl,⟨g1,g2,g3,rfl,?_,l1,l2,l3⟩,HM⟩
 exact ⟨h1,h2,h3,HD.out.2.ly,HD.out.2.lu,HD.out.2.lv,a12.symm,a13.symm,a23.symm⟩
def erow (d:Dim) (fr ahd:Pix) (K:Bool) (Q:Int) (sy:Nat):Nat → Pix × Es → Pix × Es
 | 0,a=>a
 | n + 1,a=>esquareS d fr ahd K Q n sy (erow d fr ahd K Q sy n a).1 (erow d fr ahd K Q sy n a).2
def erows (d:Dim) (fr ahd:Pix) (K:Bool) (Q:Int):Nat → Pix × Es → Pix × Es
 | 0,a=>a
 | n + 1,a=>erow d fr ahd K Q n (d.W / 16) (erows d fr ahd K Q n a)
def es0:Es:=⟨fillB 16,[0,0,0,0],4294967295⟩
def ecode (d:Dim) (fr ahd:Pix) (K:Bool) (Q:Int):Pix × Es:=erows d fr ahd K Q (d.H / 16) (blankPix d 0,es0)
def eframe (d:Dim) (fr ahd:Pix) (nu q:Nat):List UInt8 × Pix:=
 (hdrB (nu == 0) nu q ++ (ecode d fr ahd (nu == 0) (q:Int)).2.code,smPix q d (ecode d fr ahd (nu == 0) (q:Int)).1)
theorem erow_len {d:Dim} {fr ahd:Pix} {K:Bool} {Q:Int} (hq:0 ≤ Q ∧ Q ≤ 31) (sy n:Nat) (a:Pix × Es):a.2.code.length ≤ (erow d fr ahd K Q sy n a).2.code.length ∧ (erow d fr ahd K Q sy n a).2.code.length ≤ a.2.code.length + n * 16500:=by
 induction n with
 | zero=>exact ⟨Nat.le_refl _,by simp [erow]⟩
 | succ n ih=>
  have:=esquareS_len (d:=d) (fr:=fr) (ahd:=ahd) (K:=K) hq n sy (erow d fr ahd K Q sy n a).1 (erow d fr ahd K Q sy n a).2
  unfold erow
  rw [Nat.add_mul]
  omega
theorem erows_len {d:Dim} {fr ahd:Pix} {K:Bool} {Q:Int} (hq:0 ≤ Q ∧ Q ≤ 31) (n:Nat) (a:Pix × Es):a.2.code.length ≤ (erows d fr ahd K Q n a).2.code.length ∧ (erows d fr ahd K Q n a).2.code.length ≤ a.2.code.length + n * (d.W / 16 * 16500):=by
 induction n with
 | zero=>exact ⟨Nat.le_refl _,by simp [erows]⟩
 | succ n ih=>
  have:=erow_len (d:=d) (fr:=fr) (ahd:=ahd) (K:=K) hq n (d.W / 16) (erows d fr ahd K Q n a)
  unfold erows
  rw [Nat.add_mul]
  omega
def flV (d:Dim) (A0 A1 A2:Option Addr) (c0 c1 c2:Nat):List Value:=
 [.int .i64 (d.W:Int),.int .i64 (d.H:Int),.slice A0 d.nY c0,.int .i64 (d.W2:Int),.int .i64 (d.H2:Int),.slice A1 d.nC c1,.int .i64 (d.W2:Int),.int .i64 (d.H2:Int),.slice A2 d.nC c2]
theorem pBlankE (w:World) (d:Dim) (hd:d.Ok):Calls Tryz.prog 46 #[.int .i64 (d.W:Int),.int .i64 (d.H:Int),.int .u8 0] w (BlankPost w d 0):=pBlank w d hd 0
theorem fr_lay9 {w:World} {p:Nat} {x0 x1 x2 x3 x4 x5 x6 x7 x8:Value} (h:Blk w p 58 #[x0,x1,x2,x3,x4,x5,x6,x7,x8]) (a b c d e f g i j:Value) :
  Blk (((((((((w.setCell ⟨p,0,none⟩ a).setCell ⟨p,1,none⟩ b).setCell ⟨p,2,none⟩ c).setCell ⟨p,3,none⟩ d).setCell ⟨p,4,none⟩ e).setCell ⟨p,5,none⟩ f).setCell ⟨p,6,none⟩ g).setCell ⟨p,7,none⟩ i).setCell ⟨p,8,none⟩ j) p 58 #[a,b,c,d,e,f,g,i,j] ∧
  Mod (· = p) w (((((((((w.setCell ⟨p,0,none⟩ a).setCell ⟨p,1,none⟩ b).setCell ⟨p,2,none⟩ c).setCell ⟨p,3,none⟩ d).setCell ⟨p,4,none⟩ e).setCell ⟨p,5,none⟩ f).setCell ⟨p,6,none⟩ g).setCell ⟨p,7,none⟩ i).setCell ⟨p,8,none⟩ j):=by
 refine ⟨?_,(((((((((Mod.refl (· = p) w).setCell (.inl rfl) a).setCell (.inl rfl) b).setCell (.inl rfl) c).setCell (.inl rfl) d).setCell (.inl rfl) e).setCell (.inl rfl) f).setCell (.inl rfl) g).setCell (.inl rfl) i).setCell (.inl rfl) j⟩
 have z:=((((((((h.set_ 0 a).set_ 1 b).set_ 2 c).set_ 3 d).set_ 4 e).set_ 5 f).set_ 6 g).set_ 7 i).set_ 8 j
 rwa [show (((((((((#[x0,x1,x2,x3,x4,x5,x6,x7,x8].setIfInBounds 0 a).setIfInBounds 1 b).setIfInBounds 2 c).setIfInBounds 3 d).setIfInBounds 4 e).setIfInBounds 5 f).setIfInBounds 6 g).setIfInBounds 7 i).setIfInBounds 8 j) = #[a,b,c,d,e,f,g,i,j] by simp] at z
structure Tri (w:World) (g fb bb:Nat) (E F B:Array Value):Prop where
 x:Blk w g 250 E
 f:Blk w fb 58 F
 b:Blk w bb 58 B
section
variable {w w' : World} {g fb bb : Nat} {E F B : Array Value}
theorem Tri.quiet (h:Tri w g fb bb E F B) (hm:Mod (fun _=>False) w w'):Tri w' g fb bb E F B:=⟨h.x.keep hm (fun h=>h),h.f.keep hm (fun h=>h),h.b.keep hm (fun h=>h)⟩
theorem Tri.drew (h:Tri w g fb bb E F B):Tri w.drew g fb bb E F B:=h.quiet ((Mod.refl _ w).drew)
end
def EFrC1 (w3:World) (bb:Nat) (K:Bool) (Q:Int) (d:Dim) (fl al:List Value) (gy gu gv:Nat) (v11:Value) (wr:World):Prop:=
 ∃ cb bk g2 v,v11 = .pointer (some ⟨cb,0,none⟩) ∧ CW w3 wr cb bk g2 v K Q d fl al gy gu gv (blankPix d 0) es0 ∧ Blk wr bb 58 (frameV d gy gu gv).toArray
def EFrPost (w:World) (g:Nat) (G q tg nu:Nat) (d:Dim) (r:List UInt8 × Pix) (e:Ending) (w':World):Prop:=
 ∃ v p ay au av,e = .returned (.tuple #[v,p,.int .i64 0]) ∧ Bytes w' w.heap.size v r.1 ∧ FrameMade w d r.2 p w' ∧
  Blk w' g 250 (encV (d.W:Int) (d.H:Int) (G:Int) ((newQ q tg G r.1.length:Nat):Int) (tg:Int) ((newN nu G:Nat):Int) (frameV d ay au av)) ∧
  FrameAt w' d ay au av r.2 ∧ (w.heap.size ≤ ay ∧ w.heap.size ≤ au ∧ w.heap.size ≤ av) ∧ (∀ j,v.ownBlock = some j → j ≠ ay ∧ j ≠ au ∧ j ≠ av) ∧ Mod (· = g) w w'
theorem fill_ok:∀ i,i < 592 → chanceOk ((fillB 16).getD i 0) = true:=by
 intro i hi
 have:fillB 16 = List.replicate 592 1024:=by
  show List.replicate 592 1024 ++ List.replicate 0 0 = _
  rw [List.replicate_zero,List.append_nil]
 rw [this,List.getD_eq_getElem?_getD,List.getElem?_replicate,if_pos hi]
 rfl
theorem efr_c1 {w3 w5 w7 w9:World} {cb bk g2 gy gu gv bb:Nat} {v:Value} {K:Bool} {Q:Int} {d:Dim} {fl al:List Value} (h35:Mod (fun _=>False) w3 w5) (h57:Mod (fun _=>False) w5 w7) (h79:Mod (· = cb) w7 w9)
  {Z:Array Value} (hz:Blk w7 cb 258 Z) (h9:Blk w9 cb 258 (codV K Q fl al (frameV d gy gu gv) bk g2)) (lcb:w5.heap.size ≤ cb) (hbk:Blk w7 bk 335 (u16s (fillB 16)).toArray) (lbk:w5.heap.size ≤ bk)
  (hea:EAt w7 g2 v [0,0,0,0] 4294967295) (lg2:w5.heap.size ≤ g2) (lv2:∀ j,v.ownBlock = some j → w5.heap.size ≤ j) (hfa:FrameAt w5 d gy gu gv (blankPix d 0)) (l1:w3.heap.size ≤ gy) (l2:w3.heap.size ≤ gu) (l3:w3.heap.size ≤ gv)
  (hbb:Blk w5 bb 58 (frameV d gy gu gv).toArray):EFrC1 w3 bb K Q d fl al gy gu gv (.pointer (some ⟨cb,0,none⟩)) w9:=by
 have s35:=h35.size
 have a1:=hfa.by_.lt
 have a2:=hfa.bu.lt
 have a3:=hfa.bv.lt
 have a4:=hbb.lt
 have n1:¬ bk = cb:=hbk.ne_ hz (by decide)
 have n2:¬ g2 = cb:=hea.blk.ne_ hz (by decide)
 refine ⟨cb,bk,g2,v,rfl,⟨(h35.trans h57).into h79 (fun i e=>.inr (by omega)),⟨hbk.keep h79 n1,fillB_length 16 (Nat.le_refl _),fill_ok,⟨hea.blk.keep h79 n2,hea.own.mod h79 (fun j e e2=>own_ne_blk hea.own hz (by decide) (e2 ▸ e)),hea.four,hea.lo,hea.hi⟩⟩,h9,(hfa.quiet h57).mod h79 (by omega) (by omega) (by omega),by omega,by omega,by omega,l1,l2,l3,fun j hj=>by have:=lv2 j hj;omega⟩,(hbb.keep h57 (fun h=>h)).keep h79 (by omega)⟩
theorem flV_len (d:Dim) (A0 A1 A2:Option Addr) (c0 c1 c2:Nat):(flV d A0 A1 A2 c0 c1 c2).length = 9:=rfl
def EFrRows (w3:World) (bb cb bk g2:Nat) (K:Bool) (Q:Int) (d:Dim) (fl al:List Value) (gy gu gv:Nat) (fr ahd:Pix) (nh:Nat) (v101:Value) (wr:World):Prop:=
 ∃ (i:Nat) (v:Value),i ≤ nh ∧ v101 = .int .i64 (i:Int) ∧ CW w3 wr cb bk g2 v K Q d fl al gy gu gv (erows d fr ahd K Q i (blankPix d 0,es0)).1 (erows d fr ahd K Q i (blankPix d 0,es0)).2 ∧ Blk wr bb 58 (frameV d gy gu gv).toArray
def EFrRow (w3:World) (bb cb bk g2:Nat) (K:Bool) (Q:Int) (d:Dim) (fl al:List Value) (gy gu gv:Nat) (fr ahd:Pix) (nw sy:Nat) (v107:Value) (wr:World):Prop:=
 ∃ (j:Nat) (v:Value),j ≤ nw ∧ v107 = .int .i64 (j:Int) ∧ CW w3 wr cb bk g2 v K Q d fl al gy gu gv (erow d fr ahd K Q sy j (erows d fr ahd K Q sy (blankPix d 0,es0))).1 (erow d fr ahd K Q sy j (erows d fr ahd K Q sy (blankPix d 0,es0))).2 ∧ Blk wr bb 58 (frameV d gy gu gv).toArray
theorem efr_sq {w3 wj:World} {cb bk g2:Nat} {v:Value} {K:Bool} {Q:Int} {d:Dim} {fl al:List Value} {gy gu gv:Nat} {fr ahd:Pix} {sx sy:Nat} (ho:Old w3 d K Q fl fr al ahd)
  (h:CW w3 wj cb bk g2 v K Q d fl al gy gu gv (erow d fr ahd K Q sy sx (erows d fr ahd K Q sy (blankPix d 0,es0))).1 (erow d fr ahd K Q sy sx (erows d fr ahd K Q sy (blankPix d 0,es0))).2)
  (hsx:sx < d.W / 16) (hsy:sy < d.H / 16) (hW:d.W ≤ 64) (hH:d.H ≤ 64) :
  Calls Tryz.prog 153 #[.pointer (some ⟨cb,0,none⟩),.int .i64 (sx:Int),.int .i64 (sy:Int)] wj (EbkPost w3 wj cb bk g2 K Q d fl al gy gu gv (erow d fr ahd K Q sy (sx + 1) (erows d fr ahd K Q sy (blankPix d 0,es0)))):=by
 have h1:=erows_len (d:=d) (fr:=fr) (ahd:=ahd) (K:=K) ho.q sy (blankPix d 0,es0)
 have h2:=erow_len (d:=d) (fr:=fr) (ahd:=ahd) (K:=K) ho.q sy sx (erows d fr ahd K Q sy (blankPix d 0,es0))
 have h3:sy * (d.W / 16 * 16500) ≤ 3 * (4 * 16500):=Nat.mul_le_mul (by omega) (Nat.mul_le_mul (by omega) (Nat.le_refl _))
 have h4:es0.code.length = 4:=rfl
 exact eSquare w3 wj cb bk g2 v K Q d fl fr al ahd gy gu gv _ _ ho h sx sy (by omega) (by omega) (by dsimp only at h1;omega)
theorem ecode_len {d:Dim} {fr ahd:Pix} {K:Bool} {Q:Int} (hq:0 ≤ Q ∧ Q ≤ 31) (hW:d.W ≤ 64) (hH:d.H ≤ 64):4 ≤ (ecode d fr ahd K Q).2.code.length ∧ (ecode d fr ahd K Q).2.code.length ≤ 300000:=by
 have h1:=erows_len (d:=d) (fr:=fr) (ahd:=ahd) (K:=K) hq (d.H / 16) (blankPix d 0,es0)
 have h3:d.H / 16 * (d.W / 16 * 16500) ≤ 4 * (4 * 16500):=Nat.mul_le_mul (by omega) (Nat.mul_le_mul (by omega) (Nat.le_refl _))
 have h4:es0.code.length = 4:=rfl
 unfold ecode
 dsimp only at h1
 omega
theorem Tri.keep1 {w w':World} {g fb bb q:Nat} {E F B:Array Value} (h:Tri w g fb bb E F B) (hm:Mod (· = q) w w') (h1:g ≠ q) (h2:fb ≠ q) (h3:bb ≠ q):Tri w' g fb bb E F B:=⟨h.x.keep hm h1,h.f.keep hm h2,h.b.keep hm h3⟩
def EFrC2 (wi:World) (d:Dim) (f:Pix) (v14 v9:Value) (wx:World):Prop:=
 ∃ zb ay au av,v14 = .pointer (some ⟨zb,0,none⟩) ∧ v9 = .int .i64 0 ∧ Blk wx zb 58 (frameV d ay au av).toArray ∧ FrameAt wx d ay au av f ∧ wi.heap.size ≤ zb ∧ wi.heap.size ≤ ay ∧ wi.heap.size ≤ au ∧ wi.heap.size ≤ av ∧ (ay ≠ zb ∧ au ≠ zb ∧ av ≠ zb) ∧ Mod (fun _=>False) wi wx
theorem hdrB_len:∀ nu < 64,∀ q < 32,1 ≤ (hdrB (nu == 0) nu q).length ∧ (hdrB (nu == 0) nu q).length ≤ 3:=by decide +kernel
theorem bytes_whole {w:World} {B g n:Nat} {l:List UInt8} (h:Blk w g 5 (u8s l).toArray) (hn:n = l.length) (hB:B ≤ g) (hl:n ≤ 1048576):Bytes w B (.slice (some ⟨g,0,none⟩) n n) l:=by
 subst hn
 exact ⟨by simp [u8s],.inr ⟨g,l.length,_,rfl,hB,h,Nat.le_refl _,by unfold maxLen;omega,by simp [u8s],by rw [Nat.mul_one];exact List.take_of_length_le (by simp [u8s])⟩⟩
theorem frameV_one (d:Dim) (ay au av:Nat):∀ v ∈ frameV d ay au av,v.oneCell' = true:=by
 intro v hv
 simp only [frameV,List.mem_cons,List.not_mem_nil,or_false] at hv
 rcases hv with rfl | rfl | rfl | rfl | rfl | rfl | rfl | rfl | rfl <;> rfl
end Go.Proofs.YthednemlahioeaaGreatDoor

