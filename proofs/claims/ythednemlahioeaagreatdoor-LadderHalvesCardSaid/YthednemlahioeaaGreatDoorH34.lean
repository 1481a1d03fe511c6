/-
  plane.Half of a plane of even sides.
-/
import Derived.Test.YthednemlahioeaaGreatDoorH27
import Derived.Test.YthednemlahioeaaGreatDoorH16
import Derived.Test.YthednemlahioeaaGreatDoorH9
import Derived.Test.YthednemlahioeaaGreatDoorH23
namespace Go.Proofs.YthednemlahioeaaGreatDoor
open Go.RowKit
set_option maxRecDepth 100000
set_option maxHeartbeats 8000000
theorem half_k {k r i W m:Nat} (h:k = r + 2 * i) (hr:r + W + W ≤ m) (hi:2 * i + 2 ≤ W) (hm:m ≤ 16777216):k < m ∧ k + 1 < m ∧ k + W < m ∧ k + W + 1 < m ∧ 1 ≤ W ∧ k ≤ 33554432:=by omega
theorem half_r {j H2 H W m r:Nat} (hj:j < H2) (hh:H = 2 * H2) (hm:m = W * H) (hr:r = 2 * j * W):r + W + W ≤ m:=by
 have h1:=Nat.mul_le_mul_right W (show 2 * j + 2 ≤ H by omega)
 rw [Nat.add_mul,← hr,Nat.mul_comm H W,← hm] at h1
 omega
theorem half_m {j H2 W2 N m0:Nat} (hj:j < H2) (hN:N = W2 * H2) (hm:m0 = j * W2):m0 + W2 ≤ N:=by
 have h1:=Nat.mul_le_mul_right W2 (show j + 1 ≤ H2 by omega)
 rw [Nat.add_mul,Nat.one_mul,← hm,Nat.mul_comm H2 W2,← hN] at h1
 exact h1
theorem half_w {i W2 W:Nat} (hi:i < W2) (hw:W = 2 * W2):2 * i + 2 ≤ W:=by omega
theorem half_z {z m0 i W2 N:Nat} (hz:z = m0 + i) (hi:i < W2) (h:m0 + W2 ≤ N) (hN:N ≤ 4194304):z < N ∧ z ≤ 33554432:=by omega
theorem half_v {a0 a1 a2 a3 t:Nat} (h:t = (a0 + a1 + a2 + a3 + 2) / 4):((a0:Int) + (a1:Int) + (a2:Int) + (a3:Int) + 2) / 4 = (t:Int):=by omega
theorem half_meas {i n:Nat} (h:i < n):n - (intOf (.int .i64 ((i + 1:Nat):Int))).toNat < n - (intOf (.int .i64 (i:Int))).toNat:=by simp [intOf];omega
theorem half_done {W H W2 j N:Nat} {pix:List UInt8} {f:Nat → UInt8} (hw:W = 2 * W2) (hh:H = 2 * j) (hN:N = W2 * j) (hf:f = hfF W pix W2):fillL f N (j * W2) = hfL W H pix:=by
 have e1:W / 2 = W2:=by omega
 have e2:H / 2 = j:=by omega
 unfold hfL
 rw [e1,e2,← hf,hN,Nat.mul_comm j W2,fillL_all]
theorem half_cells {w:World} {b off m W k r:Nat} {pix:List UInt8} {fv:UInt8} (hpx:∀ z,z < m → w.cell? ⟨b,off + z,none⟩ = some (.int .u8 ((pix.getD z 0).toNat:Int))) (h:k + W + 1 < m) (hW:1 ≤ W) (hr:k = r) (hf:fv.toNat = meanN W pix r) :
  ∃ a0 a1 a2 a3:Nat,w.cell? ⟨b,off + k,none⟩ = some (.int .u8 (a0:Int)) ∧ w.cell? ⟨b,off + (k + 1),none⟩ = some (.int .u8 (a1:Int)) ∧ w.cell? ⟨b,off + (k + W),none⟩ = some (.int .u8 (a2:Int)) ∧ w.cell? ⟨b,off + (k + W + 1),none⟩ = some (.int .u8 (a3:Int)) ∧
   a0 < 256 ∧ a1 < 256 ∧ a2 < 256 ∧ a3 < 256 ∧ fv.toNat = (a0 + a1 + a2 + a3 + 2) / 4:=by
 subst hr
 exact ⟨_,_,_,_,hpx k (by omega),hpx (k + 1) (by omega),hpx (k + W) (by omega),hpx (k + W + 1) (by omega),UInt8.toNat_lt _,UInt8.toNat_lt _,UInt8.toNat_lt _,UInt8.toNat_lt _,hf⟩
def HalfCut (w:World) (W2 H2 N:Nat) (pv:Array Value) (v4:Value) (wx:World):Prop:=
 ∃ hb q,v4 = .pointer (some ⟨hb,0,none⟩) ∧ Sat (fun _=>False) w wx [⟨hb,56,#[.int .i64 (W2:Int),.int .i64 (H2:Int),.slice (some ⟨q,0,none⟩) N N]⟩,⟨q,5,(u8s (List.replicate N 0)).toArray⟩,⟨w.heap.size + 1,56,#[.int .i64 0,.int .i64 0,.slice none 0 0]⟩,⟨w.heap.size,56,pv⟩] []
def HalfRel (w:World) (hb q N W2 H2:Nat) (pv:Array Value) (f:Nat → UInt8) (v42:Value) (wr:World):Prop:=
 ∃ j:Nat,j ≤ H2 ∧ v42 = .int .i64 (j:Int) ∧ Sat (fun _=>False) w wr [⟨hb,56,#[.int .i64 (W2:Int),.int .i64 (H2:Int),.slice (some ⟨q,0,none⟩) N N]⟩,⟨q,5,(u8s (fillL f N (j * W2))).toArray⟩,⟨w.heap.size + 1,56,#[.int .i64 0,.int .i64 0,.slice none 0 0]⟩,⟨w.heap.size,56,pv⟩] []
def HalfRel2 (w:World) (hb q N W2 H2 j:Nat) (pv:Array Value) (f:Nat → UInt8) (v47:Value) (wr:World):Prop:=
 ∃ i:Nat,i ≤ W2 ∧ v47 = .int .i64 (i:Int) ∧ Sat (fun _=>False) w wr [⟨hb,56,#[.int .i64 (W2:Int),.int .i64 (H2:Int),.slice (some ⟨q,0,none⟩) N N]⟩,⟨q,5,(u8s (fillL f N (j * W2 + i))).toArray⟩,⟨w.heap.size + 1,56,#[.int .i64 0,.int .i64 0,.slice none 0 0]⟩,⟨w.heap.size,56,pv⟩] []
theorem wrapN {W2 H2 N:Nat} (hN:N = W2 * H2) (h:N ≤ 4194304):wrap64 ((W2:Int) * (H2:Int)) = (N:Int) ∧ IntKind.i64.wrap ((W2:Int) * (H2:Int)) = (N:Int):=by
 have e:(W2:Int) * (H2:Int) = (N:Int):=by rw [hN];simp
 rw [e]
 exact ⟨IntWalk.wrap64_in _ ⟨by omega,by omega⟩,IntWalk.i64_in _ ⟨by omega,by omega⟩⟩
theorem wrapK {j i W r k:Nat} (hr:r = 2 * j * W) (hk:k = r + 2 * i) (h:k ≤ 33554432):wrap64 (wrap64 (2 * (j:Int) * (W:Int)) + 2 * (i:Int)) = (k:Int):=by
 have e:2 * (j:Int) * (W:Int) = (r:Int):=by rw [hr];simp
 rw [e,IntWalk.wrap64_in (r:Int) ⟨by omega,by omega⟩,IntWalk.wrap64_in _ ⟨by omega,by omega⟩]
 omega
theorem wrapZ {j i W2 m0 z:Nat} (hm:m0 = j * W2) (hz:z = m0 + i) (h:z ≤ 33554432):wrap64 (wrap64 ((j:Int) * (W2:Int)) + (i:Int)) = (z:Int):=by
 have e:(j:Int) * (W2:Int) = (m0:Int):=by rw [hm];simp
 rw [e,IntWalk.wrap64_in (m0:Int) ⟨by omega,by omega⟩,IntWalk.wrap64_in _ ⟨by omega,by omega⟩]
 omega
def HalfPost (w:World) (W2 H2 N:Nat) (l:List UInt8) (e:Ending) (w':World):Prop:=∃ q,e = .returned (.tuple #[.agg #[.int .i64 (W2:Int),.int .i64 (H2:Int),.slice (some ⟨q,0,none⟩) N N],.int .i64 0]) ∧ Blk w' q 5 (u8s l).toArray ∧ w.heap.size ≤ q ∧ Mod (fun _=>False) w w'
theorem pHalf (w:World) (W H:Nat) (A:Option Addr) (m c:Nat) (pix:List UInt8) (h:sidesB W H = true) (hm:m = W * H) (hin:BytesIn w A (W * H) c pix) (W2 H2 N:Nat) (hw:W = 2 * W2) (hh:H = 2 * H2) (hN:N = W2 * H2) :
  Calls Tryz.prog 61 #[.agg #[.int .i64 (W:Int),.int .i64 (H:Int),.slice A m c]] w (HalfPost w W2 H2 N (hfL W H pix)):=by
 obtain ⟨harea,hW0,hW,hH0,hH,_⟩:=area_le h
 obtain ⟨b,off,hA,hb,hcell⟩:=hin.place (by omega)
 subst hA
 have HI:=Lib.hid (And.intro h (And.intro hm (And.intro hb hcell)))
 have hma:m ≤ 16777216:=by omega
 have hW2:W2 ≤ 2048:=by omega
 have hH2:H2 ≤ 2048:=by omega
 have hNle:N ≤ 4194304:=by
  have h1:W2 * H2 ≤ 2048 * 2048:=Nat.mul_le_mul (by omega) (by omega)
  omega
 have hNi:=(wrapN hN hNle).1
 have HNJ:=Lib.hid (wrapN hN hNle).2
 have wm:(W:Int) % 2 = 0:=by omega
 have hmm:(H:Int) % 2 = 0:=by omega
 have wd:(W:Int) / 2 = (W2:Int):=by omega
 have hd:(H:Int) / 2 = (H2:Int):=by omega
 have wt:(W:Int).tdiv 2 = (W2:Int):=by rw [Int.tdiv_eq_ediv_of_nonneg (by omega)];exact wd
 have ht:(H:Int).tdiv 2 = (H2:Int):=by rw [Int.tdiv_eq_ediv_of_nonneg (by omega)];exact hd
 have wmt:(W:Int).tmod 2 = 0:=by rw [Int.tmod_eq_emod_of_nonneg (by omega)];exact wm
 have hmt:(H:Int).tmod 2 = 0:=by rw [Int.tmod_eq_emod_of_nonneg (by omega)];exact hmm
 have h0:=((Sat.nil (fun _=>False) w).alloc 56 #[.int .i64 (W:Int),.int .i64 (H:Int),.slice (some ⟨b,off,none⟩) m c] rfl).alloc (g:=w.heap.size + 1) 56 #[.int .i64 0,.int .i64 0,.slice none 0 0] (by simp)
 have H0:=Lib.hid h0
 have HWH:=Lib.hid (And.intro hw (And.intro hh (And.intro hN hNi)))
 clear h hm hin hcell h0 harea hw hh hN hNi
 go_enter Tryz.func61,Tryz.ntmps61
 go_upto_region 1 with (fail)
 generalize ((w.alloc (.cells #[.int .i64 (W:Int),.int .i64 (H:Int),.slice (some ⟨b,off,none⟩) m c] 56)).alloc (.cells #[.int .i64 0,.int .i64 0,.slice none 0 0] 56)) = w1 at *
 obtain ⟨pc,pf⟩:=(H0.out.own_ 1 rfl).both
 dsimp only at pc
 go_wp2_with fail
 refine (pRight' _ W H (some ⟨b,off,none⟩) m c HI.out.1 HI.out.2.1).mono ?_
 rintro e w2 ⟨rfl,hm2⟩
 have hS:=Sat.after hm2 H0.out
 clear pc pf
 have hpb:Blk w2 w.heap.size 56 #[.int .i64 (W:Int),.int .i64 (H:Int),.slice (some ⟨b,off,none⟩) m c]:=hS.own_ 1 rfl
 obtain ⟨pc,pf⟩:=hpb.both
 have HS:=Lib.hid (And.intro hS hpb)
 clear hS hm2 H0 hpb
 go_upto_region 3 with (fail)
 go_cut [4] (fun v4 wx=>HalfCut w W2 H2 N #[.int .i64 (W:Int),.int .i64 (H:Int),.slice (some ⟨b,off,none⟩) m c] v4 wx)
 case first=>
  have HPB:=Lib.hid (Blk.drew (HS.out.2))
  refine wp_region_planF [13,15,16] [0,1,2,3,4,5,6,7,8,9,10,11,12,14] (PTree.after [0,1,2,3,4,5,6,7,8,9,10,11,12] (.fork 13 15 (.seq 14 (.seq 15 (.seq 16 .nil))) (.seq 13 (.seq 14 (.seq 16 .nil))))) (fun w'=>Blk w' w.heap.size 56 #[.int .i64 (W:Int),.int .i64 (H:Int),.slice (some ⟨b,off,none⟩) m c]) (by kernel_rfl) (by kernel_rfl) (fun _ _ _ d _ h=>by cases d <;> exact h) HPB.out ?_
  refine planF_read (v:=.pointer (some ⟨w.heap.size,0,none⟩)) rfl rfl rfl (fun _ _=>rfl) (fun K hK=>?_);go_simp;refine hK _ ?_;clear hK K
  refine planF_one rfl rfl _ _ rfl rfl w.heap.size 0 rfl (.int .i64 (W:Int)) _ (fun w' hS=>Blk.cell hS 0) Tryz.underlying3 rfl (fun K hK=>?_);go_simp;refine hK _ ?_;clear hK K
  refine planF_read (v:=.int .i64 (W2:Int)) rfl rfl rfl (fun w' _=>by go_simp;exact IntWalk.i64_in _ ⟨by omega,by omega⟩) (fun K hK=>?_);go_simp;refine hK _ ?_;clear hK K
  refine planF_read (v:=.pointer (some ⟨w.heap.size,1,none⟩)) rfl rfl rfl (fun _ _=>rfl) (fun K hK=>?_);go_simp;refine hK _ ?_;clear hK K
  refine planF_one rfl rfl _ _ rfl rfl w.heap.size 1 rfl (.int .i64 (H:Int)) _ (fun w' hS=>Blk.cell hS 1) Tryz.underlying3 rfl (fun K hK=>?_);go_simp;refine hK _ ?_;clear hK K
  refine planF_read (v:=.int .i64 (H2:Int)) rfl rfl rfl (fun w' _=>by go_simp;exact IntWalk.i64_in _ ⟨by omega,by omega⟩) (fun K hK=>?_);go_simp;refine hK _ ?_;clear hK K
  refine planF_read (v:=.pointer (some ⟨w.heap.size,0,none⟩)) rfl rfl rfl (fun _ _=>rfl) (fun K hK=>?_);go_simp;refine hK _ ?_;clear hK K
  refine planF_one rfl rfl _ _ rfl rfl w.heap.size 0 rfl (.int .i64 (W:Int)) _ (fun w' hS=>Blk.cell hS 0) Tryz.underlying3 rfl (fun K hK=>?_);go_simp;refine hK _ ?_;clear hK K
  refine planF_read (v:=.int .i64 (W2:Int)) rfl rfl rfl (fun w' _=>by go_simp;exact IntWalk.i64_in _ ⟨by omega,by omega⟩) (fun K hK=>?_);go_simp;refine hK _ ?_;clear hK K
  refine planF_read (v:=.pointer (some ⟨w.heap.size,1,none⟩)) rfl rfl rfl (fun _ _=>rfl) (fun K hK=>?_);go_simp;refine hK _ ?_;clear hK K
  refine planF_one rfl rfl _ _ rfl rfl w.heap.size 1 rfl (.int .i64 (H:Int)) _ (fun w' hS=>Blk.cell hS 1) Tryz.underlying3 rfl (fun K hK=>?_);go_simp;refine hK _ ?_;clear hK K
  refine planF_read (v:=.int .i64 (H2:Int)) rfl rfl rfl (fun w' _=>by go_simp;exact IntWalk.i64_in _ ⟨by omega,by omega⟩) (fun K hK=>?_);go_simp;refine hK _ ?_;clear hK K
  refine planF_read (v:=.int .i64 (N:Int)) rfl rfl rfl (fun w' _=>by go_simp;first | exact HNJ.out | exact HWH.out.2.2.2) (fun K hK=>?_);go_simp;refine hK _ ?_;clear hK K
  have HM:=Lib.hid (Mod.refl (fun _=>False) w2.drew)
  obtain ⟨w3,hw3⟩:∃ x,x = w2.drew:=⟨_,rfl⟩
  rw [← hw3] at HM ⊢
  have HMD:Hid (Mod (fun _=>False) w2.drew w3):=by show Mod _ _ _;rw [hw3];exact Mod.refl _ _
  clear HM
  have HM:=HMD
  clear HMD hw3
  have hmk:=fun w=>run_mk_u8 w N (by omega)
  refine planF_fork rfl rfl (fun K hK=>?_) (fun K hK=>?_)
  ·go_simp
   have HQ:=Lib.hid (Blk.new w3 5 (u8s (List.replicate N 0)).toArray)
   have LQ:=HM.out.size
   have HA:=Lib.hid ((Mod.refl (fun _=>False) w3).alloc (.cells (u8s (List.replicate N 0)).toArray 5))
   have HM:=Lib.hid (HM.out.alloc (.cells (u8s (List.replicate N 0)).toArray 5))
   obtain ⟨q,eq⟩:∃ q,q = w3.heap.size:=⟨_,rfl⟩
   rw [← eq] at HQ LQ ⊢
   clear eq
   generalize w3.alloc (.cells (u8s (List.replicate N 0)).toArray 5) = w3 at *
   refine hK _ _ (Blk.keep HPB.out HM.out (fun h=>h)) ?_
   clear hK K
   refine planF_read (v:=.agg #[.int .i64 (W2:Int),.int .i64 (H2:Int),.slice (some ⟨q,0,none⟩) N N]) rfl rfl rfl (fun _ _=>by kernel_rfl) (fun K hK=>?_);go_simp;refine hK _ ?_;clear hK K
   refine planF_loud rfl rfl (fun K hK=>?_)
   go_simp
   have HZ:=Lib.hid (Blk.new w3 56 #[.int .i64 0,.int .i64 0,.slice none 0 0])
   have LZ:=HM.out.size
   have HA:=Lib.hid ((Mod.refl (fun _=>False) w3).alloc (.cells #[.int .i64 0,.int .i64 0,.slice none 0 0] 56))
   have HM:=Lib.hid (HM.out.alloc (.cells #[.int .i64 0,.int .i64 0,.slice none 0 0] 56))
   have HQ:=Lib.hid (Blk.keep HQ.out HA.out (fun h=>h))
   obtain ⟨hb',ehb⟩:∃ q,q = w3.heap.size:=⟨_,rfl⟩
   rw [← ehb] at HZ LZ ⊢
   clear ehb
   generalize w3.alloc (.cells #[.int .i64 0,.int .i64 0,.slice none 0 0] 56) = w3 at *
   refine hK _ _ (Blk.keep HPB.out HM.out (fun h=>h)) ?_
   clear hK K
   refine planF_last rfl rfl (fun K hK=>?_)
   rw [if_pos (by rfl)]
   refine wp_store_row 56 (.tmp 4) (.tmp 39) rfl hb' [.int .i64 (W2:Int),.int .i64 (H2:Int),.slice (some ⟨q,0,none⟩) N N] rfl rfl 56 [.int .i64 0,.int .i64 0,.slice none 0 0] HZ.out rfl (by kernel_rfl) (by kernel_rfl) (fun w11 hb11 hm11=>?_)
   go_simp
   refine hK _ _ ?_
   clear hK K
   refine planF_done ?_
   go_wp2_with fail
   go_meet
   have hS2:=(HS.out.1.drew).quiet HM.out
   have l1:w.heap.size + 1 < w2.heap.size:=(HS.out.1.own_ 0 rfl).lt
   have l2:w2.heap.size ≤ w2.drew.heap.size:=((Mod.refl (fun _=>False) w2).drew).size
   have nq:q ≠ hb':=Blk.ne_ HQ.out HZ.out (by decide)
   have hS3:=Sat.beside hm11 hS2 (fun i e=>.inr (by have e2:i = hb':=e;omega)) (by intro e he;simp at he;rcases he with rfl | rfl <;> (dsimp only;omega))
   have hS4:=hS3.add_own (g:=q) (Blk.keep HQ.out hm11 nq) (.inr (by omega)) (by intro e he;simp at he;rcases he with rfl | rfl <;> (dsimp only;omega))
   have hS5:=hS4.add_own (g:=hb') hb11 (.inr (by omega)) (by intro e he;simp at he;rcases he with rfl | rfl | rfl <;> (dsimp only;omega))
   exact ⟨hb',q,rfl,hS5⟩
  ·go_simp
   have HZ:=Lib.hid (Blk.new w3 56 #[.int .i64 0,.int .i64 0,.slice none 0 0])
   have LZ:=HM.out.size
   have HA:=Lib.hid ((Mod.refl (fun _=>False) w3).alloc (.cells #[.int .i64 0,.int .i64 0,.slice none 0 0] 56))
   have HM:=Lib.hid (HM.out.alloc (.cells #[.int .i64 0,.int .i64 0,.slice none 0 0] 56))
   obtain ⟨hb',ehb⟩:∃ q,q = w3.heap.size:=⟨_,rfl⟩
   rw [← ehb] at HZ LZ ⊢
   clear ehb
   generalize w3.alloc (.cells #[.int .i64 0,.int .i64 0,.slice none 0 0] 56) = w3 at *
   refine hK _ _ (Blk.keep HPB.out HM.out (fun h=>h)) ?_
   clear hK K
   refine planF_loud rfl rfl (fun K hK=>?_)
   go_simp
   have HQ:=Lib.hid (Blk.new w3 5 (u8s (List.replicate N 0)).toArray)
   have LQ:=HM.out.size
   have HA:=Lib.hid ((Mod.refl (fun _=>False) w3).alloc (.cells (u8s (List.replicate N 0)).toArray 5))
   have HM:=Lib.hid (HM.out.alloc (.cells (u8s (List.replicate N 0)).toArray 5))
   have HZ:=Lib.hid (Blk.keep HZ.out HA.out (fun h=>h))
   obtain ⟨q,eq⟩:∃ q,q = w3.heap.size:=⟨_,rfl⟩
   rw [← eq] at HQ LQ ⊢
   clear eq
   generalize w3.alloc (.cells (u8s (List.replicate N 0)).toArray 5) = w3 at *
   refine hK _ _ (Blk.keep HPB.out HM.out (fun h=>h)) ?_
   clear hK K
   refine planF_read (v:=.agg #[.int .i64 (W2:Int),.int .i64 (H2:Int),.slice (some ⟨q,0,none⟩) N N]) rfl rfl rfl (fun _ _=>by kernel_rfl) (fun K hK=>?_);go_simp;refine hK _ ?_;clear hK K
   refine planF_last rfl rfl (fun K hK=>?_)
   rw [if_pos (by rfl)]
   refine wp_store_row 56 (.tmp 4) (.tmp 39) rfl hb' [.int .i64 (W2:Int),.int .i64 (H2:Int),.slice (some ⟨q,0,none⟩) N N] rfl rfl 56 [.int .i64 0,.int .i64 0,.slice none 0 0] HZ.out rfl (by kernel_rfl) (by kernel_rfl) (fun w11 hb11 hm11=>?_)
   go_simp
   refine hK _ _ ?_
   clear hK K
   refine planF_done ?_
   go_wp2_with fail
   go_meet
   have hS2:=(HS.out.1.drew).quiet HM.out
   have l1:w.heap.size + 1 < w2.heap.size:=(HS.out.1.own_ 0 rfl).lt
   have l2:w2.heap.size ≤ w2.drew.heap.size:=((Mod.refl (fun _=>False) w2).drew).size
   have nq:q ≠ hb':=Blk.ne_ HQ.out HZ.out (by decide)
   have hS3:=Sat.beside hm11 hS2 (fun i e=>.inr (by have e2:i = hb':=e;omega)) (by intro e he;simp at he;rcases he with rfl | rfl <;> (dsimp only;omega))
   have hS4:=hS3.add_own (g:=q) (Blk.keep HQ.out hm11 nq) (.inr (by omega)) (by intro e he;simp at he;rcases he with rfl | rfl <;> (dsimp only;omega))
   have hS5:=hS4.add_own (g:=hb') hb11 (.inr (by omega)) (by intro e he;simp at he;rcases he with rfl | rfl | rfl <;> (dsimp only;omega))
   exact ⟨hb',q,rfl,hS5⟩
 case rest=>
  obtain ⟨hb',q,rfl,hS3⟩:=hcut
  rename World=>w3
  obtain ⟨f,hf⟩:∃ f,f = hfF W pix W2:=⟨_,rfl⟩
  rw [madeFill f] at hS3
  have HF:=Lib.hid hf
  have hcb:Blk w3 hb' 56 #[.int .i64 (W2:Int),.int .i64 (H2:Int),.slice (some ⟨q,0,none⟩) N N]:=hS3.own_ 0 rfl
  obtain ⟨qc,qf⟩:=hcb.both
  have HS3:=Lib.hid hS3
  clear hS3 hcb hf pc pf HS wt ht wmt hmt wm hmm wd hd
  go_wp2_with fail
  go_loopw [42] (HalfRel w hb' q N W2 H2 #[.int .i64 (W:Int),.int .i64 (H:Int),.slice (some ⟨b,off,none⟩) m c] f) (fun s _=>H2 - (intOf s).toNat)
  case atStart=>exact ⟨0,by omega,rfl,by rw [Nat.zero_mul];exact HS3.out⟩
  case round=>
   clear HS3 qc qf
   obtain ⟨j,hj,rfl,hSj⟩:=hrel
   rename World=>w4
   have hcb:Blk w4 hb' 56 #[.int .i64 (W2:Int),.int .i64 (H2:Int),.slice (some ⟨q,0,none⟩) N N]:=hSj.own_ 0 rfl
   obtain ⟨qc,qf⟩:=hcb.both
   have HJ:=Lib.hid hSj
   clear hSj hcb
   by_cases hlt:j < H2
   ·have d1:decide ((j:Int) < (H2:Int)) = true:=decide_eq_true (by omega)
    go_wp2_with fail
    go_loopw [47] (HalfRel2 w hb' q N W2 H2 j #[.int .i64 (W:Int),.int .i64 (H:Int),.slice (some ⟨b,off,none⟩) m c] f) (fun s _=>W2 - (intOf s).toNat)
    case atStart=>exact ⟨0,by omega,rfl,HJ.out⟩
    case round=>
     clear HJ qc qf
     rename World=>w6
     obtain ⟨i,hi,rfl,hSi⟩:=hrel
     by_cases hli:i < W2
     ·have d2:decide ((i:Int) < (W2:Int)) = true:=decide_eq_true (by omega)
      have hpb:Blk w6 w.heap.size 56 #[.int .i64 (W:Int),.int .i64 (H:Int),.slice (some ⟨b,off,none⟩) m c]:=hSi.own_ 3 rfl
      obtain ⟨pc,pf⟩:=hpb.both
      have HG:=Lib.hid hSi
      clear hSi hpb
      go_upto_region 11 with (fail)
      obtain ⟨k,hk⟩:∃ k,k = 2 * j * W + 2 * i:=⟨_,rfl⟩
      obtain ⟨r,hr⟩:∃ r,r = 2 * j * W:=⟨_,rfl⟩
      have hrm:r + W + W ≤ m:=half_r hlt HWH.out.2.1 HI.out.2.1 hr
      have hkr:k = r + 2 * i:=by rw [hk,hr]
      have hiW:2 * i + 2 ≤ W:=half_w hli HWH.out.1
      obtain ⟨k0,k1,k2,k3,hW1,hk33⟩:=half_k hkr hrm hiW hma
      have hkw:wrap64 (wrap64 (2 * (j:Int) * (W:Int)) + 2 * (i:Int)) = (k:Int):=wrapK hr hkr hk33
      rw [hkw]
      clear hkw
      have hpx:∀ z,z < m → w6.cell? ⟨b,off + z,none⟩ = some (.int .u8 ((pix.getD z 0).toNat:Int)):=fun z hz=>(World.cell?_of_block (HG.out.mod.block b HI.out.2.2.1 (fun h=>h))).trans (HI.out.2.2.2 z (by rw [← HI.out.2.1];exact hz))
      obtain ⟨a0,a1,a2,a3,q0,q1,q2,q3,g0,g1,g2,g3,hfv⟩:=half_cells (fv:=f (j * W2 + i)) hpx k3 hW1 hk (by rw [HF.out];exact hfF_at W pix W2 j i hli)
      have HV:=Lib.hid (And.intro hfv (And.intro hk hr))
      have HKR:=Lib.hid (And.intro hkr hrm)
      clear hfv hk hr hkr hrm hpx hk33 hW1
      go_quiet (fail)
      have hSq:=HG.out.drewN nq
      clear q0 q1 q2 q3 HG pc pf
      generalize w6.drewN nq = w7 at *
      have hcb:Blk w7 hb' 56 #[.int .i64 (W2:Int),.int .i64 (H2:Int),.slice (some ⟨q,0,none⟩) N N]:=hSq.own_ 0 rfl
      obtain ⟨qc,qf⟩:=hcb.both
      have hqb:Blk w7 q 5 (u8s (fillL f N (j * W2 + i))).toArray:=hSq.own_ 1 rfl
      have ql:=hqb.lt
      have qfz:=hqb.frozen
      obtain ⟨m0,hm0⟩:∃ m0,m0 = j * W2:=⟨_,rfl⟩
      have hmn:m0 + W2 ≤ N:=half_m hlt HWH.out.2.2.1 hm0
      obtain ⟨z,hz⟩:∃ z,z = m0 + i:=⟨_,rfl⟩
      obtain ⟨z1,hz33⟩:=half_z hz hli hmn hNle
      have hzj:j * W2 + i = z:=by rw [← hm0,← hz]
      have hq0:=fill_cell hqb (by rw [hzj];exact z1)
      rw [hzj] at hq0
      have hzw:wrap64 (wrap64 ((j:Int) * (W2:Int)) + (i:Int)) = (z:Int):=wrapZ hm0 hz hz33
      have HS:=Lib.hid (And.intro hSq (And.intro hm0 (And.intro hz hzw)))
      clear hcb hqb hSq hm0 hz hmn hzw hz33 hzj
      have hzw:=HS.out.2.2.2
      go_wp2_with fail
      have hput:=HS.out.1.put (.there (.here (fill_set f N (j * W2 + i))))
      have hval:((a0:Int) + (a1:Int) + (a2:Int) + (a3:Int) + 2) / 4 = ((f (j * W2 + i)).toNat:Int):=half_v HV.out.1
      rw [hval]
      have hzz:j * W2 + i = z:=by rw [HS.out.2.2.1,HS.out.2.1]
      rw [show (Value.int IntKind.i64 ((i:Int) + 1)) = .int .i64 ((i + 1:Nat):Int) from rfl]
      refine ⟨⟨i + 1,hli,rfl,?_⟩,half_meas hli⟩
      rw [hzz] at hput ⊢
      rw [← Nat.add_assoc,hzz]
      exact hput
     ·obtain rfl:i = W2:=by omega
      have d2:decide ((i:Int) < (i:Int)) = false:=decide_eq_false (by omega)
      have HG:=Lib.hid hSi
      clear hSi
      go_wp2_with fail
      go_roundw
      case rel=>exact ⟨j + 1,by omega,by go_num,by rw [Nat.add_mul,Nat.one_mul];exact HG.out⟩
      case measure=>simp [intOf];omega
   ·obtain rfl:j = H2:=by omega
    have d1:decide ((j:Int) < (j:Int)) = false:=decide_eq_false (by omega)
    have hrb:Blk w4 (w.heap.size + 1) 56 #[.int .i64 0,.int .i64 0,.slice none 0 0]:=HJ.out.own_ 2 rfl
    obtain ⟨rc,rf⟩:=hrb.both
    have rl:=hrb.lt
    have HNN:=Lib.hid HWH.out.2.2.1
    have HFF:=Lib.hid HF.out
    go_wp2_with fail
    have hS9:=((HJ.out.put (g:=w.heap.size + 1) (i:=0) (u:=.int .i64 (W2:Int)) (.there (.there (.here rfl)))).put (g:=w.heap.size + 1) (i:=1) (u:=.int .i64 (j:Int)) (.there (.there (.here rfl)))).put (g:=w.heap.size + 1) (i:=2) (u:=.slice (some ⟨q,0,none⟩) N N) (.there (.there (.here rfl)))
    have hrb9:Blk _ (w.heap.size + 1) 56 #[.int .i64 (W2:Int),.int .i64 (j:Int),.slice (some ⟨q,0,none⟩) N N]:=hS9.own_ 2 rfl
    have hq9:=hS9.own_ 1 rfl
    dsimp only at hq9
    rw [half_done HWH.out.1 HWH.out.2.1 HNN.out HFF.out] at hq9
    have p0:=hrb9.cell 0
    have p1:=hrb9.cell 1
    have p2:=hrb9.cell 2
    exact bodyPost_ret (v:=.tuple #[.agg #[.int .i64 (W2:Int),.int .i64 (j:Int),.slice (some ⟨q,0,none⟩) N N],.int .i64 0]) (by simp [results,Tryz.results61,go_sem,p0,p1,p2]) rfl ⟨q,rfl,hq9,hS9.low 1 rfl,hS9.mod⟩
end Go.Proofs.YthednemlahioeaaGreatDoor
