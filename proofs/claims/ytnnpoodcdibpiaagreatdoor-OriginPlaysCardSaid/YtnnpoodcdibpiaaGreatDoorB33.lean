/-
  plane.Half of a plane of even sides.
-/
import Derived.Test.YtnnpoodcdibpiaaGreatDoorB32
namespace Go.Proofs.YtnnpoodcdibpiaaGreatDoor
open Go.RowKit
set_option maxRecDepth 100000
set_option maxHeartbeats 8000000
theorem half_k{k r i W m:Nat}(h:k=r+2*i)(hr:r+W+W<=m)(hi:2*i+2<=W)(hm:m<=16777216):k<m/\k+1<m/\k+W<m/\k+W+1<m/\1<=W/\k<=33554432:=by omega
theorem half_r{j H2 H W m r:Nat}(hj:j<H2)(hh:H=2*H2)(hm:m=W*H)(hr:r=2*j*W):r+W+W<=m:=by
 have h1:=Nat.mul_le_mul_right W (show 2*j+2<=H by omega);rw [Nat.add_mul,<-hr,Nat.mul_comm H W,<-hm]at h1;omega
theorem half_m{j H2 W2 N m0:Nat}(hj:j<H2)(hN:N=W2*H2)(hm:m0=j*W2):m0+W2<=N:=by
 have h1:=Nat.mul_le_mul_right W2 (show j+1<=H2 by omega);rw [Nat.add_mul,Nat.one_mul,<-hm,Nat.mul_comm H2 W2,<-hN]at h1;exact h1
theorem half_w{i W2 W:Nat}(hi:i<W2)(hw:W=2*W2):2*i+2<=W:=by omega
theorem half_z{z m0 i W2 N:Nat}(hz:z=m0+i)(hi:i<W2)(h:m0+W2<=N)(hN:N<=4194304):z<N/\z<=33554432:=by omega
theorem half_v{a0 a1 a2 a3 t:Nat}(h:t=(a0+a1+a2+a3+2)/4):((a0:Int)+(a1:Int)+(a2:Int)+(a3:Int)+2)/4=(t:Int):=by omega
theorem half_meas{i n:Nat}(h:i<n):n-(intOf (.int .i64 ((i+1:Nat):Int))).toNat<n-(intOf (.int .i64 (i:Int))).toNat:=by simp [intOf];omega
theorem half_done{W H W2 j N:Nat}{pix:List UInt8}{f:Nat->UInt8}(hw:W=2*W2)(hh:H=2*j)(hN:N=W2*j)(hf:f=hfF W pix W2):fillL f N (j*W2)=hfL W H pix:=by
 have e1:W/2=W2:=by omega
 have e2:H/2=j:=by omega
 unfold hfL;rw [e1,e2,<-hf,hN,Nat.mul_comm j W2,fillL_all]
theorem half_cells{w:World}{b off m W k r:Nat}{pix:List UInt8}{fv:UInt8}(hpx:∀z,z<m->w.cell? ⟨b,off+z,none⟩=some (.int .u8 ((pix.getD z 0).toNat:Int)))(h:k+W+1<m)(hW:1<=W)(hr:k=r)(hf:fv.toNat=meanN W pix r):
  ∃a0 a1 a2 a3:Nat,w.cell? ⟨b,off+k,none⟩=some (.int .u8 (a0:Int))/\w.cell? ⟨b,off+(k+1),none⟩=some (.int .u8 (a1:Int))/\w.cell? ⟨b,off+(k+W),none⟩=some (.int .u8 (a2:Int))/\w.cell? ⟨b,off+(k+W+1),none⟩=some (.int .u8 (a3:Int)) /\
   a0<256/\a1<256/\a2<256/\a3<256/\fv.toNat=(a0+a1+a2+a3+2)/4:=by
 subst hr;exact⟨_,_,_,_,hpx k (by omega),hpx (k+1) (by omega),hpx (k+W) (by omega),hpx (k+W+1) (by omega),UInt8.toNat_lt _,UInt8.toNat_lt _,UInt8.toNat_lt _,UInt8.toNat_lt _,hf⟩
def HalfCut(w:World)(W2 H2 N:Nat)(pv:Array Value)(v4:Value)(wx:World):Prop:=
 ∃hb q,v4=.pointer (some ⟨hb,0,none⟩)/\Sat (fun _=>False) w wx [⟨hb,108,#[.int .i64 (W2:Int),.int .i64 (H2:Int),.slice (some ⟨q,0,none⟩) N N]⟩,⟨q,5,(u8s (List.replicate N 0)).toArray⟩,⟨w.heap.size+1,108,#[.int .i64 0,.int .i64 0,.slice none 0 0]⟩,⟨w.heap.size,108,pv⟩] []
def HalfRel(w:World)(hb q N W2 H2:Nat)(pv:Array Value)(f:Nat->UInt8)(v42:Value)(wr:World):Prop:=
 ∃j:Nat,j<=H2/\v42=.int .i64 (j:Int)/\Sat (fun _=>False) w wr [⟨hb,108,#[.int .i64 (W2:Int),.int .i64 (H2:Int),.slice (some ⟨q,0,none⟩) N N]⟩,⟨q,5,(u8s (fillL f N (j*W2))).toArray⟩,⟨w.heap.size+1,108,#[.int .i64 0,.int .i64 0,.slice none 0 0]⟩,⟨w.heap.size,108,pv⟩] []
def HalfRel2(w:World)(hb q N W2 H2 j:Nat)(pv:Array Value)(f:Nat->UInt8)(v47:Value)(wr:World):Prop:=
 ∃i:Nat,i<=W2/\v47=.int .i64 (i:Int)/\Sat (fun _=>False) w wr [⟨hb,108,#[.int .i64 (W2:Int),.int .i64 (H2:Int),.slice (some ⟨q,0,none⟩) N N]⟩,⟨q,5,(u8s (fillL f N (j*W2+i))).toArray⟩,⟨w.heap.size+1,108,#[.int .i64 0,.int .i64 0,.slice none 0 0]⟩,⟨w.heap.size,108,pv⟩] []
theorem wrapN{W2 H2 N:Nat}(hN:N=W2*H2)(h:N<=4194304):wrap64 ((W2:Int)*(H2:Int))=(N:Int)/\IntKind.i64.wrap ((W2:Int)*(H2:Int))=(N:Int):=by
 have e:(W2:Int)*(H2:Int)=(N:Int):=by rw [hN];simp
 rw [e];exact⟨IntWalk.wrap64_in _ ⟨by omega,by omega⟩,IntWalk.i64_in _ ⟨by omega,by omega⟩⟩
theorem wrapK{j i W r k:Nat}(hr:r=2*j*W)(hk:k=r+2*i)(h:k<=33554432):wrap64 (wrap64 (2*(j:Int)*(W:Int))+2*(i:Int))=(k:Int):=by
 have e:2*(j:Int)*(W:Int)=(r:Int):=by rw [hr];simp
 rw [e,IntWalk.wrap64_in (r:Int) ⟨by omega,by omega⟩,IntWalk.wrap64_in _ ⟨by omega,by omega⟩];omega
theorem wrapZ{j i W2 m0 z:Nat}(hm:m0=j*W2)(hz:z=m0+i)(h:z<=33554432):wrap64 (wrap64 ((j:Int)*(W2:Int))+(i:Int))=(z:Int):=by
 have e:(j:Int)*(W2:Int)=(m0:Int):=by rw [hm];simp
 rw [e,IntWalk.wrap64_in (m0:Int) ⟨by omega,by omega⟩,IntWalk.wrap64_in _ ⟨by omega,by omega⟩];omega
def HalfPost(w:World)(W2 H2 N:Nat)(l:List UInt8)(e:Ending)(w':World):Prop:=∃q,e=.returned (.tuple #[.agg #[.int .i64 (W2:Int),.int .i64 (H2:Int),.slice (some ⟨q,0,none⟩) N N],.int .i64 0])/\Blk w' q 5 (u8s l).toArray/\w.heap.size<=q/\Mod (fun _=>False) w w'
theorem pHalf(w:World)(W H:Nat)(A:Option Addr)(m c:Nat)(pix:List UInt8)(h:sidesB W H=true)(hm:m=W*H)(hin:BytesIn w A (W*H) c pix)(W2 H2 N:Nat)(hw:W=2*W2)(hh:H=2*H2)(hN:N=W2*H2):
  Calls Tryz.prog 178 #[.agg #[.int .i64 (W:Int),.int .i64 (H:Int),.slice A m c]] w (HalfPost w W2 H2 N (hfL W H pix)):=by
 obtain⟨harea,hW0,hW,hH0,hH,_⟩:=area_le h;obtain⟨b,off,hA,hb,hcell⟩:=hin.place (by omega);subst hA;have HI:=Lib.hid (And.intro h (And.intro hm (And.intro hb hcell)));have hma:m<=16777216:=by omega
 have hW2:W2<=2048:=by omega
 have hH2:H2<=2048:=by omega
 have hNle:N<=4194304:=by
  have h1:W2*H2<=2048*2048:=Nat.mul_le_mul (by omega) (by omega);omega
 have hNi:=(wrapN hN hNle).1;have HNJ:=Lib.hid (wrapN hN hNle).2;have wm:(W:Int) % 2=0:=by omega
 have hmm:(H:Int) % 2=0:=by omega
 have wd:(W:Int)/2=(W2:Int):=by omega
 have hd:(H:Int)/2=(H2:Int):=by omega
 have wt:(W:Int).tdiv 2=(W2:Int):=by rw [Int.tdiv_eq_ediv_of_nonneg (by omega)];exact wd
 have ht:(H:Int).tdiv 2=(H2:Int):=by rw [Int.tdiv_eq_ediv_of_nonneg (by omega)];exact hd
 have wmt:(W:Int).tmod 2=0:=by rw [Int.tmod_eq_emod_of_nonneg (by omega)];exact wm
 have hmt:(H:Int).tmod 2=0:=by rw [Int.tmod_eq_emod_of_nonneg (by omega)];exact hmm
 have h0:=((Sat.nil (fun _=>False) w).alloc 108 #[.int .i64 (W:Int),.int .i64 (H:Int),.slice (some ⟨b,off,none⟩) m c] rfl).alloc (g:=w.heap.size+1) 108 #[.int .i64 0,.int .i64 0,.slice none 0 0] (by simp);have H0:=Lib.hid h0;have HWH:=Lib.hid (And.intro hw (And.intro hh (And.intro hN hNi)));clear h hm hin hcell h0 harea hw hh hN hNi;go_enter Tryz.func178,Tryz.ntmps178;go_upto_region 1 with(fail)
 generalize ((w.alloc (.cells #[.int .i64 (W:Int),.int .i64 (H:Int),.slice (some ⟨b,off,none⟩) m c] 108)).alloc (.cells #[.int .i64 0,.int .i64 0,.slice none 0 0] 108))=w1 at *;obtain⟨pc,pf⟩:=(H0.out.own_ 1 rfl).both;dsimp only at pc;go_wp2_with fail;refine(pRight' _ W H (some ⟨b,off,none⟩) m c HI.out.1 HI.out.2.1).mono ?_;rintro e w2 ⟨rfl,hm2⟩;have hS:=Sat.after hm2 H0.out;clear pc pf;have hpb:Blk w2 w.heap.size 108 #[.int .i64 (W:Int),.int .i64 (H:Int),.slice (some ⟨b,off,none⟩) m c]:=hS.own_ 1 rfl;obtain⟨pc,pf⟩:=hpb.both;have HS:=Lib.hid (And.intro hS hpb);clear hS hm2 H0 hpb;go_upto_region 3 with(fail)
 go_cut [4] (fun v4 wx=>HalfCut w W2 H2 N #[.int .i64 (W:Int),.int .i64 (H:Int),.slice (some ⟨b,off,none⟩) m c] v4 wx)
 case first=>
  have HPB:=Lib.hid (Blk.drew (HS.out.2));refine wp_region_planF [13,15,16] [0,1,2,3,4,5,6,7,8,9,10,11,12,14] (PTree.after [0,1,2,3,4,5,6,7,8,9,10,11,12] (.fork 13 15 (.seq 14 (.seq 15 (.seq 16 .nil))) (.seq 13 (.seq 14 (.seq 16 .nil))))) (fun w'=>Blk w' w.heap.size 108 #[.int .i64 (W:Int),.int .i64 (H:Int),.slice (some ⟨b,off,none⟩) m c]) (by kernel_rfl) (by kernel_rfl) (fun _ _ _ d _ h=>by cases d<;>exact h) HPB.out ?_;refine planF_read (v:=.pointer (some ⟨w.heap.size,0,none⟩)) rfl rfl rfl (fun _ _=>rfl) (fun K hK=>?_);go_simp;refine hK _ ?_;clear hK K;refine planF_one rfl rfl _ _ rfl rfl w.heap.size 0 rfl (.int .i64 (W:Int)) _ (fun w' hS=>Blk.cell hS 0) Tryz.underlying3 rfl (fun K hK=>?_);go_simp;refine hK _ ?_;clear hK K;refine planF_read (v:=.int .i64 (W2:Int)) rfl rfl rfl (fun w' _=>by go_simp;exact IntWalk.i64_in _ ⟨by omega,by omega⟩) (fun K hK=>?_);go_simp;refine hK _ ?_;clear hK K;refine planF_read (v:=.pointer (some ⟨w.heap.size,1,none⟩)) rfl rfl rfl (fun _ _=>rfl) (fun K hK=>?_);go_simp;refine hK _ ?_;clear hK K;refine planF_one rfl rfl _ _ rfl rfl w.heap.size 1 rfl (.int .i64 (H:Int)) _ (fun w' hS=>Blk.cell hS 1) Tryz.underlying3 rfl (fun K hK=>?_);go_simp;refine hK _ ?_;clear hK K;refine planF_read (v:=.int .i64 (H2:Int)) rfl rfl rfl (fun w' _=>by go_simp;exact IntWalk.i64_in _ ⟨by omega,by omega⟩) (fun K hK=>?_);go_simp;refine hK _ ?_;clear hK K;refine planF_read (v:=.pointer (some ⟨w.heap.size,0,none⟩)) rfl rfl rfl (fun _ _=>rfl) (fun K hK=>?_);go_simp;refine hK _ ?_;clear hK K;refine planF_one rfl rfl _ _ rfl rfl w.heap.size 0 rfl (.int .i64 (W:Int)) _ (fun w' hS=>Blk.cell hS 0) Tryz.underlying3 rfl (fun K hK=>?_);go_simp;refine hK _ ?_;clear hK K;refine planF_read (v:=.int .i64 (W2:Int)) rfl rfl rfl (fun w' _=>by go_simp;exact IntWalk.i64_in _ ⟨by omega,by omega⟩) (fun K hK=>?_);go_simp;refine hK _ ?_;clear hK K;refine planF_read (v:=.pointer (some ⟨w.heap.size,1,none⟩)) rfl rfl rfl (fun _ _=>rfl) (fun K hK=>?_);go_simp;refine hK _ ?_;clear hK K;refine planF_one rfl rfl _ _ rfl rfl w.heap.size 1 rfl (.int .i64 (H:Int)) _ (fun w' hS=>Blk.cell hS 1) Tryz.underlying3 rfl (fun K hK=>?_);go_simp;refine hK _ ?_;clear hK K;refine planF_read (v:=.int .i64 (H2:Int)) rfl rfl rfl (fun w' _=>by go_simp;exact IntWalk.i64_in _ ⟨by omega,by omega⟩) (fun K hK=>?_);go_simp;refine hK _ ?_;clear hK K;refine planF_read (v:=.int .i64 (N:Int)) rfl rfl rfl (fun w' _=>by go_simp;first|exact HNJ.out|exact HWH.out.2.2.2) (fun K hK=>?_);go_simp;refine hK _ ?_;clear hK K;have HM:=Lib.hid (Mod.refl (fun _=>False) w2.drew);obtain⟨w3,hw3⟩:∃x,x=w2.drew:=⟨_,rfl⟩
  rw [<-hw3]at HM ⊢;have HMD:Hid (Mod (fun _=>False) w2.drew w3):=by show Mod _ _ _;rw [hw3];exact Mod.refl _ _
  clear HM;have HM:=HMD;clear HMD hw3;have hmk:=fun w=>run_mk_u8 w N (by omega);refine planF_fork rfl rfl (fun K hK=>?_) (fun K hK=>?_)
  ·go_simp;have HQ:=Lib.hid (Blk.new w3 5 (u8s (List.replicate N 0)).toArray);have LQ:=HM.out.size;have HA:=Lib.hid ((Mod.refl (fun _=>False) w3).alloc (.cells (u8s (List.replicate N 0)).toArray 5));have HM:=Lib.hid (HM.out.alloc (.cells (u8s (List.replicate N 0)).toArray 5));obtain⟨q,eq⟩:∃q,q=w3.heap.size:=⟨_,rfl⟩
   rw [<-eq]at HQ LQ ⊢;clear eq;generalize w3.alloc (.cells (u8s (List.replicate N 0)).toArray 5)=w3 at *;refine hK _ _ (Blk.keep HPB.out HM.out (fun h=>h)) ?_;clear hK K;refine planF_read (v:=.agg #[.int .i64 (W2:Int),.int .i64 (H2:Int),.slice (some ⟨q,0,none⟩) N N]) rfl rfl rfl (fun _ _=>by kernel_rfl) (fun K hK=>?_);go_simp;refine hK _ ?_;clear hK K;refine planF_loud rfl rfl (fun K hK=>?_);go_simp;have HZ:=Lib.hid (Blk.new w3 108 #[.int .i64 0,.int .i64 0,.slice none 0 0]);have LZ:=HM.out.size;have HA:=Lib.hid ((Mod.refl (fun _=>False) w3).alloc (.cells #[.int .i64 0,.int .i64 0,.slice none 0 0] 108));have HM:=Lib.hid (HM.out.alloc (.cells #[.int .i64 0,.int .i64 0,.slice none 0 0] 108));have HQ:=Lib.hid (Blk.keep HQ.out HA.out (fun h=>h));obtain⟨hb',ehb⟩:∃q,q=w3.heap.size:=⟨_,rfl⟩
   rw [<-ehb]at HZ LZ ⊢;clear ehb;generalize w3.alloc (.cells #[.int .i64 0,.int .i64 0,.slice none 0 0] 108)=w3 at *;refine hK _ _ (Blk.keep HPB.out HM.out (fun h=>h)) ?_;clear hK K;refine planF_last rfl rfl (fun K hK=>?_);rw [if_pos (by rfl)];refine wp_store_row 108 (.tmp 4) (.tmp 39) rfl hb' [.int .i64 (W2:Int),.int .i64 (H2:Int),.slice (some ⟨q,0,none⟩) N N] rfl rfl 108 [.int .i64 0,.int .i64 0,.slice none 0 0] HZ.out rfl (by kernel_rfl) (by kernel_rfl) (fun w11 hb11 hm11=>?_);go_simp;refine hK _ _ ?_;clear hK K;refine planF_done ?_;go_wp2_with fail;go_meet;have hS2:=(HS.out.1.drew).quiet HM.out;have l1:w.heap.size+1<w2.heap.size:=(HS.out.1.own_ 0 rfl).lt;have l2:w2.heap.size<=w2.drew.heap.size:=((Mod.refl (fun _=>False) w2).drew).size;have nq:q≠hb':=Blk.ne_ HQ.out HZ.out (by decide);have hS3:=Sat.beside hm11 hS2 (fun i e=>.inr (by have e2:i=hb':=e;omega)) (by intro e he;simp at he;rcases he with rfl|rfl<;>(dsimp only;omega));have hS4:=hS3.add_own (g:=q) (Blk.keep HQ.out hm11 nq) (.inr (by omega)) (by intro e he;simp at he;rcases he with rfl|rfl<;>(dsimp only;omega));have hS5:=hS4.add_own (g:=hb') hb11 (.inr (by omega)) (by intro e he;simp at he;rcases he with rfl|rfl|rfl<;>(dsimp only;omega));exact⟨hb',q,rfl,hS5⟩
  ·go_simp;have HZ:=Lib.hid (Blk.new w3 108 #[.int .i64 0,.int .i64 0,.slice none 0 0]);have LZ:=HM.out.size;have HA:=Lib.hid ((Mod.refl (fun _=>False) w3).alloc (.cells #[.int .i64 0,.int .i64 0,.slice none 0 0] 108));have HM:=Lib.hid (HM.out.alloc (.cells #[.int .i64 0,.int .i64 0,.slice none 0 0] 108));obtain⟨hb',ehb⟩:∃q,q=w3.heap.size:=⟨_,rfl⟩
   rw [<-ehb]at HZ LZ ⊢;clear ehb;generalize w3.alloc (.cells #[.int .i64 0,.int .i64 0,.slice none 0 0] 108)=w3 at *;refine hK _ _ (Blk.keep HPB.out HM.out (fun h=>h)) ?_;clear hK K;refine planF_loud rfl rfl (fun K hK=>?_);go_simp;have HQ:=Lib.hid (Blk.new w3 5 (u8s (List.replicate N 0)).toArray);have LQ:=HM.out.size;have HA:=Lib.hid ((Mod.refl (fun _=>False) w3).alloc (.cells (u8s (List.replicate N 0)).toArray 5));have HM:=Lib.hid (HM.out.alloc (.cells (u8s (List.replicate N 0)).toArray 5));have HZ:=Lib.hid (Blk.keep HZ.out HA.out (fun h=>h));obtain⟨q,eq⟩:∃q,q=w3.heap.size:=⟨_,rfl⟩
   rw [<-eq]at HQ LQ ⊢;clear eq;generalize w3.alloc (.cells (u8s (List.replicate N 0)).toArray 5)=w3 at *;refine hK _ _ (Blk.keep HPB.out HM.out (fun h=>h)) ?_;clear hK K;refine planF_read (v:=.agg #[.int .i64 (W2:Int),.int .i64 (H2:Int),.slice (some ⟨q,0,none⟩) N N]) rfl rfl rfl (fun _ _=>by kernel_rfl) (fun K hK=>?_);go_simp;refine hK _ ?_;clear hK K;refine planF_last rfl rfl (fun K hK=>?_);rw [if_pos (by rfl)];refine wp_store_row 108 (.tmp 4) (.tmp 39) rfl hb' [.int .i64 (W2:Int),.int .i64 (H2:Int),.slice (some ⟨q,0,none⟩) N N] rfl rfl 108 [.int .i64 0,.int .i64 0,.slice none 0 0] HZ.out rfl (by kernel_rfl) (by kernel_rfl) (fun w11 hb11 hm11=>?_);go_simp;refine hK _ _ ?_;clear hK K;refine planF_done ?_;go_wp2_with fail;go_meet;have hS2:=(HS.out.1.drew).quiet HM.out;have l1:w.heap.size+1<w2.heap.size:=(HS.out.1.own_ 0 rfl).lt;have l2:w2.heap.size<=w2.drew.heap.size:=((Mod.refl (fun _=>False) w2).drew).size;have nq:q≠hb':=Blk.ne_ HQ.out HZ.out (by decide);have hS3:=Sat.beside hm11 hS2 (fun i e=>.inr (by have e2:i=hb':=e;omega)) (by intro e he;simp at he;rcases he with rfl|rfl<;>(dsimp only;omega));have hS4:=hS3.add_own (g:=q) (Blk.keep HQ.out hm11 nq) (.inr (by omega)) (by intro e he;simp at he;rcases he with rfl|rfl<;>(dsimp only;omega));have hS5:=hS4.add_own (g:=hb') hb11 (.inr (by omega)) (by intro e he;simp at he;rcases he with rfl|rfl|rfl<;>(dsimp only;omega));exact⟨hb',q,rfl,hS5⟩
 case rest=>
  obtain⟨hb',q,rfl,hS3⟩:=hcut;rename World=>w3
  obtain⟨f,hf⟩:∃f,f=hfF W pix W2:=⟨_,rfl⟩
  rw [madeFill f]at hS3;have HF:=Lib.hid hf;have hcb:Blk w3 hb' 108 #[.int .i64 (W2:Int),.int .i64 (H2:Int),.slice (some ⟨q,0,none⟩) N N]:=hS3.own_ 0 rfl;obtain⟨qc,qf⟩:=hcb.both;have HS3:=Lib.hid hS3;clear hS3 hcb hf pc pf HS wt ht wmt hmt wm hmm wd hd;go_wp2_with fail;go_loopw [42] (HalfRel w hb' q N W2 H2 #[.int .i64 (W:Int),.int .i64 (H:Int),.slice (some ⟨b,off,none⟩) m c] f) (fun s _=>H2-(intOf s).toNat)
  case atStart=>exact⟨0,by omega,rfl,by rw [Nat.zero_mul];exact HS3.out⟩
  case round=>
   clear HS3 qc qf;obtain⟨j,hj,rfl,hSj⟩:=hrel;rename World=>w4
   have hcb:Blk w4 hb' 108 #[.int .i64 (W2:Int),.int .i64 (H2:Int),.slice (some ⟨q,0,none⟩) N N]:=hSj.own_ 0 rfl;obtain⟨qc,qf⟩:=hcb.both;have HJ:=Lib.hid hSj;clear hSj hcb;by_cases hlt:j<H2
   ·have d1:decide ((j:Int)<(H2:Int))=true:=decide_eq_true (by omega);go_wp2_with fail;go_loopw [47] (HalfRel2 w hb' q N W2 H2 j #[.int .i64 (W:Int),.int .i64 (H:Int),.slice (some ⟨b,off,none⟩) m c] f) (fun s _=>W2-(intOf s).toNat)
    case atStart=>exact⟨0,by omega,rfl,HJ.out⟩
    case round=>
     clear HJ qc qf;rename World=>w6
     obtain⟨i,hi,rfl,hSi⟩:=hrel;by_cases hli:i<W2
     ·have d2:decide ((i:Int)<(W2:Int))=true:=decide_eq_true (by omega);have hpb:Blk w6 w.heap.size 108 #[.int .i64 (W:Int),.int .i64 (H:Int),.slice (some ⟨b,off,none⟩) m c]:=hSi.own_ 3 rfl;obtain⟨pc,pf⟩:=hpb.both;have HG:=Lib.hid hSi;clear hSi hpb;go_upto_region 11 with(fail)
      obtain⟨k,hk⟩:∃k,k=2*j*W+2*i:=⟨_,rfl⟩
      obtain⟨r,hr⟩:∃r,r=2*j*W:=⟨_,rfl⟩
      have hrm:r+W+W<=m:=half_r hlt HWH.out.2.1 HI.out.2.1 hr;have hkr:k=r+2*i:=by rw [hk,hr]
      have hiW:2*i+2<=W:=half_w hli HWH.out.1;obtain⟨k0,k1,k2,k3,hW1,hk33⟩:=half_k hkr hrm hiW hma;have hkw:wrap64 (wrap64 (2*(j:Int)*(W:Int))+2*(i:Int))=(k:Int):=wrapK hr hkr hk33;rw [hkw];clear hkw;have hpx:∀z,z<m->w6.cell? ⟨b,off+z,none⟩=some (.int .u8 ((pix.getD z 0).toNat:Int)):=fun z hz=>(World.cell?_of_block (HG.out.mod.block b HI.out.2.2.1 (fun h=>h))).trans (HI.out.2.2.2 z (by rw [<-HI.out.2.1];exact hz));obtain⟨a0,a1,a2,a3,q0,q1,q2,q3,g0,g1,g2,g3,hfv⟩:=half_cells (fv:=f (j*W2+i)) hpx k3 hW1 hk (by rw [HF.out];exact hfF_at W pix W2 j i hli);have HV:=Lib.hid (And.intro hfv (And.intro hk hr));have HKR:=Lib.hid (And.intro hkr hrm);clear hfv hk hr hkr hrm hpx hk33 hW1;go_quiet (fail)
      have hSq:=HG.out.drewN nq;clear q0 q1 q2 q3 HG pc pf;generalize w6.drewN nq=w7 at *;have hcb:Blk w7 hb' 108 #[.int .i64 (W2:Int),.int .i64 (H2:Int),.slice (some ⟨q,0,none⟩) N N]:=hSq.own_ 0 rfl;obtain⟨qc,qf⟩:=hcb.both;have hqb:Blk w7 q 5 (u8s (fillL f N (j*W2+i))).toArray:=hSq.own_ 1 rfl;have ql:=hqb.lt;have qfz:=hqb.frozen;obtain⟨m0,hm0⟩:∃m0,m0=j*W2:=⟨_,rfl⟩
      have hmn:m0+W2<=N:=half_m hlt HWH.out.2.2.1 hm0;obtain⟨z,hz⟩:∃z,z=m0+i:=⟨_,rfl⟩
      obtain⟨z1,hz33⟩:=half_z hz hli hmn hNle;have hzj:j*W2+i=z:=by rw [<-hm0,<-hz]
      have hq0:=fill_cell hqb (by rw [hzj];exact z1);rw [hzj]at hq0;have hzw:wrap64 (wrap64 ((j:Int)*(W2:Int))+(i:Int))=(z:Int):=wrapZ hm0 hz hz33;have HS:=Lib.hid (And.intro hSq (And.intro hm0 (And.intro hz hzw)));clear hcb hqb hSq hm0 hz hmn hzw hz33 hzj;have hzw:=HS.out.2.2.2;go_wp2_with fail;have hput:=HS.out.1.put (.there (.here (fill_set f N (j*W2+i))));have hval:((a0:Int)+(a1:Int)+(a2:Int)+(a3:Int)+2)/4=((f (j*W2+i)).toNat:Int):=half_v HV.out.1;rw [hval];have hzz:j*W2+i=z:=by rw [HS.out.2.2.1,HS.out.2.1]
      rw [show(Value.int IntKind.i64 ((i:Int)+1))=.int .i64 ((i+1:Nat):Int)from rfl];refine⟨⟨i+1,hli,rfl,?_⟩,half_meas hli⟩;rw [hzz]at hput ⊢;rw [<-Nat.add_assoc,hzz];exact hput
     ·obtain rfl:i=W2:=by omega
      have d2:decide ((i:Int)<(i:Int))=false:=decide_eq_false (by omega);have HG:=Lib.hid hSi;clear hSi;go_wp2_with fail;go_roundw
      case rel=>exact⟨j+1,by omega,by go_num,by rw [Nat.add_mul,Nat.one_mul];exact HG.out⟩
      case measure=>simp [intOf];omega
   ·obtain rfl:j=H2:=by omega
    have d1:decide ((j:Int)<(j:Int))=false:=decide_eq_false (by omega);have hrb:Blk w4 (w.heap.size+1) 108 #[.int .i64 0,.int .i64 0,.slice none 0 0]:=HJ.out.own_ 2 rfl;obtain⟨rc,rf⟩:=hrb.both;have rl:=hrb.lt;have HNN:=Lib.hid HWH.out.2.2.1;have HFF:=Lib.hid HF.out;go_wp2_with fail;have hS9:=((HJ.out.put (g:=w.heap.size+1) (i:=0) (u:=.int .i64 (W2:Int)) (.there (.there (.here rfl)))).put (g:=w.heap.size+1) (i:=1) (u:=.int .i64 (j:Int)) (.there (.there (.here rfl)))).put (g:=w.heap.size+1) (i:=2) (u:=.slice (some ⟨q,0,none⟩) N N) (.there (.there (.here rfl)));have hrb9:Blk _ (w.heap.size+1) 108 #[.int .i64 (W2:Int),.int .i64 (j:Int),.slice (some ⟨q,0,none⟩) N N]:=hS9.own_ 2 rfl;have hq9:=hS9.own_ 1 rfl;dsimp only at hq9;rw [half_done HWH.out.1 HWH.out.2.1 HNN.out HFF.out]at hq9;have p0:=hrb9.cell 0;have p1:=hrb9.cell 1;have p2:=hrb9.cell 2;exact bodyPost_ret (v:=.tuple #[.agg #[.int .i64 (W2:Int),.int .i64 (j:Int),.slice (some ⟨q,0,none⟩) N N],.int .i64 0]) (by simp [results,Tryz.results178,go_sem,p0,p1,p2]) rfl ⟨q,rfl,hq9,hS9.low 1 rfl,hS9.mod⟩
theorem pHalf'(w:World)(W H:Nat)(A:Option Addr)(m c:Nat)(pix:List UInt8)(h:sidesB W H=true)(hm:m=W*H)(hin:BytesIn w A m c pix)(W2 H2 N:Nat)(hw:W=2*W2)(hh:H=2*H2)(hN:N=W2*H2):
  Calls Tryz.prog 178 #[.agg #[.int .i64 (W:Int),.int .i64 (H:Int),.slice A m c]] w (HalfPost w W2 H2 N (hfL W H pix)):=by
 subst hm;exact pHalf w W H A _ c pix h rfl hin W2 H2 N hw hh hN
theorem pDown(w:World)(d:Dim)(hd:d.Ok)(hW:d.W % 32=0)(hH:d.H % 32=0)(A0 A1 A2:Option Addr)(c0 c1 c2:Nat)(f:Pix)(i0:BytesIn w A0 d.nY c0 f.Y)(i1:BytesIn w A1 d.nC c1 f.U)(i2:BytesIn w A2 d.nC c2 f.V)
  (hwh:wholeI d.W d.H d.nY d.W2 d.H2 d.nC d.W2 d.H2 d.nC=true):
  Calls Tryz.prog 123 #[.agg #[.int .i64 (d.W:Int),.int .i64 (d.H:Int),.slice A0 d.nY c0,.int .i64 (d.W2:Int),.int .i64 (d.H2:Int),.slice A1 d.nC c1,.int .i64 (d.W2:Int),.int .i64 (d.H2:Int),.slice A2 d.nC c2]] w fun e w'=>∃p,e=.returned (.tuple #[p,.int .i64 0])/\FrameMade w d.down (downPix d f) p w'/\Mod (fun _=>False) w w':=by
 have h0:=((Sat.nil (fun _=>False) w).alloc 110 #[.int .i64 (d.W:Int),.int .i64 (d.H:Int),.slice A0 d.nY c0,.int .i64 (d.W2:Int),.int .i64 (d.H2:Int),.slice A1 d.nC c1,.int .i64 (d.W2:Int),.int .i64 (d.H2:Int),.slice A2 d.nC c2] rfl).alloc (g:=w.heap.size+1) 110 #[.int .i64 0,.int .i64 0,.slice none 0 0,.int .i64 0,.int .i64 0,.slice none 0 0,.int .i64 0,.int .i64 0,.slice none 0 0] (by simp);have H0:=Lib.hid (And.intro h0 (And.intro i0 (And.intro i1 i2)));have m1:((d.W:Int) % 32 != 0)=false:=by simp;omega
 have m2:((d.H:Int) % 32 != 0)=false:=by simp;omega
 have e1:d.W2=2*(d.W2/2):=by have:=hd.w2;omega
 have e2:d.H2=2*(d.H2/2):=by have:=hd.h2;omega
 have HD:=Lib.hid (And.intro hd (And.intro e1 (And.intro e2 (And.intro hW hH))));obtain⟨fc,ff⟩:=(h0.own_ 1 rfl).both;dsimp only at fc;clear h0 i0 i1 i2 e1 e2 hd hW hH;have HW:=Lib.hid hwh;clear hwh;go_enter Tryz.func123,Tryz.ntmps123;go_wp2_with fail;refine(pWholeI _ (d.W:Int) (d.H:Int) (d.W2:Int) (d.H2:Int) (d.W2:Int) (d.H2:Int) A0 A1 A2 d.nY c0 d.nC c1 d.nC c2).mono ?_;rintro e w1 ⟨rfl,hm1⟩;rw [HW.out];have hs1:=Sat.after hm1 H0.out.1;clear fc ff;obtain⟨fc,ff⟩:=(hs1.own_ 1 rfl).both;dsimp only at fc;have fl:=(hs1.own_ 1 rfl).lt;dsimp only at fl;have H1:=Lib.hid hs1;clear hs1 hm1;go_wp2_with fail;have hs2:=H1.out.alloc (g:=w1.heap.size) 110 #[.int .i64 0,.int .i64 0,.slice none 0 0,.int .i64 0,.int .i64 0,.slice none 0 0,.int .i64 0,.int .i64 0,.slice none 0 0] rfl;refine(pHalf' _ d.W d.H A0 d.nY c0 f.Y HD.out.1.sides HD.out.1.ny (H0.out.2.1.quiet hs2.mod) d.W2 d.H2 d.nC HD.out.1.w2 HD.out.1.h2 HD.out.1.nc).mono ?_;rintro e w2 ⟨q0,rfl,hb0,hl0,hm2⟩;have hs3:=Sat.grew hm2 hs2 hb0 hl0;obtain⟨fb,hfb⟩:∃b,b=w1.heap.size:=⟨_,rfl⟩
 rw [<-hfb]at hs3 ⊢;have HX:=Lib.hid hfb;clear fc ff hb0 hl0 hm2 hs2 fl hfb;obtain⟨fc,ff⟩:=(hs3.own_ 1 rfl).both;dsimp only at fc;have hl3:=(hs3.own_ 1 rfl).lt;dsimp only at hl3;have H3:=Lib.hid hs3;clear hs3;go_upto_region 5 with(fail)
 have hs4:Sat (fun _=>False) w (((w2.setCell ⟨fb,0,none⟩ (.int .i64 (d.W2:Int))).setCell ⟨fb,1,none⟩ (.int .i64 (d.H2:Int))).setCell ⟨fb,2,none⟩ (.slice (some ⟨q0,0,none⟩) d.nC d.nC)) [⟨q0,5,(u8s (hfL d.W d.H f.Y)).toArray⟩,⟨fb,110,#[.int .i64 (d.W2:Int),.int .i64 (d.H2:Int),.slice (some ⟨q0,0,none⟩) d.nC d.nC,.int .i64 0,.int .i64 0,.slice none 0 0,.int .i64 0,.int .i64 0,.slice none 0 0]⟩,⟨w.heap.size+1,110,#[.int .i64 0,.int .i64 0,.slice none 0 0,.int .i64 0,.int .i64 0,.slice none 0 0,.int .i64 0,.int .i64 0,.slice none 0 0]⟩,⟨w.heap.size,110,#[.int .i64 (d.W:Int),.int .i64 (d.H:Int),.slice A0 d.nY c0,.int .i64 (d.W2:Int),.int .i64 (d.H2:Int),.slice A1 d.nC c1,.int .i64 (d.W2:Int),.int .i64 (d.H2:Int),.slice A2 d.nC c2]⟩] []:=
  ((H3.out.put (.there (.here rfl))).put (.there (.here rfl))).put (.there (.here rfl))
 clear fc ff hl3 H3;generalize (((w2.setCell ⟨fb,0,none⟩ (.int .i64 (d.W2:Int))).setCell ⟨fb,1,none⟩ (.int .i64 (d.H2:Int))).setCell ⟨fb,2,none⟩ (.slice (some ⟨q0,0,none⟩) d.nC d.nC))=w3 at *;obtain⟨fc,ff⟩:=(hs4.own_ 3 rfl).both;dsimp only at fc;have H4:=Lib.hid hs4;clear hs4;go_wp2_with fail;refine(pHalf' _ d.W2 d.H2 A1 d.nC c1 f.U HD.out.1.half HD.out.1.nc (H0.out.2.2.1.quiet H4.out.mod) (d.W2/2) (d.H2/2) (d.W2/2*(d.H2/2)) HD.out.2.1 HD.out.2.2.1 rfl).mono ?_;rintro e w4 ⟨q1,rfl,hb1,hl1,hm4⟩;have hs5:=Sat.grew hm4 H4.out hb1 hl1;obtain⟨W4,hW4⟩:∃x,x=d.W2/2:=⟨_,rfl⟩
 obtain⟨H4',hH4⟩:∃x,x=d.H2/2:=⟨_,rfl⟩
 obtain⟨N4,hN4⟩:∃x,x=W4*H4':=⟨_,rfl⟩
 rw [<-hW4,<-hH4,<-hN4];have HE:=Lib.hid (And.intro hW4 (And.intro hH4 hN4));clear fc ff hb1 hl1 hm4 hW4 hH4 hN4;obtain⟨fc,ff⟩:=(hs5.own_ 2 rfl).both;dsimp only at fc;have hl3:=(hs5.own_ 2 rfl).lt;dsimp only at hl3;have H5:=Lib.hid hs5;clear hs5;go_upto_region 6 with(fail)
 have hs6:Sat (fun _=>False) w (((w4.setCell ⟨fb,3,none⟩ (.int .i64 (W4:Int))).setCell ⟨fb,4,none⟩ (.int .i64 (H4':Int))).setCell ⟨fb,5,none⟩ (.slice (some ⟨q1,0,none⟩) N4 N4)) [⟨q1,5,(u8s (hfL d.W2 d.H2 f.U)).toArray⟩,⟨q0,5,(u8s (hfL d.W d.H f.Y)).toArray⟩,⟨fb,110,#[.int .i64 (d.W2:Int),.int .i64 (d.H2:Int),.slice (some ⟨q0,0,none⟩) d.nC d.nC,.int .i64 (W4:Int),.int .i64 (H4':Int),.slice (some ⟨q1,0,none⟩) N4 N4,.int .i64 0,.int .i64 0,.slice none 0 0]⟩,⟨w.heap.size+1,110,#[.int .i64 0,.int .i64 0,.slice none 0 0,.int .i64 0,.int .i64 0,.slice none 0 0,.int .i64 0,.int .i64 0,.slice none 0 0]⟩,⟨w.heap.size,110,#[.int .i64 (d.W:Int),.int .i64 (d.H:Int),.slice A0 d.nY c0,.int .i64 (d.W2:Int),.int .i64 (d.H2:Int),.slice A1 d.nC c1,.int .i64 (d.W2:Int),.int .i64 (d.H2:Int),.slice A2 d.nC c2]⟩] []:=
  ((H5.out.put (.there (.there (.here rfl)))).put (.there (.there (.here rfl)))).put (.there (.there (.here rfl)))
 clear fc ff hl3 H5;generalize (((w4.setCell ⟨fb,3,none⟩ (.int .i64 (W4:Int))).setCell ⟨fb,4,none⟩ (.int .i64 (H4':Int))).setCell ⟨fb,5,none⟩ (.slice (some ⟨q1,0,none⟩) N4 N4))=w5 at *;obtain⟨fc,ff⟩:=(hs6.own_ 4 rfl).both;dsimp only at fc;have H6:=Lib.hid hs6;clear hs6;go_wp2_with fail;refine(pHalf' _ d.W2 d.H2 A2 d.nC c2 f.V HD.out.1.half HD.out.1.nc (H0.out.2.2.2.quiet H6.out.mod) W4 H4' N4 (by rw [HE.out.1];exact HD.out.2.1) (by rw [HE.out.2.1];exact HD.out.2.2.1) HE.out.2.2).mono ?_;rintro e w6 ⟨q2,rfl,hb2,hl2,hm6⟩;have hs7:=Sat.grew hm6 H6.out hb2 hl2;clear fc ff hb2 hl2 hm6;obtain⟨fc,ff⟩:=(hs7.own_ 3 rfl).both;dsimp only at fc;have hl3:=(hs7.own_ 3 rfl).lt;dsimp only at hl3;have H7:=Lib.hid hs7;clear hs7;go_upto_region 7 with(fail)
 have hs8:Sat (fun _=>False) w (((w6.setCell ⟨fb,6,none⟩ (.int .i64 (W4:Int))).setCell ⟨fb,7,none⟩ (.int .i64 (H4':Int))).setCell ⟨fb,8,none⟩ (.slice (some ⟨q2,0,none⟩) N4 N4)) [⟨q2,5,(u8s (hfL d.W2 d.H2 f.V)).toArray⟩,⟨q1,5,(u8s (hfL d.W2 d.H2 f.U)).toArray⟩,⟨q0,5,(u8s (hfL d.W d.H f.Y)).toArray⟩,⟨fb,110,#[.int .i64 (d.W2:Int),.int .i64 (d.H2:Int),.slice (some ⟨q0,0,none⟩) d.nC d.nC,.int .i64 (W4:Int),.int .i64 (H4':Int),.slice (some ⟨q1,0,none⟩) N4 N4,.int .i64 (W4:Int),.int .i64 (H4':Int),.slice (some ⟨q2,0,none⟩) N4 N4]⟩,⟨w.heap.size+1,110,#[.int .i64 0,.int .i64 0,.slice none 0 0,.int .i64 0,.int .i64 0,.slice none 0 0,.int .i64 0,.int .i64 0,.slice none 0 0]⟩,⟨w.heap.size,110,#[.int .i64 (d.W:Int),.int .i64 (d.H:Int),.slice A0 d.nY c0,.int .i64 (d.W2:Int),.int .i64 (d.H2:Int),.slice A1 d.nC c1,.int .i64 (d.W2:Int),.int .i64 (d.H2:Int),.slice A2 d.nC c2]⟩] []:=
  ((H7.out.put (.there (.there (.there (.here rfl))))).put (.there (.there (.there (.here rfl))))).put (.there (.there (.there (.here rfl))))
 clear fc ff hl3 H7;generalize (((w6.setCell ⟨fb,6,none⟩ (.int .i64 (W4:Int))).setCell ⟨fb,7,none⟩ (.int .i64 (H4':Int))).setCell ⟨fb,8,none⟩ (.slice (some ⟨q2,0,none⟩) N4 N4))=w7 at *;obtain⟨fc,ff⟩:=(hs8.own_ 3 rfl).both;dsimp only at fc;have fl:=(hs8.own_ 3 rfl).lt;obtain⟨rc,rf⟩:=(hs8.own_ 4 rfl).both;dsimp only at rc fl;have rl:=(hs8.own_ 4 rfl).lt;dsimp only at rl;have H8:=Lib.hid hs8;clear hs8;go_wp2_with fail;have hr8:=H8.out.own_ 4 rfl;dsimp only at hr8;obtain⟨b9,m9⟩:=fr_lay9 hr8 (.int .i64 (d.W2:Int)) (.int .i64 (d.H2:Int)) (.slice (some ⟨q0,0,none⟩) d.nC d.nC) (.int .i64 (W4:Int)) (.int .i64 (H4':Int)) (.slice (some ⟨q1,0,none⟩) N4 N4) (.int .i64 (W4:Int)) (.int .i64 (H4':Int)) (.slice (some ⟨q2,0,none⟩) N4 N4)
 skip
 have hs9:=H8.out.turn m9 b9 (.there (.there (.there (.there .here))));have p0:=b9.cell 0;have p1:=b9.cell 1;have p2:=b9.cell 2;have p3:=b9.cell 3;have p4:=b9.cell 4;have p5:=b9.cell 5;have p6:=b9.cell 6;have p7:=b9.cell 7;have p8:=b9.cell 8;have y0:=hs9.own_ 2 rfl;have y1:=hs9.own_ 1 rfl;have y2:=hs9.own_ 0 rfl;dsimp only at y0 y1 y2;have n01:=hs9.apart 1 2 rfl rfl (by omega);have n02:=hs9.apart 0 2 rfl rfl (by omega);have n12:=hs9.apart 0 1 rfl rfl (by omega);have L0:=hs9.low 2 rfl;have L1:=hs9.low 1 rfl;have L2:=hs9.low 0 rfl;dsimp only at n01 n02 n12 L0 L1 L2;have hM:=hs9.mod;have hv:frameV d.down q0 q1 q2=[.int .i64 (d.W2:Int),.int .i64 (d.H2:Int),.slice (some ⟨q0,0,none⟩) d.nC d.nC,.int .i64 (W4:Int),.int .i64 (H4':Int),.slice (some ⟨q1,0,none⟩) N4 N4,.int .i64 (W4:Int),.int .i64 (H4':Int),.slice (some ⟨q2,0,none⟩) N4 N4]:=by
  have e3:N4=d.W2/2*(d.H2/2):=by rw [HE.out.2.2,HE.out.1,HE.out.2.1]
  rw [e3,HE.out.1,HE.out.2.1];rfl
 have ly:(downPix d f).Y.length=d.down.nY:=by
  show(hfL d.W d.H f.Y).length=d.nC;rw [hfL_length,HD.out.1.nc];have a:=HD.out.1.w2;have b:=HD.out.1.h2;rw [show d.W/2=d.W2 by omega,show d.H/2=d.H2 by omega]
 have HZ:=Lib.hid (And.intro y0 (And.intro y1 (And.intro y2 (And.intro (And.intro n01 (And.intro n02 n12)) (And.intro (And.intro L0 (And.intro L1 L2)) (And.intro hM ly))))));clear y0 y1 y2 n01 n02 n12 L0 L1 L2 hM ly hs9 hr8 b9 m9 fc ff fl rc rf rl;refine bodyPost_ret (v:=.tuple #[.agg (frameV d.down q0 q1 q2).toArray,.int .i64 0]) (by rw [hv];simp [results,Tryz.results123,go_sem,p0,p1,p2,p3,p4,p5,p6,p7,p8]) rfl ⟨_,rfl,⟨q0,q1,q2,rfl,⟨HZ.out.1,HZ.out.2.1,HZ.out.2.2.1,HZ.out.2.2.2.2.2.2,?_,?_,Ne.symm HZ.out.2.2.2.1.1,Ne.symm HZ.out.2.2.2.1.2.1,Ne.symm HZ.out.2.2.2.1.2.2⟩,HZ.out.2.2.2.2.1.1,HZ.out.2.2.2.2.1.2.1,HZ.out.2.2.2.2.1.2.2⟩,HZ.out.2.2.2.2.2.1⟩
 ·exact hfL_length d.W2 d.H2 f.U
 ·exact hfL_length d.W2 d.H2 f.V
def outsN(d:Dim)(G tg q:Nat)(fs:List Pix)(i j:Nat):List (List UInt8 × Pix):=(List.range j).map fun t=>outSt d G tg q fs (i*G+t)
theorem outsN_succ(d:Dim)(G tg q:Nat)(fs:List Pix)(i j:Nat):outsN d G tg q fs i (j+1)=outsN d G tg q fs i j++[outSt d G tg q fs (i*G+j)]:=by
 unfold outsN;rw [List.range_succ,List.map_append];rfl
def OneRel(B:Nat)(W:World)(p:MkP)(v:Value)(Z:Nat)(done:List (List (List UInt8 × Pix)))(gb:Nat)(fsP:List Pix)(q0 i:Nat)(v55:Value)(wr:World):Prop:=
 ∃(j T:Nat) (sv fv:Value),j<=segLen p.G fsP.length i/\v55=.int .i64 (j:Int) /\
  MkIn B W p v Z done gb T sv fv ((outsN p.d p.G p.tg q0 fsP i j).map Prod.fst) ((outsN p.d p.G p.tg q0 fsP i j).map Prod.snd) (encSt p.d p.G p.tg q0 fsP (i*p.G+j)).1 (j % p.G) (encSt p.d p.G p.tg q0 fsP (i*p.G+j)).2 wr
structure FxAt(w:World)(fb eb:Nat)(d:Dim)(P:Pix)(fx:FrX):Prop where
 blk:Blk w fb 110 fx.cells.toArray
 in_:fx.In w
 good:fx.goodB d=true
 pix:fx.pix=P
 off:∀ad,(fx.A0=some ad\/fx.A1=some ad\/fx.A2=some ad)->ad.block≠fb/\ad.block≠eb
theorem FrX.In.mod{f:FrX}{w w':World}{S:Nat->Prop}(h:f.In w)(hm:Mod S w w')(hS:∀ad,(f.A0=some ad\/f.A1=some ad\/f.A2=some ad)->¬S ad.block):f.In w':=
 ⟨h.b0.mod hm (fun _ ad e=>hS ad (.inl e)),h.b1.mod hm (fun _ ad e=>hS ad (.inr (.inl e))),h.b2.mod hm (fun _ ad e=>hS ad (.inr (.inr e))),h.k0,h.k1,h.k2,h.m0,h.m1,h.m2⟩
theorem FrX.In.quiet'{f:FrX}{w w':World}(h:f.In w)(hm:Mod (fun _=>False) w w'):f.In w':=h.mod hm (fun _ _ h=>h)
def DownRel(B:Nat)(W:World)(p:MkP)(v:Value)(Z:Nat)(done:List (List (List UInt8 × Pix)))(gb T:Nat)(sv fv:Value)(ss:List (List UInt8))(ff:List Pix)(q nu:Nat)(ahd:Pix)(fb dn:Nat)(d0:Dim)(P:Pix)(v61:Value)(wq:World):Prop:=
 ∃(m:Nat) (fx:FrX),m<=dn/\v61=.int .i64 (m:Int)/\FxAt wq fb p.eb (d0.downs m) (downsPix d0 P m) fx/\MkIn B W p v Z done gb T sv fv ss ff q nu ahd wq
theorem goodB_of{d:Dim}(hd:d.Ok)(g0 g1 g2:Nat)(P:Pix):(FrX.mk (d.W:Int) (d.H:Int) (some ⟨g0,0,none⟩) d.nY d.nY (d.W2:Int) (d.H2:Int) (some ⟨g1,0,none⟩) d.nC d.nC (d.W2:Int) (d.H2:Int) (some ⟨g2,0,none⟩) d.nC d.nC P.Y P.U P.V).goodB d=true:=by
 have hs:=hd.sides;have hh:=hd.half;have a1:=hd.w2;have a2:=hd.h2;have b1:=hd.w16;have b2:=hd.h16;have c1:((d.nY:Nat):Int)=(d.W:Int)*(d.H:Int):=by rw [hd.ny,Int.natCast_mul]
 have c2:((d.nC:Nat):Int)=(d.W2:Int)*(d.H2:Int):=by rw [hd.nc,Int.natCast_mul]
 obtain⟨x1,x2,x3,x4,x5,x6⟩:=area_le hs;obtain⟨y1,y2,y3,y4,y5,y6⟩:=area_le hh;have s0:sidesI (d.W:Int) (d.H:Int)=true:=by unfold sidesI;simp;omega
 have s1:sidesI (d.W2:Int) (d.H2:Int)=true:=by unfold sidesI;simp;omega
 have r0:rightI (d.W:Int) (d.H:Int) d.nY=true:=by unfold rightI;rw [s0,decide_eq_true c1];rfl
 have r1:rightI (d.W2:Int) (d.H2:Int) d.nC=true:=by unfold rightI;rw [s1,decide_eq_true c2];rfl
 unfold FrX.goodB wholeI;dsimp only;rw [decide_eq_true (p:=(d.W:Int)=(d.W:Int)) rfl,decide_eq_true (p:=(d.H:Int)=(d.H:Int)) rfl,Bool.and_true,Bool.and_true];exact decide_eq_true ⟨r0,r1,r1,by omega,by omega,by omega,by omega,by omega,by omega⟩
theorem Dim.Ok.whole1{d:Dim}(hd:d.Ok):wholeI d.W d.H d.nY d.W2 d.H2 d.nC d.W2 d.H2 d.nC=true:=by
 have h1:=goodB_of hd 0 0 0 noPix;unfold FrX.goodB at h1;rw [Bool.and_eq_true]at h1;exact h1.1
theorem pDownX(w:World)(d:Dim)(hd:d.Ok)(hdd:d.down.Ok)(hW:d.W % 32=0)(hH:d.H % 32=0)(fx:FrX)(hg:fx.goodB d=true)(hin:fx.In w):
  Calls Tryz.prog 123 #[.agg fx.cells.toArray] w fun e w'=>∃fy:FrX,e=.returned (.tuple #[.agg fy.cells.toArray,.int .i64 0])/\fy.In w'/\fy.goodB d.down=true/\fy.pix=downPix d fx.pix/\(∀ad,(fy.A0=some ad\/fy.A1=some ad\/fy.A2=some ad)->w.heap.size<=ad.block)/\Mod (fun _=>False) w w':=by
 have hw:=hd.whole1;obtain⟨hcl,h0,h1,h2⟩:=FrX.good hd hg;have i0:=hin.b0;have i1:=hin.b1;have i2:=hin.b2;rw [h0]at i0;rw [h1]at i1;rw [h2]at i2;rw [hcl];refine(pDown w d hd hW hH fx.A0 fx.A1 fx.A2 fx.c0 fx.c1 fx.c2 fx.pix i0 i1 i2 hw).mono ?_;rintro e w' ⟨p,rfl,⟨g0,g1,g2,rfl,hf,l0,l1,l2⟩,hm⟩
 refine⟨FrX.mk (d.down.W:Int) (d.down.H:Int) (some ⟨g0,0,none⟩) d.down.nY d.down.nY (d.down.W2:Int) (d.down.H2:Int) (some ⟨g1,0,none⟩) d.down.nC d.down.nC (d.down.W2:Int) (d.down.H2:Int) (some ⟨g2,0,none⟩) d.down.nC d.down.nC (downPix d fx.pix).Y (downPix d fx.pix).U (downPix d fx.pix).V,rfl,
  ⟨blkIn hf.by_ hf.ly hdd.nyle,blkIn hf.bu hf.lu hdd.ncle,blkIn hf.bv hf.lv hdd.ncle,Nat.le_refl _,Nat.le_refl _,Nat.le_refl _,?_,?_,?_⟩,goodB_of hdd g0 g1 g2 _,rfl,?_,hm⟩
 ·show d.down.nY<=_;have:=hdd.nyle;omega
 ·show d.down.nC<=_;have:=hdd.ncle;omega
 ·show d.down.nC<=_;have:=hdd.ncle;omega
 ·rintro ad (e|e|e)<;>(injection e with e;subst e;assumption)
def FramePost15(w:World)(g:Nat)(d:Dim)(G q tg nu:Nat)(r:List UInt8 × Pix)(e:Ending)(w':World):Prop:=
 ∃A c g0 g1 g2,e=.returned (.tuple #[.slice A r.1.length c,.agg (frameV d g0 g1 g2).toArray,.int .i64 0])/\Bytes w' w.heap.size (.slice A r.1.length c) r.1/\FrameAt w' d g0 g1 g2 r.2/\(w.heap.size<=g0/\w.heap.size<=g1/\w.heap.size<=g2) /\
   EncAt w' g d G (newQ q tg G r.1.length) tg (newN nu G) r.2/\Mod (·=g) w w'
theorem encFrameGood{w:World}{g:Nat}{d:Dim}{G q tg nu:Nat}{ahd:Pix}(h:EncAt w g d G q tg nu ahd)(he:EnvP w)(hd:d.Ok)(hW:d.W<=64)(hH:d.H<=64)(hG:1<=G/\G<=64)(hq:q<=31)(ht:tg<=1048576)(hnu:nu<G)(f:FrX)(hf:f.In w)(hg:f.goodB d=true){r:List UInt8 × Pix}(hr:eframe d f.pix ahd nu q=r):
  Calls Tryz.prog 124 #[.pointer (some ⟨g,0,none⟩),.agg f.cells.toArray] w (FramePost15 w g d G q tg nu r):=by
 refine(encFrameAt h he hd hW hH hG hq ht hnu f hf).mono ?_;rintro e w' (⟨h1,_⟩|⟨_,v,p,rfl,hB,⟨g0,g1,g2,rfl,hfp,l0,l1,l2⟩,hE,hm⟩)
 ·exact absurd (h1.symm.trans hg) (by decide)
 ·rw [hr]at hB hfp hE;obtain⟨A,c,rfl⟩:=own_shape hB;exact⟨A,c,g0,g1,g2,rfl,hB,hfp,⟨l0,l1,l2⟩,hE,hm⟩
theorem FrX.low{f:FrX}{d:Dim}{w:World}(hd:d.Ok)(hg:f.goodB d=true)(h:f.In w):∀ad,(f.A0=some ad\/f.A1=some ad\/f.A2=some ad)->ad.block<w.heap.size:=by
 obtain⟨_,h0,h1,h2⟩:=FrX.good hd hg;obtain⟨_,a1,_,a3,_,a5⟩:=area_le hd.sides;obtain⟨_,b1,_,b3,_,b5⟩:=area_le hd.half;rintro ad (e|e|e)
 ·exact h.b0.2.2.2 (by rw [h0,hd.ny];exact Nat.mul_pos a1 a3) ad e
 ·exact h.b1.2.2.2 (by rw [h1,hd.nc];exact Nat.mul_pos b1 b3) ad e
 ·exact h.b2.2.2.2 (by rw [h2,hd.nc];exact Nat.mul_pos b1 b3) ad e
section
variable {B : Nat} {W : World} {p : MkP} {v : Value} {Z : Nat} {done : List (List (List UInt8 × Pix))} {gb T : Nat} {sv fv : Value} {ss : List (List UInt8)} {ff : List Pix} {q nu : Nat} {ahd : Pix} {w w' : World}
theorem MkIn.ne_(h:MkIn B W p v Z done gb T sv fv ss ff q nu ahd w){x:Nat}(hx:T<=x):x≠p.eb/\x≠p.g:=by
 obtain⟨g1,g2,g3,g4,g5,g6,g7,g8,g9⟩:=h.bs.ok.high;have:=h.zt;have:=h.bs.lz;omega
theorem down_step{fb:Nat}{d:Dim}{P:Pix}{fy:FrX}{x0 x1 x2 x3 x4 x5 x6 x7 x8:Value}(h:MkIn B W p v Z done gb T sv fv ss ff q nu ahd w)(hT:T<=fb)(hb:Blk w fb 110 #[x0,x1,x2,x3,x4,x5,x6,x7,x8])(hin:fy.In w)(hg:fy.goodB d=true)(hP:fy.pix=P)
  (ho:∀ad,(fy.A0=some ad\/fy.A1=some ad\/fy.A2=some ad)->fb<ad.block):
  FxAt ((((((((((w.setCell ⟨fb,0,none⟩ (.int .i64 fy.W0)).setCell ⟨fb,1,none⟩ (.int .i64 fy.H0)).setCell ⟨fb,2,none⟩ (.slice fy.A0 fy.n0 fy.c0)).setCell ⟨fb,3,none⟩ (.int .i64 fy.W1)).setCell ⟨fb,4,none⟩ (.int .i64 fy.H1)).setCell ⟨fb,5,none⟩ (.slice fy.A1 fy.n1 fy.c1)).setCell ⟨fb,6,none⟩ (.int .i64 fy.W2)).setCell ⟨fb,7,none⟩ (.int .i64 fy.H2)).setCell ⟨fb,8,none⟩ (.slice fy.A2 fy.n2 fy.c2)).setCell ⟨p.eb,0,none⟩ (.int .i64 0)) fb p.eb d P fy /\
  MkIn B W p v Z done gb T sv fv ss ff q nu ahd ((((((((((w.setCell ⟨fb,0,none⟩ (.int .i64 fy.W0)).setCell ⟨fb,1,none⟩ (.int .i64 fy.H0)).setCell ⟨fb,2,none⟩ (.slice fy.A0 fy.n0 fy.c0)).setCell ⟨fb,3,none⟩ (.int .i64 fy.W1)).setCell ⟨fb,4,none⟩ (.int .i64 fy.H1)).setCell ⟨fb,5,none⟩ (.slice fy.A1 fy.n1 fy.c1)).setCell ⟨fb,6,none⟩ (.int .i64 fy.W2)).setCell ⟨fb,7,none⟩ (.int .i64 fy.H2)).setCell ⟨fb,8,none⟩ (.slice fy.A2 fy.n2 fy.c2)).setCell ⟨p.eb,0,none⟩ (.int .i64 0)):=by
 obtain⟨b9,m9⟩:=fr_lay9 hb (.int .i64 fy.W0) (.int .i64 fy.H0) (.slice fy.A0 fy.n0 fy.c0) (.int .i64 fy.W1) (.int .i64 fy.H1) (.slice fy.A1 fy.n1 fy.c1) (.int .i64 fy.W2) (.int .i64 fy.H2) (.slice fy.A2 fy.n2 fy.c2);have hne:=h.ne_ hT;have h9:=h.one m9 hb (by decide) hT;generalize (((((((((w.setCell ⟨fb,0,none⟩ (.int .i64 fy.W0)).setCell ⟨fb,1,none⟩ (.int .i64 fy.H0)).setCell ⟨fb,2,none⟩ (.slice fy.A0 fy.n0 fy.c0)).setCell ⟨fb,3,none⟩ (.int .i64 fy.W1)).setCell ⟨fb,4,none⟩ (.int .i64 fy.H1)).setCell ⟨fb,5,none⟩ (.slice fy.A1 fy.n1 fy.c1)).setCell ⟨fb,6,none⟩ (.int .i64 fy.W2)).setCell ⟨fb,7,none⟩ (.int .i64 fy.H2)).setCell ⟨fb,8,none⟩ (.slice fy.A2 fy.n2 fy.c2))=w9 at b9 m9 h9 ⊢;have hm:Mod (·=p.eb) w9 (w9.setCell ⟨p.eb,0,none⟩ (.int .i64 0)):=(Mod.refl (·=p.eb) w9).setCell (p:=⟨p.eb,0,none⟩) (.inl rfl) _;have hlt:p.eb<T:=by
  obtain⟨g1,g2,g3,g4,g5,g6,g7,g8,g9⟩:=h.bs.ok.high;have:=h.zt;have:=h.bs.lz;omega
 exact⟨⟨b9.keep hm hne.1,(hin.mod m9 (fun ad e e2=>by have:=ho ad e;have e3:ad.block=fb:=e2;omega)).mod hm (fun ad e e2=>by have:=ho ad e;have e3:ad.block=p.eb:=e2;omega),hg,hP,fun ad e=>by have:=ho ad e;omega⟩,h9.err hm (h9.e0.put rfl)⟩
end
theorem newN_modL{j G:Nat}(hG:1<=G):newN (j % G) G=(j+1) % G:=by
 unfold newN;have h:=Nat.mod_lt j (show G > 0 by omega);have h1:(j+1) % G=(j % G+1) % G:=by rw [Nat.add_mod,Nat.mod_add_mod];simp [Nat.add_mod]
 rw [h1];split
 ·rename_i h2;exact(Nat.mod_eq_of_lt h2).symm
 ·rw [show j % G+1=G by omega,Nat.mod_self]
theorem MkIn.coded{B:Nat}{W:World}{p:MkP}{v:Value}{Z:Nat}{done:List (List (List UInt8 × Pix))}{gb T:Nat}{sv fv:Value}{ss:List (List UInt8)}{ff:List Pix}{q0 k j:Nat}{fsP:List Pix}{w w':World}(h:MkIn B W p v Z done gb T sv fv ss ff (encSt p.d p.G p.tg q0 fsP k).1 (j % p.G) (encSt p.d p.G p.tg q0 fsP k).2 w)(hG:1<=p.G)
  (hm:Mod (·=p.g) w w')(he:EncAt w' p.g p.d p.G (newQ (encSt p.d p.G p.tg q0 fsP k).1 p.tg p.G (outSt p.d p.G p.tg q0 fsP k).1.length) p.tg (newN (j % p.G) p.G) (outSt p.d p.G p.tg q0 fsP k).2):
  MkIn B W p v Z done gb w'.heap.size sv fv ss ff (encSt p.d p.G p.tg q0 fsP (k+1)).1 ((j+1) % p.G) (encSt p.d p.G p.tg q0 fsP (k+1)).2 w':=by
 rw [newN_modL hG]at he;exact(h.code hm he).raise
theorem map_getD{fs:List FrX}{k:Nat}{g:FrX->Pix}(hk:k<fs.length):(fs.map g).getD k noPix=g (fs.getD k FrX.zero):=by
 rw [List.getD_eq_getElem?_getD,List.getD_eq_getElem?_getD,List.getElem?_map,List.getElem?_eq_getElem hk];rfl
theorem bs_info:(Tryz.prog.info? 22).map (fun i=>(i.zero,i.size,i.bytes))=some (some (.slice none 0 0),1,24):=by kernel_rfl
theorem fr_info:(Tryz.prog.info? 110).map (fun i=>(i.zero,i.size,i.bytes))=some (some (.agg #[.int .i64 0,.int .i64 0,.slice none 0 0,.int .i64 0,.int .i64 0,.slice none 0 0,.int .i64 0,.int .i64 0,.slice none 0 0]),9,120):=by kernel_rfl
theorem sg_info:(Tryz.prog.info? 80).map (fun i=>(i.zero,i.size,i.bytes))=some (some (.agg #[.slice none 0 0,.slice none 0 0]),2,48):=by kernel_rfl
theorem made_lay{w:World}{rb eb:Nat}(h:Blk w rb 73 noMade)(he:Blk w eb 26 #[.int .i64 0])(hne:rb≠eb)(a0 a1 a2 a3 a4 a5 a6 a7:Value):
  Blk (((((((((w.setCell ⟨rb,0,none⟩ a0).setCell ⟨rb,1,none⟩ a1).setCell ⟨rb,2,none⟩ a2).setCell ⟨rb,3,none⟩ a3).setCell ⟨rb,4,none⟩ a4).setCell ⟨rb,5,none⟩ a5).setCell ⟨rb,6,none⟩ a6).setCell ⟨rb,7,none⟩ a7).setCell ⟨eb,0,none⟩ (.int .i64 0)) rb 73 #[a0,a1,a2,a3,a4,a5,a6,a7] /\
  Blk (((((((((w.setCell ⟨rb,0,none⟩ a0).setCell ⟨rb,1,none⟩ a1).setCell ⟨rb,2,none⟩ a2).setCell ⟨rb,3,none⟩ a3).setCell ⟨rb,4,none⟩ a4).setCell ⟨rb,5,none⟩ a5).setCell ⟨rb,6,none⟩ a6).setCell ⟨rb,7,none⟩ a7).setCell ⟨eb,0,none⟩ (.int .i64 0)) eb 26 #[.int .i64 0] /\
  Mod (fun j=>j=rb\/j=eb) w (((((((((w.setCell ⟨rb,0,none⟩ a0).setCell ⟨rb,1,none⟩ a1).setCell ⟨rb,2,none⟩ a2).setCell ⟨rb,3,none⟩ a3).setCell ⟨rb,4,none⟩ a4).setCell ⟨rb,5,none⟩ a5).setCell ⟨rb,6,none⟩ a6).setCell ⟨rb,7,none⟩ a7).setCell ⟨eb,0,none⟩ (.int .i64 0)):=by
 have z:=(((((((h.set_ 0 a0).set_ 1 a1).set_ 2 a2).set_ 3 a3).set_ 4 a4).set_ 5 a5).set_ 6 a6).set_ 7 a7;unfold noMade at z
 have m8:Mod (fun j=>j=rb\/j=eb) w ((((((((w.setCell ⟨rb,0,none⟩ a0).setCell ⟨rb,1,none⟩ a1).setCell ⟨rb,2,none⟩ a2).setCell ⟨rb,3,none⟩ a3).setCell ⟨rb,4,none⟩ a4).setCell ⟨rb,5,none⟩ a5).setCell ⟨rb,6,none⟩ a6).setCell ⟨rb,7,none⟩ a7):=
  ((((((((Mod.refl (fun j=>j=rb\/j=eb) w).setCell (.inl (.inl rfl)) a0).setCell (.inl (.inl rfl)) a1).setCell (.inl (.inl rfl)) a2).setCell (.inl (.inl rfl)) a3).setCell (.inl (.inl rfl)) a4).setCell (.inl (.inl rfl)) a5).setCell (.inl (.inl rfl)) a6).setCell (.inl (.inl rfl)) a7
 have e8:Blk ((((((((w.setCell ⟨rb,0,none⟩ a0).setCell ⟨rb,1,none⟩ a1).setCell ⟨rb,2,none⟩ a2).setCell ⟨rb,3,none⟩ a3).setCell ⟨rb,4,none⟩ a4).setCell ⟨rb,5,none⟩ a5).setCell ⟨rb,6,none⟩ a6).setCell ⟨rb,7,none⟩ a7) eb 26 #[.int .i64 0]:=
  (((((((he.far (Ne.symm hne) a0).far (Ne.symm hne) a1).far (Ne.symm hne) a2).far (Ne.symm hne) a3).far (Ne.symm hne) a4).far (Ne.symm hne) a5).far (Ne.symm hne) a6).far (Ne.symm hne) a7
 generalize ((((((((w.setCell ⟨rb,0,none⟩ a0).setCell ⟨rb,1,none⟩ a1).setCell ⟨rb,2,none⟩ a2).setCell ⟨rb,3,none⟩ a3).setCell ⟨rb,4,none⟩ a4).setCell ⟨rb,5,none⟩ a5).setCell ⟨rb,6,none⟩ a6).setCell ⟨rb,7,none⟩ a7)=w8 at z m8 e8 ⊢;refine⟨Blk.far (p:=⟨eb,0,none⟩) ?_ hne _,e8.put rfl,m8.setCell (p:=⟨eb,0,none⟩) (.inl (.inr rfl)) _⟩;simpa using z
end Go.Proofs.YtnnpoodcdibpiaaGreatDoor
