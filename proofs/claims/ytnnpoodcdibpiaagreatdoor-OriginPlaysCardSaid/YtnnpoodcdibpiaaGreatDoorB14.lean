/-
  motion: which of two vectors that are as good is taken.
-/
import Derived.Test.YtnnpoodcdibpiaaGreatDoorB10
namespace Go.Proofs.YtnnpoodcdibpiaaGreatDoor
open Go.RowKit
set_option maxRecDepth 100000
set_option maxHeartbeats 8000000
def aheadB(vx vy wx wy:Int):Bool:=
 if vx.natAbs+vy.natAbs≠wx.natAbs+wy.natAbs then decide (vx.natAbs+vy.natAbs<wx.natAbs+wy.natAbs)
 else if vy≠wy then decide (vy<wy)else decide (vx<wx)
theorem quiet_mSize(w:World)(v:Int)(hv:-1073741824<=v/\v<=1073741824)(n:Nat):Calls Tryz.prog 381 #[.int .i64 v] (w.drewN n) fun e w'=>e=.returned (.int .i64 ((v.natAbs:Nat):Int))/\w'=w.drewN n:=
 (mSize _ v hv).mono fun _ _ ⟨a,b⟩=>⟨a,b.symm⟩
theorem mAhead(w:World)(vx vy wx wy:Int)(h1:-16<=vx/\vx<=16)(h2:-16<=vy/\vy<=16)(h3:-16<=wx/\wx<=16)(h4:-16<=wy/\wy<=16):
  Calls Tryz.prog 346 #[.agg #[.int .i64 vx,.int .i64 vy],.agg #[.int .i64 wx,.int .i64 wy]] w fun e w'=>e=.returned (.bool (aheadB vx vy wx wy))/\Mod (fun _=>False) w w':=by
 obtain⟨a,ha⟩:∃a,a=vx.natAbs:=⟨_,rfl⟩
 obtain⟨b,hb⟩:∃b,b=vy.natAbs:=⟨_,rfl⟩
 obtain⟨c,hc⟩:∃c,c=wx.natAbs:=⟨_,rfl⟩
 obtain⟨d,hd⟩:∃d,d=wy.natAbs:=⟨_,rfl⟩
 have A1:a<=16:=by omega
 have A2:b<=16:=by omega
 have A3:c<=16:=by omega
 have A4:d<=16:=by omega
 have C1:∀(w:World) n,Calls Tryz.prog 381 #[.int .i64 vx] (w.drewN n) fun e w'=>e=.returned (.int .i64 (a:Int))/\w'=w.drewN n:=fun w n=>by rw [ha];exact quiet_mSize w vx ⟨by omega,by omega⟩ n
 have C2:∀(w:World) n,Calls Tryz.prog 381 #[.int .i64 vy] (w.drewN n) fun e w'=>e=.returned (.int .i64 (b:Int))/\w'=w.drewN n:=fun w n=>by rw [hb];exact quiet_mSize w vy ⟨by omega,by omega⟩ n
 have C3:∀(w:World) n,Calls Tryz.prog 381 #[.int .i64 wx] (w.drewN n) fun e w'=>e=.returned (.int .i64 (c:Int))/\w'=w.drewN n:=fun w n=>by rw [hc];exact quiet_mSize w wx ⟨by omega,by omega⟩ n
 have C4:∀(w:World) n,Calls Tryz.prog 381 #[.int .i64 wy] (w.drewN n) fun e w'=>e=.returned (.int .i64 (d:Int))/\w'=w.drewN n:=fun w n=>by rw [hd];exact quiet_mSize w wy ⟨by omega,by omega⟩ n
 have HR:Hid (aheadB vx vy wx wy=if a+b≠c+d then decide (a+b<c+d)else if vy≠wy then decide (vy<wy)else decide (vx<wx)):=by
  show _=_;unfold aheadB;rw [<-ha,<-hb,<-hc,<-hd]
 have h0:=(((Sat.nil (fun _=>False) w).alloc 307 #[.int .i64 vx,.int .i64 vy] rfl).alloc (g:=w.heap.size+1) 307 #[.int .i64 wx,.int .i64 wy] (by simp)).mod;have HM:=Lib.hid h0;clear ha hb hc hd h0 h1 h2 h3 h4;go_enter Tryz.func346,Tryz.ntmps346;go_upto_region 1 with(fail)
 go_quiet (first|(go_at_call 381;first|exact Calls.quiet_of_same (C1 _ _)|exact Calls.quiet_of_same (C2 _ _)|exact Calls.quiet_of_same (C3 _ _)|exact Calls.quiet_of_same (C4 _ _)))
 clear C1 C2 C3 C4;by_cases e:a+b=c+d
 ·have d1:(((a:Int)+(b:Int)) != ((c:Int)+(d:Int)))=false:=by simp;omega
  by_cases e2:vy=wy
  ·have d2:(vy != wy)=false:=by simp [e2]
   have HE:=Lib.hid (And.intro e e2);clear e e2;go_wp2_with fail;go_ret;exact⟨by rw [HR.out,if_neg (fun h=>h HE.out.1),if_neg (fun h=>h HE.out.2)];rfl,HM.out.drewN _⟩
  ·have d2:(vy != wy)=true:=by simp [e2]
   have HE:=Lib.hid (And.intro e e2);clear e e2;go_wp2_with fail;go_ret;exact⟨by rw [HR.out,if_neg (fun h=>h HE.out.1),if_pos HE.out.2];rfl,HM.out.drewN _⟩
 ·have d1:(((a:Int)+(b:Int)) != ((c:Int)+(d:Int)))=true:=by simp;omega
  have d3:decide ((a:Int)+(b:Int)<(c:Int)+(d:Int))=decide (a+b<c+d):=by congr 1;exact propext ⟨fun h=>by omega,fun h=>by omega⟩
  have HE:=Lib.hid (And.intro e d3);clear e d3;go_wp2_with fail;go_ret;refine⟨?_,HM.out.drewN _⟩;rw [HR.out,if_pos HE.out.1,<-HE.out.2];rfl
theorem pAhead(w:World)(v i m:Nat)(h:v+i<m)(hm:m<=4096):Calls Tryz.prog 343 #[.int .i64 (v:Int),.int .i64 (i:Int),.int .i64 (m:Int)] w fun e w'=>e=.returned (.int .i64 ((v+i:Nat):Int))/\w=w':=by
 have d1:decide ((m:Int)<=(v:Int))=false:=decide_eq_false (by omega);have HP:=Lib.hid (pNear w ((v:Int)+(i:Int)) m (by omega));have HN:Hid (near ((v:Int)+(i:Int)) m=v+i):=by
  show _=_;unfold near;rw [if_neg (by omega),if_neg (by omega)];omega
 go_enter Tryz.func343,Tryz.ntmps343;go_wp2_with fail;refine HP.out.mono ?_;rintro e w1 ⟨rfl,rfl⟩;rw [HN.out];go_wp2_with fail;go_ret;exact⟨rfl,rfl⟩
theorem quiet_pAhead(w:World)(v i m:Nat)(h:v+i<m)(hm:m<=4096)(n:Nat):Calls Tryz.prog 343 #[.int .i64 (v:Int),.int .i64 (i:Int),.int .i64 (m:Int)] (w.drewN n) fun e w'=>e=.returned (.int .i64 ((v+i:Nat):Int))/\w'=w.drewN n:=(pAhead _ v i m h hm).mono fun _ _ ⟨a,b⟩=>⟨a,b.symm⟩
def sqF(W:Nat)(pix:List UInt8)(x y n k:Nat):UInt8:=pix.getD ((y+k/n)*W+(x+k % n)) 0
def sqL(W:Nat)(pix:List UInt8)(x y n:Nat):List UInt8:=(List.range (n*n)).map (sqF W pix x y n)
theorem sqL_length(W:Nat)(pix:List UInt8)(x y n:Nat):(sqL W pix x y n).length=n*n:=by simp [sqL]
theorem sqF_at(W:Nat)(pix:List UInt8)(x y n j i:Nat)(hi:i<n):sqF W pix x y n (j*n+i)=pix.getD ((y+j)*W+(x+i)) 0:=by
 unfold sqF;have h1:(j*n+i) % n=i:=by rw [Nat.mul_comm,Nat.mul_add_mod,Nat.mod_eq_of_lt hi]
 have h2:(j*n+i)/n=j:=by rw [Nat.mul_comm,Nat.mul_add_div (by omega),Nat.div_eq_of_lt hi,Nat.add_zero]
 rw [h1,h2]
def MadeU(w:World)(N:Nat)(l:List UInt8)(e:Ending)(w':World):Prop:=∃g,e=.returned (.slice (some ⟨g,0,none⟩) N N)/\Blk w' g 5 (u8s l).toArray/\w.heap.size<=g/\Mod (fun _=>False) w w'
def PbRel(w:World)(q p N n:Nat)(pv:Array Value)(f:Nat->UInt8)(s29:Value)(wr:World):Prop:=
 ∃j:Nat,j<=n/\s29=.int .i64 (j:Int)/\Sat (fun _=>False) w wr [⟨q,5,(u8s (fillL f N (j*n))).toArray⟩,⟨p,108,pv⟩] []
def PbRel2(w:World)(q p N n j:Nat)(pv:Array Value)(f:Nat->UInt8)(s41:Value)(wr:World):Prop:=
 ∃i:Nat,i<=n/\s41=.int .i64 (i:Int)/\Sat (fun _=>False) w wr [⟨q,5,(u8s (fillL f N (j*n+i))).toArray⟩,⟨p,108,pv⟩] []
theorem pBlock(w:World)(W H:Nat)(A:Option Addr)(m c:Nat)(pix:List UInt8)(h:sidesB W H=true)(hm:m=W*H)(hin:BytesIn w A (W*H) c pix)(x y n:Nat)(hx:x+n<=W)(hy:y+n<=H)(hn:1<=n/\n<=64)(N:Nat)(hN:N=n*n):
  Calls Tryz.prog 301 #[.agg #[.int .i64 (W:Int),.int .i64 (H:Int),.slice A m c],.int .i64 (x:Int),.int .i64 (y:Int),.int .i64 (n:Int)] w (MadeU w N (sqL W pix x y n)):=by
 obtain⟨harea,_,hW,_,hH,_⟩:=area_le h;have hpl:=hin.1;obtain⟨b,off,hA,hb,hcell⟩:=hin.place (by omega);subst hA;have HI:=Lib.hid (And.intro h (And.intro hm (And.intro hb hcell)));rw [<-hm]at harea;clear h hm hin hcell;have h0:=(Sat.nil (fun _=>False) w)
 obtain⟨hn1,hn2⟩:=hn;have hNb:N<=4096:=by rw [hN];exact Nat.le_trans (Nat.mul_le_mul hn2 hn2) (by omega)
 have hNi:wrap64 ((n:Int)*(n:Int))=(N:Int):=by
  rw [show(n:Int)*(n:Int)=(N:Int)by rw [hN];simp];exact IntWalk.wrap64_in _ ⟨by omega,by omega⟩
 have HN:=Lib.hid (And.intro hN hNi);clear hN hNi;have t1:decide ((n:Int)<1)=false:=decide_eq_false (by omega);have t2:decide (64<(n:Int))=false:=decide_eq_false (by omega);go_enter Tryz.func301,Tryz.ntmps301;go_wp2_with fail;refine(pRight' _ W H (some ⟨b,off,none⟩) m c HI.out.1 HI.out.2.1).mono ?_;rintro e w1 ⟨rfl,hm1⟩;have HS:=Sat.after hm1 (h0.alloc _ _ rfl);clear hm1 h0;have HH:=Lib.hid HS;clear HS;go_wp2_with (refine wpList_mk_u8 _ rfl (.tmp 26) (.tmp 26) rfl N (congrArg (Value.int .i64) HN.out.2) (congrArg (Value.int .i64) HN.out.2) (by omega) ?_;intro w3 hb3 hm3;have HO:=Lib.hid (And.intro hb3 hm3);clear hb3 hm3)
 have hq0:=HO.out.1;rw [madeFill (sqF W pix x y n)]at hq0;have hqs:w.heap.size+1<=w1.heap.size:=(HH.out.own_ 0 rfl).lt
 have HS3:=(HH.out.quiet HO.out.2).add_own (g:=w1.heap.size) hq0 (.inr (by omega)) (by
  intro e he;have:=(HH.out.blk e he).lt;omega)
 obtain⟨q,hq⟩:∃q,q=w1.heap.size:=⟨_,rfl⟩
 have hqw:w.heap.size<=q:=by omega
 rw [<-hq]at HS3 ⊢;obtain⟨f,hf⟩:∃f,f=sqF W pix x y n:=⟨_,rfl⟩
 rw [<-hf]at HS3;have HF:=Lib.hid hf;clear hf hq hq0 hqs HO HH;go_wp2_with fail;go_loopw [29] (PbRel w q w.heap.size N n #[.int .i64 (W:Int),.int .i64 (H:Int),.slice (some ⟨b,off,none⟩) m c] f) (fun s _=>n-(intOf s).toNat)
 case atStart=>exact⟨0,by omega,rfl,by rw [Nat.zero_mul];exact HS3⟩
 case round=>
  clear HS3;obtain⟨j,hj,rfl,HSj⟩:=hrel;rename World=>w4
  obtain⟨pc,pf⟩:=(HSj.own_ 1 rfl).both;have HJ:=Lib.hid HSj;clear HSj;by_cases hlt:j<n
  ·have d1:decide ((j:Int)<(n:Int))=true:=decide_eq_true (by omega);obtain⟨m0,hm0⟩:∃m0,m0=j*n:=⟨_,rfl⟩
   have hmn:m0+n<=N:=by
    rw [hm0,HN.out.1];have:=Nat.mul_le_mul_right n (show j+1<=n by omega);rw [Nat.add_mul,Nat.one_mul]at this;exact this
   have hmw:wrap64 ((j:Int)*(n:Int))=(m0:Int):=by
    rw [show(j:Int)*(n:Int)=(m0:Int)by rw [hm0];simp];exact IntWalk.wrap64_in _ ⟨by omega,by omega⟩
   obtain⟨r,hr⟩:∃r,r=(y+j)*W:=⟨_,rfl⟩
   have hrm:r+W<=m:=by
    rw [hr,HI.out.2.1];have:=Nat.mul_le_mul_right W (show y+j+1<=H by omega);rw [Nat.add_mul (y+j),Nat.one_mul,Nat.mul_comm H W]at this;exact this
   have hrw:wrap64 (((y:Int)+(j:Int))*(W:Int))=(r:Int):=by
    rw [show((y:Int)+(j:Int))*(W:Int)=(r:Int)by rw [hr];simp];exact IntWalk.wrap64_in _ ⟨by omega,by omega⟩
   have HM:=Lib.hid (And.intro hm0 (And.intro hmw (And.intro hr hrw)));clear hm0 hmw hr hrw;go_upto_region 7 with(fail)
   go_quiet ((go_at_call 343;exact Calls.quiet_of_same (quiet_pAhead _ y j H (by omega) (by omega) _)))
   have HJ2:=Lib.hid (HJ.out.drewN nq);clear pc pf HJ;generalize w4.drewN nq=w5 at *;go_wp2_with fail;rw [HM.out.2.2.2];go_loopw [41] (PbRel2 w q w.heap.size N n j #[.int .i64 (W:Int),.int .i64 (H:Int),.slice (some ⟨b,off,none⟩) m c] f) (fun s _=>n-(intOf s).toNat)
   case atStart=>exact⟨0,by omega,rfl,HJ2.out⟩
   case round=>
    clear HJ2;rename World=>w6
    obtain⟨i,hi,rfl,HSi⟩:=hrel;by_cases hli:i<n
    ·have d2:decide ((i:Int)<(n:Int))=true:=decide_eq_true (by omega);obtain⟨pc,pf⟩:=(HSi.own_ 1 rfl).drew.both;have hff:(f (j*n+i))=pix.getD (r+(x+i)) 0:=by rw [HF.out,sqF_at _ _ _ _ _ _ _ hli,HM.out.2.2.1]
     have hkm:r+(x+i)<m:=by omega
     have hpc:w6.drew.cell? ⟨b,off+(r+(x+i)),none⟩=some (.int .u8 ((pix.getD (r+(x+i)) 0).toNat:Int)):=(World.cell?_of_block (HSi.mod.drew.block b HI.out.2.2.1 (fun h=>h))).trans (HI.out.2.2.2 _ (by rw [<-HI.out.2.1];exact hkm));rw [<-hff]at hpc;obtain⟨k,hk⟩:∃k,k=r+(x+i):=⟨_,rfl⟩
     have hkw:IntKind.i64.wrap ((r:Int)+((x:Int)+(i:Int)))=(k:Int):=by rw [IntWalk.i64_in _ ⟨by omega,by omega⟩];omega
     rw [<-hk]at hpc hkm;have k0:(0:Int)<=(k:Int):=by omega
     have k1:(k:Int)<(m:Int):=by omega
     obtain⟨z,hz⟩:∃z,z=m0+i:=⟨_,rfl⟩
     have hzw:IntKind.i64.wrap (IntKind.i64.wrap ((j:Int)*(n:Int))+(i:Int))=(z:Int):=by
      rw [show(j:Int)*(n:Int)=(m0:Int)by rw [HM.out.1];simp,IntWalk.i64_in (m0:Int) ⟨by omega,by omega⟩,IntWalk.i64_in _ ⟨by omega,by omega⟩];omega
     have z0:(0:Int)<=(z:Int):=by omega
     have z1:(z:Int)<(N:Int):=by omega
     have qf:=((HSi.own_ 0 rfl).drew).frozen;have ql:=(HSi.own_ 0 rfl).drew.lt;have q0:=fill_cell (HSi.own_ 0 rfl).drew (show j*n+i<N by rw [<-HM.out.1,<-hz];omega);rw [<-HM.out.1,<-hz]at q0;have HG:=Lib.hid (And.intro HSi.drew (And.intro hkw (And.intro hzw (And.intro hk hz))));clear HSi hff hkw hzw hk hz;go_upto_region 11 with(fail)
     refine wp_region_plan [18] [] [0,1,2,3,4,5,6,7,8,9,10,11,12,13,14,15,16,17,18] (by kernel_rfl) (by kernel_rfl) (fun _ _ _ d _ h=>by cases d<;>exact h) ?_;have hzw:=HG.out.2.2.1;have hkw:=HG.out.2.1;iterate 13 (refine plan_still rfl rfl (fun K hK=>?_);go_simp;refine hK _ ?_;clear hK K)
     refine plan_still rfl rfl (fun K hK=>?_);go_simp;refine⟨_,(pAhead _ x i W (by omega) (by omega)).mono (fun _ _ ⟨a,b⟩=>⟨a,b.symm⟩),hK _ ?_⟩;clear hK K;iterate 4 (refine plan_still rfl rfl (fun K hK=>?_);go_simp;refine hK _ ?_;clear hK K)
     refine plan_loud rfl rfl (fun K hK=>?_);go_simp;refine hK _ _ ?_;clear hK K;refine plan_done ?_;clear hzw hkw;go_wp2_with fail;go_roundw
     case rel=>exact⟨i+1,by omega,by go_num,by
      have:=HG.out.1.put (Upd.here (fill_set f N (j*n+i)));rw [<-HM.out.1,<-HG.out.2.2.2.2]at this;rw [<-Nat.add_assoc,<-HM.out.1,<-HG.out.2.2.2.2];exact this⟩
     case measure=>simp [intOf];omega
    ·obtain rfl:i=n:=by omega
     have HG:=Lib.hid HSi;clear HSi;go_wp2_with fail;go_roundw
     case rel=>exact⟨j+1,by omega,by go_num,by rw [Nat.add_mul,Nat.one_mul];exact HG.out⟩
     case measure=>simp [intOf];omega
  ·obtain rfl:j=n:=by omega
   go_wp2_with fail;go_ret;have hb:=HJ.out.own_ 0 rfl;rw [show(j*j)=N from HN.out.1.symm,fillL_all,HF.out]at hb;refine⟨q,rfl,?_,hqw,HJ.out.mod⟩;unfold sqL;rw [<-HN.out.1];exact hb
structure Found where
 vx:Int
 vy:Int
 far:Nat
def mvFar(W H:Nat)(pix:List UInt8)(x y:Nat)(b:List UInt8)(vx vy:Int):Nat:=farTo (mvL W H pix x y 16 vx vy) b 256
def seStep(W H:Nat)(pix:List UInt8)(x y:Nat)(b:List UInt8)(vx vy:Int)(f:Found):Found:=
 if vx=0/\vy=0 then f else if mvFar W H pix x y b vx vy<f.far\/mvFar W H pix x y b vx vy=f.far/\aheadB vx vy f.vx f.vy=true then⟨vx,vy,mvFar W H pix x y b vx vy⟩else f
def seTo(W H:Nat)(pix:List UInt8)(x y:Nat)(b:List UInt8):Nat->Found
 | 0=>⟨0,0,mvFar W H pix x y b 0 0⟩
 | k+1=>seStep W H pix x y b (((k % 9:Nat):Int)-4) (((k/9:Nat):Int)-4) (seTo W H pix x y b k)
def searchS(W H:Nat)(pix:List UInt8)(x y:Nat)(b:List UInt8):Found:=seTo W H pix x y b 81
theorem mvFar_le(W H:Nat)(pix:List UInt8)(x y:Nat)(b:List UInt8)(vx vy:Int):mvFar W H pix x y b vx vy<=65280:=farTo_le _ _ _
theorem seTo_bd(W H:Nat)(pix:List UInt8)(x y:Nat)(b:List UInt8)(k:Nat)(hk:k<=81):(-4<=(seTo W H pix x y b k).vx/\(seTo W H pix x y b k).vx<=4)/\(-4<=(seTo W H pix x y b k).vy/\(seTo W H pix x y b k).vy<=4)/\(seTo W H pix x y b k).far<=65280:=by
 induction k with
 | zero=>exact⟨⟨show(-4:Int)<=0 by decide,show(0:Int)<=4 by decide⟩,⟨show(-4:Int)<=0 by decide,show(0:Int)<=4 by decide⟩,mvFar_le _ _ _ _ _ _ _ _⟩
 | succ k ih=>
  have h:=ih (by omega);unfold seTo seStep;split
  ·exact h
  ·split
   ·refine⟨⟨?_,?_⟩,⟨?_,?_⟩,mvFar_le _ _ _ _ _ _ _ _⟩<;>dsimp only<;>omega
   ·exact h
def SeL(p r z bb:Nat)(pv:Array Value)(f:Found):List Ent:=
 [⟨bb,307,#[.int .i64 f.vx,.int .i64 f.vy]⟩,⟨z,307,#[.int .i64 0,.int .i64 0]⟩,⟨r,307,#[.int .i64 0,.int .i64 0]⟩,⟨p,108,pv⟩]
def SeRel(w:World)(p r z bb:Nat)(pv:Array Value)(F:Nat->Found)(v16 v18 v58:Value)(wr:World):Prop:=
 ∃j g:Nat,j<=9/\v58=.int .i64 (j:Int)/\v16=.slice (some ⟨g,0,none⟩) 256 256/\v18=.int .i64 ((F (9*j)).far:Int)/\Sat (fun _=>False) w wr (SeL p r z bb pv (F (9*j))) []
def SeRel2(w:World)(p r z bb j:Nat)(pv:Array Value)(F:Nat->Found)(v16 v18 v64:Value)(wr:World):Prop:=
 ∃i g:Nat,i<=9/\v64=.int .i64 (i:Int)/\v16=.slice (some ⟨g,0,none⟩) 256 256/\v18=.int .i64 ((F (9*j+i)).far:Int)/\Sat (fun _=>False) w wr (SeL p r z bb pv (F (9*j+i))) []
theorem vz_cells{w:World}{g:Nat}{a b:Int}(h:Blk w g 307 #[.int .i64 a,.int .i64 b]):w.cell? ⟨g,0,none⟩=some (.int .i64 a)/\w.cell? ⟨g,1,none⟩=some (.int .i64 b):=⟨h.cell 0,h.cell 1⟩
def SeCut(w:World)(p r z bb:Nat)(pv:Array Value)(f:Found)(v17 v18:Value)(wx:World):Prop:=
 v17=.pointer (some ⟨bb,0,none⟩)/\v18=.int .i64 (f.far:Int)/\Sat (fun _=>False) w wx (SeL p r z bb pv f) []
def SePost(w:World)(f:Found)(e:Ending)(w':World):Prop:=
 ∃A:Option Addr,e=.returned (.tuple #[.agg #[.int .i64 f.vx,.int .i64 f.vy],.slice A 256 256,.int .i64 (f.far:Int)])/\Mod (fun _=>False) w w'
theorem mSearch(w:World)(W H:Nat)(A:Option Addr)(n c:Nat)(pix:List UInt8)(h:sidesB W H=true)(hn:n=W*H)(hin:BytesIn w A (W*H) c pix)(x y:Nat)(hx:x+16<=W)(hy:y+16<=H)
  (A2:Option Addr)(c2:Nat)(b:List UInt8)(hb:BytesIn w A2 256 c2 b):
  Calls Tryz.prog 303 #[.agg #[.int .i64 (W:Int),.int .i64 (H:Int),.slice A n c],.int .i64 (x:Int),.int .i64 (y:Int),.int .i64 16,.slice A2 256 c2,.int .i64 4] w (SePost w (searchS W H pix x y b)):=by
 obtain⟨_,_,hW,_,hH,_⟩:=area_le h;have HI:=Lib.hid (And.intro h (And.intro hn (And.intro hin hb)));have h0:=(((Sat.nil (fun _=>False) w).alloc 108 #[.int .i64 (W:Int),.int .i64 (H:Int),.slice A n c] rfl).alloc (g:=w.heap.size+1) 307 #[.int .i64 0,.int .i64 0] (by simp)).alloc (g:=w.heap.size+2) 307 #[.int .i64 0,.int .i64 0] (by simp);have HS:=Lib.hid h0;clear h hn hin hb h0;go_enter Tryz.func303,Tryz.ntmps303;go_upto_region 2 with(fail)
 generalize ((w.alloc _).alloc _).alloc _=w1 at *;obtain⟨pc,pf⟩:=(HS.out.own_ 2 rfl).both;obtain⟨zc,zf⟩:=(HS.out.own_ 0 rfl).both;go_wp2_with fail;refine(mBlock _ W H A n c pix HI.out.1 HI.out.2.1 (HI.out.2.2.1.quiet HS.out.mod) x y 0 0 16 ⟨by omega,by omega⟩ ⟨by omega,by omega⟩ ⟨by omega,by omega⟩ ⟨by omega,by omega⟩ ⟨by omega,by omega⟩).mono ?_;rintro e w2 ⟨g,N,hN,rfl,hbg,hgg,hm2⟩;obtain rfl:N=256:=hN;have HS2:=Lib.hid (Sat.after hm2 HS.out);have HB2:=Lib.hid (And.intro (blkIn hbg (mvL_length _ _ _ _ _ _ _ _) (by omega)) hgg);clear hm2 hbg hgg HS pc pf zc zf;go_upto_region 5 with(fail)
 go_cut [17,18] (fun v17 v18 wx=>SeCut w w.heap.size (w.heap.size+1) (w.heap.size+2) w2.heap.size #[.int .i64 (W:Int),.int .i64 (H:Int),.slice A n c] (seTo W H pix x y b 0) v17 v18 wx)
 case first=>
  have hz:=HS2.out.own_ 0 rfl;dsimp only at hz;have hh:=HI.out.2.2.2.quiet HS2.out.mod;have hh2:=HB2.out.1;have hne:w.heap.size+2≠w2.heap.size:=by have:=hz.lt;omega
  go_region_held3 (fun w'=>w'.cell? ⟨w.heap.size+2,0,none⟩=some (.int .i64 0)/\w'.cell? ⟨w.heap.size+2,1,none⟩=some (.int .i64 0)) (first|with_reducible exact vz_cells hz|with_reducible exact vz_cells hz.drew|with_reducible exact vz_cells (hz.alloc _)|with_reducible exact vz_cells (hz.alloc _).drew|with_reducible exact vz_cells (hz.drew.alloc _)|exact vz_cells (by repeat' (first|with_reducible exact hz|with_reducible refine Blk.far ?_ hne _|with_reducible refine Blk.drew ?_|with_reducible refine Blk.alloc ?_ _))) (first|(go_at_call 345;refine(mApart _ (some ⟨g,0,none⟩) 256 256 _ A2 c2 b (hh2.quiet (by repeat' (first|with_reducible exact Mod.refl _ _|with_reducible refine Mod.drew ?_|with_reducible refine Mod.alloc ?_ _|with_reducible refine Mod.setCell ?_ ?_ _))) (hh.quiet (by repeat' (first|with_reducible exact Mod.refl _ _|with_reducible refine Mod.drew ?_|with_reducible refine Mod.alloc ?_ _|with_reducible refine Mod.setCell ?_ ?_ _))) (by omega) (by omega)).mono ?_;rintro e w3 ⟨rfl,rfl⟩))
  all_goals(go_wp2_with fail;go_meet)
  all_goals(first|exact⟨rfl,rfl,(HS2.out.alloc 307 #[.int .i64 0,.int .i64 0] rfl).drew⟩|exact⟨rfl,rfl,HS2.out.drew.alloc 307 #[.int .i64 0,.int .i64 0] rfl⟩)
 case rest=>
  obtain⟨rfl,rfl,hs⟩:=hcut;rename World=>w3
  have hzl:=(HS2.out.own_ 0 rfl).lt;dsimp only at hzl;obtain⟨bb,hbb⟩:∃bb,bb=w2.heap.size:=⟨_,rfl⟩
  rw [<-hbb]at hs hzl ⊢;obtain⟨F,hF⟩:∃F,F=seTo W H pix x y b:=⟨_,rfl⟩
  have HF:Hid (F=seTo W H pix x y b/\searchS W H pix x y b=F 81/\(∀k,k<=81->(-4<=(F k).vx/\(F k).vx<=4)/\(-4<=(F k).vy/\(F k).vy<=4)/\(F k).far<=65280)):=by rw [hF];exact⟨rfl,rfl,seTo_bd W H pix x y b⟩
  rw [<-hF]at hs ⊢;have HS3:=Lib.hid hs;clear hbb hF hs HS2 HB2;go_wp2_with fail;go_loopw [16,18,58] (SeRel w w.heap.size (w.heap.size+1) (w.heap.size+2) bb #[.int .i64 (W:Int),.int .i64 (H:Int),.slice A n c] F) (fun _ _ s _=>9-(intOf s).toNat)
  case atStart=>exact⟨0,g,by omega,rfl,rfl,rfl,HS3.out⟩
  case round=>
   clear HS3;obtain⟨j,g1,hj,rfl,rfl,rfl,hs⟩:=hrel;rename World=>w4
   by_cases hlt:j<9
   ·have d1:decide ((j:Int)<9)=true:=decide_eq_true (by omega);have HJ:=Lib.hid hs;clear hs;go_wp2_with fail;go_loopw [16,18,64] (SeRel2 w w.heap.size (w.heap.size+1) (w.heap.size+2) bb j #[.int .i64 (W:Int),.int .i64 (H:Int),.slice A n c] F) (fun _ _ s _=>9-(intOf s).toNat)
    case atStart=>exact⟨0,g1,by omega,rfl,rfl,rfl,HJ.out⟩
    case round=>
     clear HJ;obtain⟨i,g2,hi,rfl,rfl,rfl,hs⟩:=hrel;rename World=>w5
     by_cases hli:i<9
     ·have d2:decide ((i:Int)<9)=true:=decide_eq_true (by omega);obtain⟨fb,hfb⟩:∃fb,fb=F (9*j+i):=⟨_,rfl⟩
      rw [<-hfb]at hs ⊢;have hbd:=HF.out.2.2 (9*j+i) (by omega);rw [<-hfb]at hbd;have HFB:=Lib.hid hfb;clear hfb;obtain⟨a,ha⟩:∃a:Int,a=(i:Int)-4:=⟨_,rfl⟩
      obtain⟨e,he⟩:∃e:Int,e=(j:Int)-4:=⟨_,rfl⟩
      have h5:=(hs.alloc (g:=w5.heap.size) 307 #[.int .i64 a,.int .i64 e] rfl)
      have HK:=Lib.hid (And.intro h5 (And.intro hs (And.intro ha he)));clear h5 hs;have ha2:(i:Int)-4=a:=ha.symm;have he2:(j:Int)-4=e:=he.symm;clear ha he;go_upto_region 13 with(fail)
      generalize w5.alloc (.cells #[.int .i64 a,.int .i64 e] 307)=w6 at *;obtain⟨vc,vf⟩:=(HK.out.1.own_ 0 rfl).both;obtain⟨zc,zf⟩:=(HK.out.1.own_ 2 rfl).both;obtain⟨pc,pf⟩:=(HK.out.1.own_ 4 rfl).both;dsimp only at vc zc pc;have hst:(a=0/\e=0)\/(¬a=0\/(a=0/\¬e=0)):=by omega
      rcases hst with⟨ha0,he0⟩|hst
      ·have HZ:Hid (F (9*j+(i+1))=fb):=by
        show _=_;rw [show 9*j+(i+1)=9*j+i+1 by omega,HF.out.1];show seStep W H pix x y b _ _ _=_;unfold seStep;rw [if_pos (by have:=HK.out.2.2.1;have:=HK.out.2.2.2;omega),<-HF.out.1,<-HFB.out]
       have HS7:=Lib.hid HK.out.1.drop_own;clear HK ha2 he2;go_wp2_with fail;go_roundw
       case rel=>exact⟨i+1,g2,by omega,by go_num,rfl,by rw [HZ.out],by rw [HZ.out];exact HS7.out⟩
       case measure=>simp [intOf];omega
      ·have HZ:Hid (¬(a=0/\e=0)):=by show ¬_;omega
       rcases hst with ha0|⟨ha0,he0⟩
       all_goals
        go_upto_region 14 with(fail)
        have HA0:=Lib.hid ha0;clear ha0
        try clear he0
        have hab:(-4<=a/\a<=4)/\(-4<=e/\e<=4):=by omega
        clear ha2 he2 zc zf;go_wp2_with fail;refine(mBlock _ W H A n c pix HI.out.1 HI.out.2.1 (HI.out.2.2.1.quiet HK.out.1.mod) x y a e 16 ⟨by omega,by omega⟩ ⟨by omega,by omega⟩ ⟨by omega,by omega⟩ ⟨by omega,by omega⟩ ⟨by omega,by omega⟩).mono ?_;rintro e7 w7 ⟨g3,N,hN,rfl,hbg,hgg,hm7⟩;obtain rfl:N=256:=hN;have HS7:=Lib.hid (Sat.after hm7 HK.out.1);have HB7:=Lib.hid (blkIn hbg (mvL_length _ _ _ _ _ _ _ _) (by omega));clear hm7 hbg hgg vc vf pc pf;go_wp2_with fail;refine(mApart _ (some ⟨g3,0,none⟩) 256 256 _ A2 c2 b HB7.out (HI.out.2.2.2.quiet HS7.out.mod) (by omega) (by omega)).mono ?_;rintro e8 w8 ⟨rfl,rfl⟩;have HD:Hid (farTo (mvL W H pix (x:Int) (y:Int) 16 a e) b 256=mvFar W H pix x y b a e):=rfl;rw [HD.out];have hdl:=mvFar_le W H pix x y b a e;have HZ2:Hid (F (9*j+(i+1))=if mvFar W H pix x y b a e<fb.far\/mvFar W H pix x y b a e=fb.far/\aheadB a e fb.vx fb.vy=true then⟨a,e,mvFar W H pix x y b a e⟩else fb):=by
         show _=_;have e1:(((9*j+i) % 9:Nat):Int)-4=a:=by have:=HK.out.2.2.1;omega
         have e2:(((9*j+i)/9:Nat):Int)-4=e:=by have:=HK.out.2.2.2;omega
         rw [show 9*j+(i+1)=9*j+i+1 by omega,HF.out.1];show seStep W H pix x y b _ _ _=_;rw [e1,e2];unfold seStep;rw [if_neg HZ.out,<-HF.out.1,<-HFB.out]
        generalize mvFar W H pix x y b a e=D at *;clear HD;obtain⟨vc,vf⟩:=(HS7.out.own_ 0 rfl).both;obtain⟨bc,bf⟩:=(HS7.out.own_ 1 rfl).both;have bl:=(HS7.out.own_ 1 rfl).lt;dsimp only at vc bc bf bl;have hst:D<fb.far\/fb.far<D\/D=fb.far:=by omega
        rcases hst with hlt2|hlt2|heq
        ·have HZ3:=Lib.hid (HZ2.out.trans (if_pos (.inl hlt2)));have d3:decide ((D:Int)<(fb.far:Int))=true:=decide_eq_true (by omega);clear HZ2;go_wp2_with fail;go_roundw
         case rel=>exact⟨i+1,g3,by omega,by go_num,rfl,by rw [HZ3.out],by rw [HZ3.out];exact((HS7.out.put (.there (.here rfl))).put (.there (.here rfl))).drop_own⟩
         case measure=>simp [intOf];omega
        ·have HZ3:=Lib.hid (HZ2.out.trans (if_neg (by omega)));have d3:decide ((D:Int)<(fb.far:Int))=false:=decide_eq_false (by omega);have d4:((D:Int) == (fb.far:Int))=false:=by simp;omega
         have d5:¬D<fb.far:=by omega
         have d6:¬D=fb.far:=by omega
         clear HZ2;go_wp2_with fail;go_roundw
         case rel=>exact⟨i+1,g2,by omega,by go_num,rfl,by rw [HZ3.out],by rw [HZ3.out];exact HS7.out.drop_own⟩
         case measure=>simp [intOf];omega
        ·subst heq;have d5:¬fb.far<fb.far:=by omega
         have d3:decide ((fb.far:Int)<(fb.far:Int))=false:=decide_eq_false (by omega);obtain⟨hb1,hb2,hb3⟩:=hbd;have MA:=mAhead w7 a e fb.vx fb.vy ⟨by omega,by omega⟩ ⟨by omega,by omega⟩ ⟨by omega,by omega⟩ ⟨by omega,by omega⟩;cases hah:aheadB a e fb.vx fb.vy with
         | true=>
          have HZ3:=Lib.hid (HZ2.out.trans (if_pos (.inr ⟨rfl,hah⟩)));rw [hah]at MA;have HMA:=Lib.hid MA;clear HZ2 MA hah;go_wp2_with fail;refine HMA.out.mono ?_;rintro e9 w9 ⟨rfl,hm9⟩;have HS9:=Lib.hid (Sat.after hm9 HS7.out);obtain⟨vc9,vf9⟩:=(HS9.out.own_ 0 rfl).both;obtain⟨bc9,bf9⟩:=(HS9.out.own_ 1 rfl).both;have bl9:=(HS9.out.own_ 1 rfl).lt;dsimp only at vc9 bc9 bf9 bl9;clear hm9 vc bc bf bl vf HS7;go_wp2_with fail;go_roundw
          case rel=>exact⟨i+1,g3,by omega,by go_num,rfl,by rw [HZ3.out],by rw [HZ3.out];exact((HS9.out.put (.there (.here rfl))).put (.there (.here rfl))).drop_own⟩
          case measure=>simp [intOf];omega
         | false=>
          have HZ3:=Lib.hid (HZ2.out.trans (if_neg (by rw [hah];rintro(h|⟨_,h⟩);exact absurd h d5;cases h)));rw [hah]at MA;have HMA:=Lib.hid MA;clear HZ2 MA hah;go_wp2_with fail;refine HMA.out.mono ?_;rintro e9 w9 ⟨rfl,hm9⟩;have HS9:=Lib.hid (Sat.after hm9 HS7.out);clear hm9 vc bc bf bl vf HS7;go_wp2_with fail;go_roundw
          case rel=>exact⟨i+1,g2,by omega,by go_num,rfl,by rw [HZ3.out],by rw [HZ3.out];exact HS9.out.drop_own⟩
          case measure=>simp [intOf];omega
     ·obtain rfl:i=9:=by omega
      have HI9:=Lib.hid hs;clear hs;go_wp2_with fail;go_roundw
      case rel=>exact⟨j+1,g2,by omega,by go_num,rfl,by rw [show 9*(j+1)=9*j+9 by omega],by rw [show 9*(j+1)=9*j+9 by omega];exact HI9.out⟩
      case measure=>simp [intOf];omega
   ·obtain rfl:j=9:=by omega
    have HR:=HF.out.2.1;rw [show(81:Nat)=9*9 by omega]at HR;generalize F (9*9)=fz at *;obtain⟨bc,bf⟩:=(hs.own_ 0 rfl).both;obtain⟨rc,rf⟩:=(hs.own_ 2 rfl).both;have rl:=(hs.own_ 2 rfl).lt;dsimp only at bc rc rf rl;have HS9:=Lib.hid (And.intro hs HR);clear hs HR;go_wp2_with fail;have hs2:=(HS9.out.1.put (i:=0) (u:=.int .i64 fz.vx) (.there (.there (.here rfl)))).put (i:=1) (u:=.int .i64 fz.vy) (.there (.there (.here rfl)));generalize (w4.setCell ⟨w.heap.size+1,0,none⟩ (.int .i64 fz.vx)).setCell ⟨w.heap.size+1,1,none⟩ (.int .i64 fz.vy)=w5 at *;obtain⟨rc2,rf2⟩:=(hs2.own_ 2 rfl).both;dsimp only at rc2;exact bodyPost_ret (v:=.tuple #[.agg #[.int .i64 fz.vx,.int .i64 fz.vy],.slice (some ⟨g1,0,none⟩) 256 256,.int .i64 (fz.far:Int)]) (by simp [results,Tryz.results303,go_sem,rc2]) rfl ⟨some ⟨g1,0,none⟩,by rw [HS9.out.2],hs2.mod⟩
end Go.Proofs.YtnnpoodcdibpiaaGreatDoor
