/-
  intra.look.
-/
import Derived.Test.YtnnpoodcdibpiaaGreatDoorB3
import Derived.Test.YtnnpoodcdibpiaaGreatDoorB4
import Derived.Deep.DeepCutAuto
namespace Go.Proofs.YtnnpoodcdibpiaaGreatDoor
open Go.RowKit
set_option maxRecDepth 100000
set_option maxHeartbeats 8000000
def lkAb(W:Nat)(pix:List UInt8)(x y:Nat):List UInt8:=(List.range 8).map fun i=>if 0<y then pix.getD (y*W+x-W+i) 0 else 128
def lkLf(W:Nat)(pix:List UInt8)(x y:Nat):List UInt8:=(List.range 8).map fun i=>if 0<x then pix.getD (y*W+x+i*W-1) 0 else 128
def lkCo(W:Nat)(pix:List UInt8)(x y:Nat):UInt8:=if 0<x/\0<y then pix.getD (y*W+x-W-1) 0 else 128
theorem BytesIn.part{w:World}{b off n c:Nat}{l:List UInt8}(h:BytesIn w (some ⟨b,off,none⟩) n c l){lo m:Nat}(hlo:lo+m<=n):Src w 1 (some ⟨b,off+lo,none⟩) m (u8s ((l.drop lo).take m)):=by
 obtain⟨h1,_,h3,_⟩:=h;refine⟨by rw [u8s_length];simp;omega,(fun h=>by cases h),fun ad e j u hu=>?_⟩;injection e with e;subst e;have hj:j<m:=by
  have:=(List.getElem?_eq_some_iff.1 hu).1;rw [u8s_length]at this;simp at this;omega
 have hu2:(u8s l)[lo+j]?=some u:=by
  unfold u8s at hu ⊢;rw [List.getElem?_map,List.getElem?_take,if_pos hj,List.getElem?_drop]at hu;rw [List.getElem?_map];exact hu
 have:=h3.2.2 _ rfl _ _ hu2;rw [addr_add']at this ⊢;rw [<-this];congr 2;omega
theorem ar_splice{ab lf l:List UInt8}{co:UInt8}(h1:ab.length=8)(hl:l.length=8):(splice (arL ab lf co) 1 (u8s l)).toArray=arV l lf co:=by
 unfold splice arL arV arL;rw [u8s_length,hl];have e:(u8s ab++(u8s lf++[Value.int IntKind.u8 (co.toNat:Int)])).drop 8=u8s lf++[Value.int IntKind.u8 (co.toNat:Int)]:=by
  rw [List.drop_append_of_le_length (by rw [u8s_length];omega),List.drop_eq_nil_of_le (by rw [u8s_length];omega)];rfl
 simp [e]
theorem lkAb_eq{W x y lo m0:Nat}{pix:List UInt8}(hy:0<y)(hm0:m0=y*W)(hlo:lo=m0+x-W)(hl:lo+8<=pix.length):(pix.drop lo).take 8=lkAb W pix x y:=by
 unfold lkAb;refine List.ext_getElem (by simp;omega) fun i h1 h2=>?_;simp only [List.getElem_take,List.getElem_drop,List.getElem_map,List.getElem_range,if_pos hy,<-hm0,<-hlo];rw [List.getD_eq_getElem?_getD,List.getElem?_eq_getElem (by simp at h1;omega)];rfl
def lkTo(W:Nat)(pix:List UInt8)(x y k:Nat):List UInt8:=(List.range 8).map fun i=>if i<k then pix.getD (y*W+x+i*W-1) 0 else 128
theorem lkTo_length(W:Nat)(pix:List UInt8)(x y k:Nat):(lkTo W pix x y k).length=8:=by simp [lkTo]
theorem lkAb_length(W:Nat)(pix:List UInt8)(x y:Nat):(lkAb W pix x y).length=8:=by simp [lkAb]
theorem lkLf_length(W:Nat)(pix:List UInt8)(x y:Nat):(lkLf W pix x y).length=8:=by simp [lkLf]
theorem lkTo_zero(W:Nat)(pix:List UInt8)(x y:Nat):lkTo W pix x y 0=List.replicate 8 128:=by unfold lkTo;simp;rfl
theorem lkTo_all{W x y:Nat}{pix:List UInt8}(hx:0<x):lkTo W pix x y 8=lkLf W pix x y:=by
 unfold lkTo lkLf;refine List.map_congr_left fun i hi=>?_;rw [if_pos (List.mem_range.1 hi),if_pos hx]
theorem lkTo_set(W:Nat)(pix:List UInt8)(x y k:Nat):(lkTo W pix x y k).set k (pix.getD (y*W+x+k*W-1) 0)=lkTo W pix x y (k+1):=by
 unfold lkTo;refine List.ext_getElem (by simp) fun i h1 h2=>?_;simp only [List.getElem_set,List.getElem_map,List.getElem_range];by_cases e:k=i
 ·subst e;simp
 ·rw [if_neg e];by_cases h:i<k
  ·rw [if_pos h,if_pos (by omega)]
  ·rw [if_neg h,if_neg (by omega)]
theorem lk_idx{m0 x W n k kW ix:Nat}(h1:m0+8*W<=n)(h2:x+8<=W)(hk:k<8)(hkW:kW=k*W)(hx:0<x)(hn:n<=16777216)(hix:ix=m0+x+kW-1):
  ix<n/\wrap64 (wrap64 ((m0:Int)+(x:Int)+wrap64 ((k:Int)*(W:Int)))-1)=(ix:Int):=by
 have hkl:kW<=7*W:=by rw [hkW];exact Nat.mul_le_mul_right W (by omega)
 refine⟨by omega,?_⟩;rw [show(k:Int)*(W:Int)=(kW:Int)by rw [hkW];simp,IntWalk.wrap64_in (kW:Int) ⟨by omega,by omega⟩,IntWalk.wrap64_in ((m0:Int)+(x:Int)+(kW:Int)) ⟨by omega,by omega⟩,IntWalk.wrap64_in _ ⟨by omega,by omega⟩];omega
theorem lk_cor{m0 x W n:Nat}(h1:m0+8*W<=n)(h2:x+8<=W)(hx:0<x)(hW:W<=m0):m0+x-W-1<n/\(m0:Int)+(x:Int)-(W:Int)-1=((m0+x-W-1:Nat):Int):=by omega
theorem splice_all{cur cells:List Value}(h:cells.length=cur.length):splice cur 0 cells=cells:=by
 unfold splice;rw [List.drop_eq_nil_of_le (by omega)];simp
theorem arL_one(ab lf:List UInt8)(co:UInt8):∀u∈arL ab lf co,u.oneCell'=true:=fun u hu=>by
 unfold arL at hu;rcases List.mem_cons.1 hu with rfl|hu
 ·rfl
 ·rcases List.mem_append.1 hu with hu|hu
  ·exact u8s_one _ u hu
  ·rcases List.mem_append.1 hu with hu|hu
   ·exact u8s_one _ u hu
   ·rw [List.mem_singleton.1 hu];rfl
def LkRel2(w:World)(a:Nat)(W:Nat)(pix:List UInt8)(x y:Nat)(rest:List Ent)(s54:Value)(wr:World):Prop:=
 ∃k:Nat,k<=8/\s54=.int .i64 (k:Int)/\Sat (fun _=>False) w wr (⟨a,470,arV (lkAb W pix x y) (lkTo W pix x y k) 128⟩ :: rest) []
def LkRel1(w:World)(pb:Nat)(pv:Array Value)(s16:Value)(wr:World):Prop:=
 ∃k:Nat,k<=8/\s16=.int .i64 (k:Int)/\Sat (fun _=>False) w wr [⟨pb+1+1,470,arV (fillL (fun _=>128) 8 k) (fillL (fun _=>128) 8 k) 128⟩,⟨pb+1,470,#[.int .i64 0,.int .u8 0,.int .u8 0,.int .u8 0,.int .u8 0,.int .u8 0,.int .u8 0,.int .u8 0,.int .u8 0,.int .u8 0,.int .u8 0,.int .u8 0,.int .u8 0,.int .u8 0,.int .u8 0,.int .u8 0,.int .u8 0,.int .u8 0]⟩,⟨pb,108,pv⟩] []
theorem iLook(w:World)(W H:Nat)(A:Option Addr)(n c:Nat)(pix:List UInt8)(h:sidesB W H=true)(hn:n=W*H)(hin:BytesIn w A n c pix)(hnc:n<=c)(x y:Nat)(hx:x+8<=W)(hy:y+8<=H):
  Calls Tryz.prog 391 #[.agg #[.int .i64 (W:Int),.int .i64 (H:Int),.slice A n c],.int .i64 (x:Int),.int .i64 (y:Int),.int .i64 8] w fun e w'=>e=.returned (.agg (arV (lkAb W pix x y) (lkLf W pix x y) (lkCo W pix x y)))/\Mod (fun _=>False) w w':=by
 obtain⟨ha,hW1,hW2,hH1,hH2,hn1⟩:=area_le h;obtain⟨m0,hm0⟩:∃m0,m0=y*W:=⟨_,rfl⟩
 have hm1:m0+8*W<=n:=by
  rw [hm0,hn,Nat.mul_comm W H,<-Nat.add_mul];exact Nat.mul_le_mul_right W hy
 rw [<-hn]at ha hn1;have hmw:wrap64 ((y:Int)*(W:Int))=(m0:Int):=by
  rw [show(y:Int)*(W:Int)=(m0:Int)by rw [hm0];simp];exact IntWalk.wrap64_in _ ⟨by omega,by omega⟩
 have hyW:0<y->W<=m0:=fun h0=>by rw [hm0];exact Nat.le_mul_of_pos_left W h0
 obtain⟨b,off,hA,hb,hcell⟩:=hin.place (by omega);subst hA;have HI:=Lib.hid (And.intro hin (And.intro hcell (And.intro hmw (And.intro hm0 (And.intro hyW hb)))));clear h hn hin hmw hm0 hyW hcell hb;have h0:=((((Sat.nil (fun _=>False) w).alloc 108 #[.int .i64 (W:Int),.int .i64 (H:Int),.slice (some ⟨b,off,none⟩) n c] rfl).alloc (g:=w.heap.size+1) 470 (#[.int .i64 0,.int .u8 0,.int .u8 0,.int .u8 0,.int .u8 0,.int .u8 0,.int .u8 0,.int .u8 0,.int .u8 0,.int .u8 0,.int .u8 0,.int .u8 0,.int .u8 0,.int .u8 0,.int .u8 0,.int .u8 0,.int .u8 0,.int .u8 0]) (by simp)).alloc (g:=w.heap.size+1+1) 470 #[.int .i64 8,.int .u8 0,.int .u8 0,.int .u8 0,.int .u8 0,.int .u8 0,.int .u8 0,.int .u8 0,.int .u8 0,.int .u8 0,.int .u8 0,.int .u8 0,.int .u8 0,.int .u8 0,.int .u8 0,.int .u8 0,.int .u8 0,.int .u8 128] (by simp))
 have H0:=Lib.hid h0;clear h0;go_enter Tryz.func391,Tryz.ntmps391;go_wp2_with fail;go_loopw [16] (LkRel1 w w.heap.size #[.int .i64 (W:Int),.int .i64 (H:Int),.slice (some ⟨b,off,none⟩) n c]) (fun s _=>8-(intOf s).toNat)
 case atStart=>exact⟨0,by omega,rfl,H0.out⟩
 case round=>
  clear H0;obtain⟨k,hk,rfl,HS⟩:=hrel;have hb0:=HS.own_ 0 rfl;dsimp only at hb0;have af:=hb0.frozen;have al:=hb0.lt;have HK:=Lib.hid HS;clear HS;by_cases hlt:k<8
  ·have c0:=ar_above hb0 (fillL_length _ _ _) hlt;have c1:=ar_left hb0 (fillL_length _ _ _) (fillL_length _ _ _) hlt;clear hb0;have d1:decide ((k:Int)<8)=true:=decide_eq_true (by omega);go_wp2_with fail;go_roundw
   case rel=>
    refine⟨k+1,by omega,by go_num,(HK.out.put (g:=w.heap.size+1+1) (i:=1+k) (u:=.int .u8 ((128:Nat):Int)) (.here (ar_set_above (fillL_length _ _ _) hlt (by omega)))).put (g:=w.heap.size+1+1) (i:=9+k) (u:=.int .u8 ((128:Nat):Int)) (.here ?_)⟩;rw [ar_set_left (by rw [List.length_set,fillL_length]) (fillL_length _ _ _) hlt (by omega)];have e:=fillL_set (fun _=>128) 8 k;rw [show UInt8.ofNat 128=(fun _:Nat=>(128:UInt8)) k from rfl,e]
   case measure=>simp [intOf];omega
  ·obtain rfl:k=8:=by omega
   clear hb0;obtain⟨pc,pf⟩:=(HK.out.own_ 2 rfl).both;go_upto_if 33 with(fail)
   rw [HI.out.2.2.1,IntWalk.wrap64_in ((m0:Int)+(x:Int)) ⟨by omega,by omega⟩];go_cut [] (fun wx=>Sat (fun _=>False) w wx [⟨w.heap.size+1+1,470,arV (lkAb W pix x y) (List.replicate 8 128) 128⟩,⟨w.heap.size+1,470,#[.int .i64 0,.int .u8 0,.int .u8 0,.int .u8 0,.int .u8 0,.int .u8 0,.int .u8 0,.int .u8 0,.int .u8 0,.int .u8 0,.int .u8 0,.int .u8 0,.int .u8 0,.int .u8 0,.int .u8 0,.int .u8 0,.int .u8 0,.int .u8 0]⟩,⟨w.heap.size,108,#[.int .i64 (W:Int),.int .i64 (H:Int),.slice (some ⟨b,off,none⟩) n c]⟩] [])
   case first=>
    by_cases hy0:0<y
    rotate_left
    ·have d1:decide (0<(y:Int))=false:=decide_eq_false (by omega);go_wp2_with fail;go_meet;have e:lkAb W pix x y=List.replicate 8 128:=by unfold lkAb;simp [hy0];rfl
     rw [e];exact HK.out
    ·have d1:decide (0<(y:Int))=true:=decide_eq_true (by omega);have hWm:=HI.out.2.2.2.2.1 hy0;obtain⟨lo,hlo⟩:∃lo,lo=m0+x-W:=⟨_,rfl⟩
     have p0:=pc 0;have p2:=pc 2;have e1:IntKind.i64.wrap ((m0:Int)+(x:Int)-(W:Int))=(lo:Int):=by rw [IntWalk.i64_in _ ⟨by omega,by omega⟩];omega
     have e2:IntKind.i64.wrap ((lo:Int)+8)=(lo:Int)+8:=IntWalk.i64_in _ ⟨by omega,by omega⟩;have q1:(0:Int)<=(lo:Int):=by omega
     have q2:(lo:Int)<=(lo:Int)+8:=by omega
     have q3:(lo:Int)+8<=(c:Int):=by omega
     have q4:¬c=lo:=by omega
     have hlow:lo+8<=n:=by omega
     have HL:=Lib.hid (And.intro hlo (And.intro e1 e2));clear hlo pc e1 e2;go_upto_region 9 with(fail)
     have e1:=HL.out.2.1;have e2:=HL.out.2.2;refine wp_region_plan [16] [] [0,1,2,3,4,5,6,7,8,9,10,11,12,13,14,15,16] (by kernel_rfl) (by kernel_rfl) (fun _ _ _ d _ h=>by cases d<;>exact h) ?_;iterate 16 (refine plan_still rfl rfl (fun K hK=>?_);go_simp;refine hK _ ?_;clear hK K)
     have hsrc:=((HI.out.1.quiet HK.out.mod).quiet ((Mod.refl (fun _=>False) wr).drew)).part hlow;have hdst:Blk wr.drew (w.heap.size+1+1) 470 (arL (fillL (fun _=>128) 8 8) (fillL (fun _=>128) 8 8) 128).toArray:=(HK.out.own_ 0 rfl).drew;have hlen:((pix.drop lo).take 8).length=8:=by have:=HI.out.1.1;simp;omega
     have HY:=Lib.hid (And.intro hsrc (And.intro hdst hlen));clear hsrc hdst hlen;refine plan_loud rfl rfl (fun K hK=>?_);refine step_copy_blk rfl (.tmp 36) (.tmp 49) _ _ rfl 5 Tryz.underlying22 (by kernel_rfl) (some ⟨w.heap.size+1+1,1,none⟩) 8 8 (some ⟨b,off+lo,none⟩) 8 (c-lo) _ (by simp [Act.eval]) (by simp [Act.eval];omega) HY.out.1 (w.heap.size+1+1) 1 _ 470 HY.out.2.1 8 rfl (fun _=>rfl) (by simp [arL,u8s,fillL]) (u8s_one _) ?_;intro w5 hb5 hm5;have HB5:=Lib.hid (And.intro hb5 hm5);clear hb5 hm5;refine hK _ _ ?_;clear hK K;refine plan_done ?_;clear e1 e2;go_wp2_with fail;go_meet;have hb5:=HB5.out.1;rw [List.take_of_length_le (by rw [u8s_length,HY.out.2.2];exact Nat.le_refl _),ar_splice (fillL_length _ _ _) HY.out.2.2,lkAb_eq hy0 HI.out.2.2.2.1 HL.out.1 (by have:=HI.out.1.1;omega)]at hb5;exact Sat.turn HB5.out.2 HK.out.drew hb5 .here
   case rest=>
    clear pc pf HK af al;obtain⟨pc,pf⟩:=(hcut.own_ 2 rfl).both;have HC:=Lib.hid hcut;clear hcut;go_upto_if 52 with(fail)
    go_cut [] (fun wx=>Sat (fun _=>False) w wx [⟨w.heap.size+1+1,470,arV (lkAb W pix x y) (lkLf W pix x y) 128⟩,⟨w.heap.size+1,470,#[.int .i64 0,.int .u8 0,.int .u8 0,.int .u8 0,.int .u8 0,.int .u8 0,.int .u8 0,.int .u8 0,.int .u8 0,.int .u8 0,.int .u8 0,.int .u8 0,.int .u8 0,.int .u8 0,.int .u8 0,.int .u8 0,.int .u8 0,.int .u8 0]⟩,⟨w.heap.size,108,#[.int .i64 (W:Int),.int .i64 (H:Int),.slice (some ⟨b,off,none⟩) n c]⟩] [])
    case first=>
     by_cases hx0:0<x
     rotate_left
     ·have d1:decide (0<(x:Int))=false:=decide_eq_false (by omega);go_wp2_with fail;go_meet;have e:lkLf W pix x y=List.replicate 8 128:=by unfold lkLf;simp [hx0];rfl
      rw [e];exact HC.out
     ·have d1:decide (0<(x:Int))=true:=decide_eq_true (by omega);go_wp2_with fail;go_loopw [54] (LkRel2 w (w.heap.size+1+1) W pix x y [⟨w.heap.size+1,470,#[.int .i64 0,.int .u8 0,.int .u8 0,.int .u8 0,.int .u8 0,.int .u8 0,.int .u8 0,.int .u8 0,.int .u8 0,.int .u8 0,.int .u8 0,.int .u8 0,.int .u8 0,.int .u8 0,.int .u8 0,.int .u8 0,.int .u8 0,.int .u8 0]⟩,⟨w.heap.size,108,#[.int .i64 (W:Int),.int .i64 (H:Int),.slice (some ⟨b,off,none⟩) n c]⟩]) (fun s _=>8-(intOf s).toNat)
      case atStart=>exact⟨0,by omega,rfl,by rw [lkTo_zero];exact HC.out⟩
      case round=>
       clear HC pc pf d1;rename World=>w6
       obtain⟨k,hk,rfl,HS⟩:=hrel;by_cases hlt:k<8
       ·have d1:decide ((k:Int)<8)=true:=decide_eq_true (by omega);obtain⟨pc,pf⟩:=(HS.own_ 2 rfl).both;have hb0:=HS.own_ 0 rfl;dsimp only at hb0;have af:=hb0.frozen;have al:=hb0.lt;have c1:=ar_left hb0 (lkAb_length _ _ _ _) (lkTo_length _ _ _ _ _) hlt;clear hb0;obtain⟨kW,hkW⟩:∃kW,kW=k*W:=⟨_,rfl⟩
        obtain⟨ix,hix⟩:∃ix,ix=m0+x+kW-1:=⟨_,rfl⟩
        obtain⟨hixn,he⟩:=lk_idx hm1 hx hlt hkW hx0 ha hix;have q1:(0:Int)<=(ix:Int):=Int.natCast_nonneg _;have q2:(ix:Int)<(n:Int):=Int.ofNat_lt.2 hixn;have kp:w6.cell? ⟨b,off+ix,none⟩=some (.int .u8 ((pix.getD ix 0).toNat:Int)):=(World.cell?_of_block (HS.mod.block b HI.out.2.2.2.2.2 (fun h=>h))).trans (HI.out.2.1 ix hixn);have x0:(pix.getD ix 0).toNat<256:=UInt8.toNat_lt _;have hset:=lkTo_set W pix x y k;rw [<-hkW,<-HI.out.2.2.2.1,<-hix]at hset;have HS5:=Lib.hid (And.intro HS (And.intro hset (And.intro hix hkW)));clear HS hset hix hkW;generalize (pix.getD ix 0)=px at *;go_wp2_with fail;go_roundw
        case rel=>
         refine⟨k+1,by omega,by go_num,HS5.out.1.put (.here ?_)⟩;rw [ar_set_left (lkAb_length _ _ _ _) (lkTo_length _ _ _ _ _) hlt x0,UInt8.ofNat_toNat,HS5.out.2.1]
        case measure=>simp [intOf];omega
       ·obtain rfl:k=8:=by omega
        go_wp2_with fail;go_meet;rw [<-lkTo_all hx0];exact HS
    case rest=>
     clear pc pf HC;have HC:=Lib.hid hcut;clear hcut;rename World=>w7
     by_cases hxy:0<x/\0<y
     ·have d1:decide (0<(x:Int))=true:=decide_eq_true (by omega);have d2:decide (0<(y:Int))=true:=decide_eq_true (by omega);obtain⟨pc,pf⟩:=(HC.out.own_ 2 rfl).both;have hb0:=HC.out.own_ 0 rfl;dsimp only at hb0;have af:=hb0.frozen;have al:=hb0.lt;have c1:=ar_corner hb0 (lkAb_length _ _ _ _) (lkLf_length _ _ _ _);clear hb0;obtain⟨hixn,he⟩:=lk_cor hm1 hx hxy.1 (HI.out.2.2.2.2.1 hxy.2);obtain⟨ix,hix⟩:∃ix,ix=m0+x-W-1:=⟨_,rfl⟩
      rw [<-hix]at hixn he;have kp:w7.cell? ⟨b,off+ix,none⟩=some (.int .u8 ((pix.getD ix 0).toNat:Int)):=(World.cell?_of_block (HC.out.mod.block b HI.out.2.2.2.2.2 (fun h=>h))).trans (HI.out.2.1 ix hixn);have x0:(pix.getD ix 0).toNat<256:=UInt8.toNat_lt _;have hco:lkCo W pix x y=pix.getD ix 0:=by unfold lkCo;rw [if_pos hxy,<-HI.out.2.2.2.1,<-hix]
      have q1:(0:Int)<=(ix:Int):=Int.natCast_nonneg _;have q2:(ix:Int)<(n:Int):=Int.ofNat_lt.2 hixn;have HO:=Lib.hid hco;obtain⟨hx1,hy1⟩:=hxy;clear hco hix;generalize (pix.getD ix 0)=px at *;go_upto_region 18 with(fail)
      have HT:=HC.out.put (g:=w.heap.size+1+1) (i:=17) (u:=.int .u8 (px.toNat:Int)) (.here (ar_set_corner (lkAb_length _ _ _ _) (lkLf_length _ _ _ _) x0));rw [UInt8.ofNat_toNat]at HT;rw [<-HO.out]at HT ⊢;have HT:=Lib.hid HT;clear c1 kp q1 q2 he af al pc pf;go_wp2_with (first|(refine wpList_load_row rfl 470 (.tmp 9) rfl (w.heap.size+1+1) rfl 470 (arV (lkAb W pix x y) (lkLf W pix x y) (lkCo W pix x y)) (0,0) _ (HT.out.own_ 0 rfl) Tryz.underlying470 rfl (by kernel_rfl) ?_)|(refine wpList_store_part rfl 470 (.tmp 8) (.tmp 88) rfl (w.heap.size+1) 0 (arL (lkAb W pix x y) (lkLf W pix x y) (lkCo W pix x y)) rfl rfl 470 _ (HT.out.own_ 1 rfl) (by kernel_rfl) (by simp [arL,u8s,lkAb,lkLf]) (arL_one _ _ _) ?_;intro w9 hb9 hm9;have HB9:=Lib.hid (And.intro hb9 hm9);clear hb9 hm9));have hb9:=HB9.out.1;rw [splice_all (by simp [arL,u8s,lkAb,lkLf])]at hb9;exact bodyPost_ret (v:=.agg (arV (lkAb W pix x y) (lkLf W pix x y) (lkCo W pix x y))) (results_cell_row rfl _ _ (w.heap.size+1) 470 _ (0,0) _ rfl hb9 Tryz.underlying470 rfl (by kernel_rfl)) rfl ⟨rfl,HT.out.mod.into HB9.out.2 (fun i e=>.inr (by omega))⟩
     ·have e:lkCo W pix x y=128:=by unfold lkCo;rw [if_neg hxy]
      by_cases hx0:0<x
      ·have d1:decide (0<(x:Int))=true:=decide_eq_true (by omega);have d2:decide (0<(y:Int))=false:=decide_eq_false (by omega);go_upto_region 18 with(fail)
       have HT:=HC.out;rw [<-e]at HT;have HT:=Lib.hid HT;go_wp2_with (first|(refine wpList_load_row rfl 470 (.tmp 9) rfl (w.heap.size+1+1) rfl 470 (arV (lkAb W pix x y) (lkLf W pix x y) (lkCo W pix x y)) (0,0) _ (HT.out.own_ 0 rfl) Tryz.underlying470 rfl (by kernel_rfl) ?_)|(refine wpList_store_part rfl 470 (.tmp 8) (.tmp 88) rfl (w.heap.size+1) 0 (arL (lkAb W pix x y) (lkLf W pix x y) (lkCo W pix x y)) rfl rfl 470 _ (HT.out.own_ 1 rfl) (by kernel_rfl) (by simp [arL,u8s,lkAb,lkLf]) (arL_one _ _ _) ?_;intro w9 hb9 hm9;have HB9:=Lib.hid (And.intro hb9 hm9);clear hb9 hm9));have hb9:=HB9.out.1;rw [splice_all (by simp [arL,u8s,lkAb,lkLf])]at hb9;exact bodyPost_ret (v:=.agg (arV (lkAb W pix x y) (lkLf W pix x y) (lkCo W pix x y))) (results_cell_row rfl _ _ (w.heap.size+1) 470 _ (0,0) _ rfl hb9 Tryz.underlying470 rfl (by kernel_rfl)) rfl ⟨rfl,HT.out.mod.into HB9.out.2 (fun i e=>.inr (by omega))⟩
      ·have d1:decide (0<(x:Int))=false:=decide_eq_false (by omega);go_upto_region 18 with(fail)
       have HT:=HC.out;rw [<-e]at HT;have HT:=Lib.hid HT;go_wp2_with (first|(refine wpList_load_row rfl 470 (.tmp 9) rfl (w.heap.size+1+1) rfl 470 (arV (lkAb W pix x y) (lkLf W pix x y) (lkCo W pix x y)) (0,0) _ (HT.out.own_ 0 rfl) Tryz.underlying470 rfl (by kernel_rfl) ?_)|(refine wpList_store_part rfl 470 (.tmp 8) (.tmp 88) rfl (w.heap.size+1) 0 (arL (lkAb W pix x y) (lkLf W pix x y) (lkCo W pix x y)) rfl rfl 470 _ (HT.out.own_ 1 rfl) (by kernel_rfl) (by simp [arL,u8s,lkAb,lkLf]) (arL_one _ _ _) ?_;intro w9 hb9 hm9;have HB9:=Lib.hid (And.intro hb9 hm9);clear hb9 hm9));have hb9:=HB9.out.1;rw [splice_all (by simp [arL,u8s,lkAb,lkLf])]at hb9;exact bodyPost_ret (v:=.agg (arV (lkAb W pix x y) (lkLf W pix x y) (lkCo W pix x y))) (results_cell_row rfl _ _ (w.heap.size+1) 470 _ (0,0) _ rfl hb9 Tryz.underlying470 rfl (by kernel_rfl)) rfl ⟨rfl,HT.out.mod.into HB9.out.2 (fun i e=>.inr (by omega))⟩
def smpN(W H:Nat)(pix:List UInt8)(X Y:Int):Nat:=
 if Y % 2=0 then(if X % 2=0 then(patL W H pix (X/2) (Y/2)).toNat else acrN W H pix (X/2) (Y/2))
 else if X % 2=0 then dwnN W H pix (X/2) (Y/2)else(acrN W H pix (X/2) (Y/2)+acrN W H pix (X/2) (Y/2+1)+1)/2
theorem pRight'(w:World)(W H:Nat)(A:Option Addr)(n c:Nat)(h:sidesB W H=true)(hn:n=W*H):Calls Tryz.prog 175 #[.agg #[.int .i64 (W:Int),.int .i64 (H:Int),.slice A n c]] w fun e w'=>e=.returned (.bool true)/\Mod (fun _=>False) w w':=by
 subst hn;exact pRight w W H A c h
theorem and1(x:Int):bits BinOp.and IntKind.i64 x 1=x % 2:=by
 have e1:(BitVec.ofInt 64 x).toNat=(x % 18446744073709551616).toNat:=by rw [BitVec.toNat_ofInt];rfl
 have e2:(BitVec.ofInt 64 1).toNat=1:=by decide
 show IntKind.i64.wrap ((BitVec.ofInt 64 x &&& BitVec.ofInt 64 1).toNat:Nat)=_;rw [BitVec.toNat_and,e1,e2,Nat.and_one_is_mod,IntWalk.i64_in _ ⟨by omega,by omega⟩];omega
theorem pl_cells{w:World}{p:Nat}{W H:Int}{v:Value}(h:Blk w p 108 #[.int .i64 W,.int .i64 H,v]):w.cell? ⟨p,0,none⟩=some (.int .i64 W)/\w.cell? ⟨p,1,none⟩=some (.int .i64 H)/\w.cell? ⟨p,2,none⟩=some v:=⟨h.cell 0,h.cell 1,h.cell 2⟩
theorem mAcross'(w:World)(W H:Nat)(A:Option Addr)(n c:Nat)(pix:List UInt8)(h:sidesB W H=true)(hn:n=W*H)(hin:BytesIn w A (W*H) c pix)(x y:Int)(hx:-1073741824<=x/\x<=1073741824):
  Calls Tryz.prog 385 #[.agg #[.int .i64 (W:Int),.int .i64 (H:Int),.slice A n c],.int .i64 x,.int .i64 y] w fun e w'=>e=.returned (.int .u8 ((acrN W H pix x y:Nat):Int))/\Mod (fun _=>False) w w':=by
 subst hn;exact mAcross w W H A c pix h hin x y hx
theorem mDown'(w:World)(W H:Nat)(A:Option Addr)(n c:Nat)(pix:List UInt8)(h:sidesB W H=true)(hn:n=W*H)(hin:BytesIn w A (W*H) c pix)(x y:Int)(hy:-1073741824<=y/\y<=1073741824):
  Calls Tryz.prog 386 #[.agg #[.int .i64 (W:Int),.int .i64 (H:Int),.slice A n c],.int .i64 x,.int .i64 y] w fun e w'=>e=.returned (.int .u8 ((dwnN W H pix x y:Nat):Int))/\Mod (fun _=>False) w w':=by
 subst hn;exact mDown w W H A c pix h hin x y hy
theorem acrN_lt(W H:Nat)(pix:List UInt8)(x y:Int):acrN W H pix x y<256:=halfN_lt _ _ _ _ _ _
theorem mSample(w:World)(W H:Nat)(A:Option Addr)(n c:Nat)(pix:List UInt8)(h:sidesB W H=true)(hn:n=W*H)(hin:BytesIn w A (W*H) c pix)(x y:Int)(hx:-1073741824<=x/\x<=1073741824)(hy:-1073741824<=y/\y<=1073741824):
  Calls Tryz.prog 350 #[.agg #[.int .i64 (W:Int),.int .i64 (H:Int),.slice A n c],.int .i64 x,.int .i64 y] w fun e w'=>e=.returned (.int .u8 ((smpN W H pix x y:Nat):Int))/\Mod (fun _=>False) w w':=by
 have HI:=Lib.hid (And.intro h (And.intro hin hn));clear h hin hn;have h0:=(Sat.nil (fun _=>False) w)
 obtain⟨hx1,hx2⟩:=hx;obtain⟨hy1,hy2⟩:=hy;have ax:=and1 x;have ay:=and1 y;have d1:(bits BinOp.and IntKind.i64 x 1 == 0)=decide (x % 2=0):=by rw [ax];rfl
 have d2:(bits BinOp.and IntKind.i64 y 1 == 0)=decide (y % 2=0):=by rw [ay];rfl
 have hrs:smpN W H pix x y=smpN W H pix x y:=rfl
 conv at hrs=>rhs;unfold smpN
 have HD:=Lib.hid (And.intro d1 (And.intro d2 hrs));clear ax ay d1 d2 hrs;by_cases hcy:y % 2=0
 ·have d2:(bits BinOp.and IntKind.i64 y 1 == 0)=true:=HD.out.2.1.trans (decide_eq_true hcy);have HR:=Lib.hid (HD.out.2.2.trans (if_pos hcy));clear hcy;by_cases hcx:x % 2=0
  ·have d1:(bits BinOp.and IntKind.i64 x 1 == 0)=true:=HD.out.1.trans (decide_eq_true hcx);have HR:=Lib.hid (HR.out.trans (if_pos hcx));clear hcx;go_enter Tryz.func350,Tryz.ntmps350;go_wp2_with fail;refine(pRight' _ W H A n c HI.out.1 HI.out.2.2).mono ?_;rintro e w1 ⟨rfl,hm1⟩;have HS:=Sat.after hm1 (h0.alloc _ _ rfl);obtain⟨pc,pf⟩:=(HS.own_ 0 rfl).both;clear hm1;go_wp2_with fail;refine(pAt' _ W H A n c pix HI.out.1 HI.out.2.2 (HI.out.2.1.quiet HS.mod) _ _).mono ?_;rintro e w2 ⟨rfl,hm2⟩;go_wp2_with fail;go_ret;exact⟨by rw [HR.out];rfl,HS.mod.trans hm2⟩
  ·have d1:(bits BinOp.and IntKind.i64 x 1 == 0)=false:=HD.out.1.trans (decide_eq_false hcx);have HR:=Lib.hid (HR.out.trans (if_neg hcx));clear hcx;go_enter Tryz.func350,Tryz.ntmps350;go_wp2_with fail;refine(pRight' _ W H A n c HI.out.1 HI.out.2.2).mono ?_;rintro e w1 ⟨rfl,hm1⟩;have HS:=Sat.after hm1 (h0.alloc _ _ rfl);obtain⟨pc,pf⟩:=(HS.own_ 0 rfl).both;clear hm1;go_wp2_with fail;refine(mAcross' _ W H A n c pix HI.out.1 HI.out.2.2 (HI.out.2.1.quiet HS.mod) _ _ ⟨by omega,by omega⟩).mono ?_;rintro e w2 ⟨rfl,hm2⟩;go_wp2_with fail;go_ret;exact⟨by rw [HR.out];rfl,HS.mod.trans hm2⟩
 ·have d2:(bits BinOp.and IntKind.i64 y 1 == 0)=false:=HD.out.2.1.trans (decide_eq_false hcy);have HR:=Lib.hid (HD.out.2.2.trans (if_neg hcy));clear hcy;by_cases hcx:x % 2=0
  ·have d1:(bits BinOp.and IntKind.i64 x 1 == 0)=true:=HD.out.1.trans (decide_eq_true hcx);have HR:=Lib.hid (HR.out.trans (if_pos hcx));clear hcx;go_enter Tryz.func350,Tryz.ntmps350;go_wp2_with fail;refine(pRight' _ W H A n c HI.out.1 HI.out.2.2).mono ?_;rintro e w1 ⟨rfl,hm1⟩;have HS:=Sat.after hm1 (h0.alloc _ _ rfl);obtain⟨pc,pf⟩:=(HS.own_ 0 rfl).both;clear hm1;go_wp2_with fail;refine(mDown' _ W H A n c pix HI.out.1 HI.out.2.2 (HI.out.2.1.quiet HS.mod) _ _ ⟨by omega,by omega⟩).mono ?_;rintro e w2 ⟨rfl,hm2⟩;go_wp2_with fail;go_ret;exact⟨by rw [HR.out];rfl,HS.mod.trans hm2⟩
  ·have d1:(bits BinOp.and IntKind.i64 x 1 == 0)=false:=HD.out.1.trans (decide_eq_false hcx);have HR:=Lib.hid (HR.out.trans (if_neg hcx));clear hcx;go_enter Tryz.func350,Tryz.ntmps350;go_wp2_with fail;refine(pRight' _ W H A n c HI.out.1 HI.out.2.2).mono ?_;rintro e w1 ⟨rfl,hm1⟩;have HS:=Sat.after hm1 (h0.alloc _ _ rfl);obtain⟨pc,pf⟩:=(HS.own_ 0 rfl).both;clear hm1;go_wp2_with fail;have x0:=(HS.own_ 0 rfl).drew;have hM:=HS.mod.drew;have y0:IntKind.i64.wrap (y/2+1)=y/2+1:=IntWalk.i64_in _ ⟨by omega,by omega⟩;have l1:=acrN_lt W H pix (x/2) (y/2);have l2:=acrN_lt W H pix (x/2) (y/2+1);clear pc;go_region_held3 (fun w'=>w'.cell? ⟨w.heap.size,0,none⟩=some (.int .i64 (W:Int))/\w'.cell? ⟨w.heap.size,1,none⟩=some (.int .i64 (H:Int))/\w'.cell? ⟨w.heap.size,2,none⟩=some (.slice A n c)) (first|exact pl_cells x0|exact pl_cells (HS.own_ 0 rfl)) (first|(go_at_call 385;refine(mAcross' _ W H A n c pix HI.out.1 HI.out.2.2 (HI.out.2.1.quiet hM) _ _ ⟨by omega,by omega⟩).mono ?_;rintro e w2 ⟨rfl,hm2⟩;have x0:=x0.keep hm2 (fun h=>h);have hM:=hM.trans hm2;clear hm2))
   clear y0;go_wp2_with fail;go_ret;refine⟨congrArg (fun z=>Ending.returned (.int .u8 z)) ?_,hM⟩;rw [HR.out];generalize acrN W H pix (x/2) (y/2)=a at *;generalize acrN W H pix (x/2) (y/2+1)=b at *;rw [IntWalk.i64_in (a:Int) ⟨by omega,by omega⟩,IntWalk.i64_in (b:Int) ⟨by omega,by omega⟩,IntWalk.i64_in ((a:Int)+(b:Int)) ⟨by omega,by omega⟩,IntWalk.i64_in ((a:Int)+(b:Int)+1) ⟨by omega,by omega⟩,IntWalk.u8_in _ ⟨by omega,by omega⟩];omega
theorem smpN_lt(W H:Nat)(pix:List UInt8)(X Y:Int):smpN W H pix X Y<256:=by
 unfold smpN dwnN;have h1:=acrN_lt W H pix (X/2) (Y/2);have h2:=acrN_lt W H pix (X/2) (Y/2+1);split
 ·split
  ·exact UInt8.toNat_lt _
  ·exact h1
 ·split
  ·exact halfN_lt _ _ _ _ _ _
  ·omega
def mvF(W H:Nat)(pix:List UInt8)(x y:Int)(n:Nat)(vx vy:Int)(k:Nat):UInt8:=UInt8.ofNat (smpN W H pix (2*(x+((k % n:Nat):Int))+vx) (2*(y+((k/n:Nat):Int))+vy))
def mvL(W H:Nat)(pix:List UInt8)(x y:Int)(n:Nat)(vx vy:Int):List UInt8:=(List.range (n*n)).map (mvF W H pix x y n vx vy)
theorem mvF_at(W H:Nat)(pix:List UInt8)(x y:Int)(n:Nat)(vx vy:Int)(j i:Nat)(hi:i<n):(mvF W H pix x y n vx vy (j*n+i)).toNat=smpN W H pix (2*(x+(i:Int))+vx) (2*(y+(j:Int))+vy):=by
 unfold mvF;have h1:(j*n+i) % n=i:=by rw [Nat.mul_comm,Nat.mul_add_mod,Nat.mod_eq_of_lt hi]
 have h2:(j*n+i)/n=j:=by rw [Nat.mul_comm,Nat.mul_add_div (by omega),Nat.div_eq_of_lt hi,Nat.add_zero]
 rw [h1,h2];have:=smpN_lt W H pix (2*(x+(i:Int))+vx) (2*(y+(j:Int))+vy);rw [UInt8.toNat_ofNat'];omega
theorem madeFill(f:Nat->UInt8)(n:Nat):(u8s (List.replicate n 0)).toArray=(u8s (fillL f n 0)).toArray:=by rw [fillL_zero]
def MvRel(w:World)(q p v N n:Nat)(pv vv:Array Value)(f:Nat->UInt8)(s49:Value)(wr:World):Prop:=
 ∃j:Nat,j<=n/\s49=.int .i64 (j:Int)/\Sat (fun _=>False) w wr [⟨q,5,(u8s (fillL f N (j*n))).toArray⟩,⟨v,307,vv⟩,⟨p,108,pv⟩] []
def MvRel2(w:World)(q p v N n j:Nat)(pv vv:Array Value)(f:Nat->UInt8)(s53:Value)(wr:World):Prop:=
 ∃i:Nat,i<=n/\s53=.int .i64 (i:Int)/\Sat (fun _=>False) w wr [⟨q,5,(u8s (fillL f N (j*n+i))).toArray⟩,⟨v,307,vv⟩,⟨p,108,pv⟩] []
theorem mBlock(w:World)(W H:Nat)(A:Option Addr)(m c:Nat)(pix:List UInt8)(h:sidesB W H=true)(hm:m=W*H)(hin:BytesIn w A (W*H) c pix)(x y vx vy:Int)(n:Nat)(hx:-1048576<=x/\x<=1048576)(hy:-1048576<=y/\y<=1048576)(hvx:-1048576<=vx/\vx<=1048576)(hvy:-1048576<=vy/\vy<=1048576)(hn:1<=n/\n<=64):
  Calls Tryz.prog 311 #[.agg #[.int .i64 (W:Int),.int .i64 (H:Int),.slice A m c],.int .i64 x,.int .i64 y,.int .i64 (n:Int),.agg #[.int .i64 vx,.int .i64 vy]] w
   fun e w'=>∃g N,N=n*n/\e=.returned (.slice (some ⟨g,0,none⟩) N N)/\Blk w' g 5 (u8s (mvL W H pix x y n vx vy)).toArray/\w.heap.size<=g/\Mod (fun _=>False) w w':=by
 have HI:=Lib.hid (And.intro h (And.intro hin hm));clear h hin hm;have h0:=(Sat.nil (fun _=>False) w)
 obtain⟨hx1,hx2⟩:=hx;obtain⟨hy1,hy2⟩:=hy;obtain⟨hvx1,hvx2⟩:=hvx;obtain⟨hvy1,hvy2⟩:=hvy;obtain⟨hn1,hn2⟩:=hn;obtain⟨N,hN⟩:∃N,N=n*n:=⟨_,rfl⟩
 have hNb:N<=4096:=by rw [hN];exact Nat.le_trans (Nat.mul_le_mul hn2 hn2) (by omega)
 have hNi:wrap64 ((n:Int)*(n:Int))=(N:Int):=by
  rw [show(n:Int)*(n:Int)=(N:Int)by rw [hN];simp];exact IntWalk.wrap64_in _ ⟨by omega,by omega⟩
 have HN:=Lib.hid (And.intro hN hNi);clear hN hNi;have t1:decide ((n:Int)<1)=false:=decide_eq_false (by omega);have t2:decide (64<(n:Int))=false:=decide_eq_false (by omega);go_enter Tryz.func311,Tryz.ntmps311;go_wp2_with fail;refine(pRight' _ W H A m c HI.out.1 HI.out.2.2).mono ?_;rintro e w1 ⟨rfl,hm1⟩;have HS:=Sat.after hm1 ((h0.alloc _ _ rfl).alloc (g:=w.heap.size+1) _ _ (by simp));clear hm1 h0;obtain⟨vc,vf⟩:=(HS.own_ 0 rfl).both;have HH:=Lib.hid HS;clear HS;go_wp2_with fail;clear vc vf;go_loop [34] (fun i=>∃k:Nat,k<=4/\i=.int .i64 (k:Int)) (fun i=>4-(intOf i).toNat)
 case atStart=>exact⟨0,by omega,rfl⟩
 case round=>
  obtain⟨k,hk,rfl⟩:=hrel;have a1:decide (x < -1048576)=false:=decide_eq_false (by omega);have a2:decide (1048576<x)=false:=decide_eq_false (by omega);have b1:decide (y < -1048576)=false:=decide_eq_false (by omega);have b2:decide (1048576<y)=false:=decide_eq_false (by omega);have c1:decide (vx < -1048576)=false:=decide_eq_false (by omega);have c2:decide (1048576<vx)=false:=decide_eq_false (by omega);have d1:decide (vy < -1048576)=false:=decide_eq_false (by omega);have d2:decide (1048576<vy)=false:=decide_eq_false (by omega);have i0:∀w,(Instr.index 452 (.agg #[.int .i64 x,.int .i64 y,.int .i64 vx,.int .i64 vy]) (.int .i64 0)).run Tryz.prog w=.ok (.int .i64 x) w:=fun _=>by kernel_rfl
  have i1:∀w,(Instr.index 452 (.agg #[.int .i64 x,.int .i64 y,.int .i64 vx,.int .i64 vy]) (.int .i64 1)).run Tryz.prog w=.ok (.int .i64 y) w:=fun _=>by kernel_rfl
  have i2:∀w,(Instr.index 452 (.agg #[.int .i64 x,.int .i64 y,.int .i64 vx,.int .i64 vy]) (.int .i64 2)).run Tryz.prog w=.ok (.int .i64 vx) w:=fun _=>by kernel_rfl
  have i3:∀w,(Instr.index 452 (.agg #[.int .i64 x,.int .i64 y,.int .i64 vx,.int .i64 vy]) (.int .i64 3)).run Tryz.prog w=.ok (.int .i64 vy) w:=fun _=>by kernel_rfl
  have hcs:k=0\/k=1\/k=2\/k=3\/k=4:=by omega
  clear hk;rcases hcs with rfl|rfl|rfl|rfl|rfl
  ·go_wp2_with fail;go_round
   case rel=>exact⟨1,by omega,by go_num⟩
   case measure=>simp [intOf]
  ·go_wp2_with fail;go_round
   case rel=>exact⟨2,by omega,by go_num⟩
   case measure=>simp [intOf]
  ·go_wp2_with fail;go_round
   case rel=>exact⟨3,by omega,by go_num⟩
   case measure=>simp [intOf]
  ·go_wp2_with fail;go_round
   case rel=>exact⟨4,by omega,by go_num⟩
   case measure=>simp [intOf]
  ·clear i0 i1 i2 i3 a1 a2 b1 b2 c1 c2 d1 d2;go_wp2_with (refine wpList_mk_u8 _ rfl (.tmp 46) (.tmp 46) rfl N (congrArg (Value.int .i64) HN.out.2) (congrArg (Value.int .i64) HN.out.2) (by omega) ?_;intro w3 hb3 hm3;have HO:=Lib.hid (And.intro hb3 hm3);clear hb3 hm3)
   have hq0:=HO.out.1;rw [madeFill (mvF W H pix x y n vx vy)]at hq0;have hqs:w.heap.size+2<=w1.heap.size:=by
    have h1:=(HH.out.own_ 0 rfl).lt;exact h1
   have HS3:=(HH.out.quiet HO.out.2).add_own (g:=w1.heap.size) hq0 (.inr (by omega)) (by
    intro e he;have:=(HH.out.blk e he).lt;omega)
   obtain⟨q,hq⟩:∃q,q=w1.heap.size:=⟨_,rfl⟩
   have hqw:w.heap.size<=q:=by omega
   rw [<-hq]at HS3 ⊢;obtain⟨f,hf⟩:∃f,f=mvF W H pix x y n vx vy:=⟨_,rfl⟩
   rw [<-hf]at HS3;have HF:=Lib.hid hf;clear hf hq hq0 hqs HO HH;go_wp2_with fail;go_loopw [49] (MvRel w q w.heap.size (w.heap.size+1) N n #[.int .i64 (W:Int),.int .i64 (H:Int),.slice A m c] #[.int .i64 vx,.int .i64 vy] f) (fun s _=>n-(intOf s).toNat)
   case atStart=>exact⟨0,by omega,rfl,by rw [Nat.zero_mul];exact HS3⟩
   case round=>
    clear HS3;obtain⟨j,hj,rfl,HSj⟩:=hrel;have HJ:=Lib.hid HSj;clear HSj;by_cases hlt:j<n
    ·have d1:decide ((j:Int)<(n:Int))=true:=decide_eq_true (by omega);obtain⟨m0,hm0⟩:∃m0,m0=j*n:=⟨_,rfl⟩
     have hmn:m0+n<=N:=by
      rw [hm0,HN.out.1];have:=Nat.mul_le_mul_right n (show j+1<=n by omega);rw [Nat.add_mul,Nat.one_mul]at this;exact this
     have hmw:wrap64 ((j:Int)*(n:Int))=(m0:Int):=by
      rw [show(j:Int)*(n:Int)=(m0:Int)by rw [hm0];simp];exact IntWalk.wrap64_in _ ⟨by omega,by omega⟩
     have HM:=Lib.hid (And.intro hm0 hmw);clear hm0 hmw;go_wp2_with fail;go_loopw [53] (MvRel2 w q w.heap.size (w.heap.size+1) N n j #[.int .i64 (W:Int),.int .i64 (H:Int),.slice A m c] #[.int .i64 vx,.int .i64 vy] f) (fun s _=>n-(intOf s).toNat)
     case atStart=>exact⟨0,by omega,rfl,HJ.out⟩
     case round=>
      clear HJ;rename World=>w5
      obtain⟨i,hi,rfl,HSi⟩:=hrel;by_cases hli:i<n
      ·have d2:decide ((i:Int)<(n:Int))=true:=decide_eq_true (by omega);obtain⟨vc,vf⟩:=(HSi.own_ 1 rfl).both;obtain⟨pc,pf⟩:=(HSi.own_ 2 rfl).both;have hff:smpN W H pix (2*(x+(i:Int))+vx) (2*(y+(j:Int))+vy)=(f (j*n+i)).toNat:=by rw [HF.out,mvF_at _ _ _ _ _ _ _ _ _ _ hli]
       have HG:=Lib.hid (And.intro HSi hff);clear HSi hff;go_wp2_with fail;refine(mSample _ W H A m c pix HI.out.1 HI.out.2.2 (HI.out.2.1.quiet HG.out.1.mod) _ _ ⟨by omega,by omega⟩ ⟨by omega,by omega⟩).mono ?_;rintro e w4 ⟨rfl,hm4⟩;have HS4:=Sat.after hm4 HG.out.1;clear hm4 pc pf vc vf;have qf:=(HS4.own_ 0 rfl).frozen;have ql:=(HS4.own_ 0 rfl).lt;rw [HG.out.2];rw [<-HM.out.1]at HS4 ⊢;have q0:=fill_cell (HS4.own_ 0 rfl) (show m0+i<N by omega);rw [HM.out.2,IntWalk.wrap64_in ((m0:Int)+(i:Int)) ⟨by omega,by omega⟩];have HG4:=Lib.hid HS4;clear HS4;go_wp2_with fail;go_roundw
       case rel=>exact⟨i+1,by omega,by go_num,by rw [<-HM.out.1];exact HG4.out.put (Upd.here (fill_set f N (m0+i)))⟩
       case measure=>simp [intOf];omega
      ·obtain rfl:i=n:=by omega
       have HG:=Lib.hid HSi;clear HSi;go_wp2_with fail;go_roundw
       case rel=>exact⟨j+1,by omega,by go_num,by rw [Nat.add_mul,Nat.one_mul];exact HG.out⟩
       case measure=>simp [intOf];omega
    ·obtain rfl:j=n:=by omega
     go_wp2_with fail;go_ret;have hb:=HJ.out.own_ 0 rfl;rw [show(j*j)=N from HN.out.1.symm,fillL_all,HF.out]at hb;refine⟨q,N,HN.out.1,rfl,?_,hqw,HJ.out.mod⟩;unfold mvL;rw [<-HN.out.1];exact hb
end Go.Proofs.YtnnpoodcdibpiaaGreatDoor
