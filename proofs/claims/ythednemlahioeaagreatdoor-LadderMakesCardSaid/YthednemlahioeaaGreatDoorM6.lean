/-
  plane.New.
-/
import Derived.Test.YthednemlahioeaaGreatDoorM5
namespace Go.Proofs.YthednemlahioeaaGreatDoor
open Go.RowKit
open List renaming replicate→ZM,map_set→WU,getD_eq_getElem?_getD→Z6,take_of_length_le→Zt,drop_eq_nil_of_le→We,getElem?_eq_none→Zi,getElem?_toArray→Zo,getElem?_append_left→Zv,getElem?_append_right→ZF,take→VC,drop→Q6
open Lib renaming hid→Z7
open ZI renaming new→Zn,far→Sc
open And renaming intro→Z9
open Act renaming eval→Vo,put→TG
open Go.Proofs.Tryz
set_option maxRecDepth 100000
set_option maxHeartbeats 8000000
def Q9(n:Nat)(v:UInt8)(k:Nat):List UInt8:=ZM k v++ZM (n-k) 0
theorem Hu(n:Nat)(v:UInt8)(k:Nat)(h:k<=n):(Q9 n v k).length=n:=by simp [Q9];omega
theorem Bd(n:Nat)(v:UInt8)(k:Nat)(h:k<n):(Yw (Q9 n v k)).set k (.int .u8 (v.toNat:Int))=Yw (Q9 n v (k+1)):=by
 have e:(Q9 n v k).set k v=Q9 n v (k+1):=by
  apply List.ext_getElem
  ·simp [Q9];omega
  ·intro i h1 h2;rw [List.getElem_set];by_cases e:k=i
   ·subst e;simp [Q9]
   ·rw [if_neg e];simp only [Q9,List.getElem_append,List.length_replicate,List.getElem_replicate];split<;>split<;>first|rfl|omega
 rw [<-e];simp [Yw,WU]
theorem Dh(n:Nat)(v:UInt8):Q9 n v 0=ZM n 0:=by simp [Q9]
theorem Dg(n:Nat)(v:UInt8):Q9 n v n=ZM n v:=by simp [Q9]
def kF(w:World)(res pb g:Nat)(pc:Array Value)(n:Nat)(v:UInt8)(v25:Value)(wr:World):Prop:=
 ∃k:Nat,k<=n/\v25=↑k/\ZI wr res 56 #[↑Z0,↑Z0,↑Zd]/\ZI wr pb 56 pc/\ZI wr g 5 (Yw (Q9 n v k)).toArray/\Mod ↑ZW w wr
def FY(w:World)(W H:Nat)(ZJ:List UInt8)(v:Value)(w':World):Prop:=
 ∃g,v=.agg #[↑W,↑H,↑(ZZ g (W*H) (W*H))]/\ZI w' g 5 (Yw ZJ).toArray/\ZJ.length=W*H/\w.heap.size<=g
def GV(w:World)(W H:Nat)(v:UInt8)(e:Ending)(w':World):Prop:=
 ∃p,e=.returned (.tuple #[p,↑Z0])/\FY w W H (ZM (W*H) v) p w'/\Mod ↑ZW w w'
theorem akg(w:World)(W H:Nat)(v:UInt8)(h:Yx W H=true):Calls prog 90 #[↑W,↑H,.int .u8 (v.toNat:Int)] w (GV w W H v):=by
 obtain⟨ha,h1,h2,h3,h4,h5⟩:=YB h;obtain⟨n,hn⟩:=ZL (W*H);unfold GV FY;rw [<-hn]at ha h5 ⊢;have e1:wrap64 ((W:Int)*(H:Int))=(n:Int):=by
  rw [show(W:Int)*(H:Int)=(n:Int)by rw [hn];simp];exact IntWalk.wrap64_in _ ⟨Z8,Z8⟩
 have HE:=Z7 e1;clear hn e1;go_enter func90,ntmps90;go_wp2_with fail;refine YH (Jl _ W H h) ?_;have vP:ZI (w.alloc (.cells #[↑Z0,↑Z0,↑Zd] 56)) w.heap.size 56 #[↑Z0,↑Z0,↑Zd]:=Zn _ _ _;have m0:Mod ↑ZW w (w.alloc (.cells #[↑Z0,↑Z0,↑Zd] 56)):=(Mod.refl _ _).alloc _;have HR:=Z5 vP m0;clear vP m0;go_upto_region 4 with(refine TV _ rfl (.tmp 19) (.tmp 19) rfl n (congrArg (Value.int .i64) HE.out) (congrArg (Value.int .i64) HE.out) Z8 ?_;intro w3 hb3 X7;have HO:=Z5 hb3 X7;clear hb3 X7)
 have hg3:ZI w3 (w.heap.size+1) 5 (Yw (Q9 n v 0)).toArray:=by
  have h:=HO.out.1;rw [<-Dh n v]at h;simpa using h
 have hr3:=HR.out.1.keep HO.out.2 (fun h=>h);have M3:=HR.out.2.trans HO.out.2;have KO:=hg3.lt;have Lr:=hr3.lt;have hs3:=M3.size;obtain⟨pc,Gq⟩:∃pc:Array Value,pc=#[↑W,↑H,↑(ZZ (w.heap.size+1) n n)]:=⟨_,rfl⟩
 have iT:ZI (w3.alloc (.cells pc 56)) w3.heap.size 56 pc:=Zn _ _ _;have hg4:=hg3.alloc (.cells pc 56);have hr4:=hr3.alloc (.cells pc 56);have M4:=M3.alloc (.cells pc 56);have c0:(w3.alloc (.cells pc 56)).cell? ⟨w3.heap.size,2,none⟩=some ↑(ZZ (w.heap.size+1) n n):=by rw [iT.cell,Gq];rfl
 have HP:=Z7 Gq;rw [<-Gq];obtain⟨res,hres⟩:=ZL (w.heap.size);obtain⟨g,Dt⟩:=ZL (w.heap.size+1);obtain⟨pb,J6⟩:=ZL (w3.heap.size);rw [<-Dt]at KO hg4 HP c0 ⊢;rw [<-J6]at iT c0 ⊢;rw [<-hres]at Lr hr4 ⊢;have n1:res≠g:=Z8;have n2:res≠pb:=Z8;have n3:g≠pb:=Z8;have n4:w.heap.size<=res:=Z8;have n5:w.heap.size<=g:=Z8;have HB:=Z5 hr4 (Z9 iT (Z9 hg4 M4));clear hr4 iT hg4 M4 hg3 hr3 M3 HO HR Gq hres Dt J6;generalize w3.alloc (.cells pc 56)=w4 at *;go_wp2_with fail;clear c0;go_loopw [25] (kF w res pb g pc n v) (fun i _=>n-(intOf i).toNat)
 case atStart=>exact⟨0,Z8,rfl,HB.out.1,HB.out.2.1,HB.out.2.2.1,HB.out.2.2.2⟩
 case round=>
  clear HB;obtain⟨k,hk,rfl,hr,hp,hg,hM⟩:=hrel;by_cases hlt:k<n
  ·have c2:wr.cell? ⟨pb,2,none⟩=some ↑(ZZ g n n):=by rw [hp.cell,HP.out];rfl
   have p1:(0:Int)<=(k:Int):=Z8;have p2:(k:Int)<(n:Int):=Z8;have k3:wr.cell? ⟨g,k,none⟩=some (.int .u8 ((Q9 n v k).getD k 0).toNat):=by rw [hg.cell];simp [Yw,Z6,Hu n v k hk,hlt]
   have f3:=hg.frozen k;have hl:=hg.lt;generalize ((Q9 n v k).getD k 0).toNat=old at *;have HB:=Z5 hr (Z9 hp (Z9 hg hM));clear hr hp hg hM;go_wp2_with fail;go_roundw
   case rel=>exact⟨k+1,Z8,Zr,HB.out.1.far n1 _,HB.out.2.1.far (fun h=>n3 h.symm) _,HB.out.2.2.1.put (by simpa using Bd n v k hlt),HB.out.2.2.2.setCell (.inr n5) _⟩
   case measure=>exact YD
  ·obtain rfl:k=n:=Z8;obtain⟨az,aks⟩:=hp.both;rw [HP.out]at az;obtain⟨aG,akr⟩:=hr.both;have akq:=hr.lt;have mR:=hp.lt;have HB:=Z5 hr (Z9 hg hM);clear hr hp hg hM;go_wp2_with fail;obtain⟨hr,hg,hM⟩:=HB.out;rw [Dg]at hg;refine bodyPost_ret (v:=.tuple #[.agg #[↑W,↑H,↑(ZZ g k k)],↑Z0]) (by simp [results,results90,go_sem,aG]) rfl ⟨_,rfl,⟨g,rfl,?_,Ze,n5⟩,?_⟩
   ·exact(by repeat' (first|with_reducible exact hg|with_reducible refine Sc ?_ n1.symm _))
   ·exact(by repeat' (first|with_reducible exact hM|with_reducible refine Mod.setCell ?_ (.inr n4) _))
theorem Gz(w:World)(n:Nat)(hn:n<=16777216):(Instr.makeSlice 54 ↑n ↑n).run prog w=.ok ↑(ZZ w.heap.size n n) (w.alloc (.cells (Yw (ZM n 0)).toArray 5)):=by
 obtain⟨i0,hi0,hz0,hz1,hz2⟩:=info_parts Pf;have h:=run_makeSlice (P:=prog) (w:=w) 54 5 i0 (.int .u8 0) underlying54 hi0 hz0 .i64 .i64 (n:Int) (n:Int) Z8 Z8 (by rw [hz1];simp;omega) (by rw [hz2];omega) Z8;rw [h,hz1,Nat.mul_one];have e:(madeCells (Value.cells (.int .u8 0)) n)=(Yw (ZM n 0)).toArray:=by
  rw [<-nV n]
 simp [e]
theorem bR(w:World)(W H:Nat)(A:Option Addr)(n c:Nat)(ZJ:List UInt8)(hn:n<=16777216)(YZ:BytesIn w A n c ZJ):Calls prog 218 #[.agg #[↑W,↑H,.slice A n c]] w fun e w'=>∃g,e=.returned (.agg #[↑W,↑H,↑(ZZ g n n)])/\ZI w' g 5 (Yw ZJ).toArray/\w.heap.size<=g/\Mod ↑ZW w w':=by
 have OO:=Z7 YZ;clear YZ;obtain⟨pc,Gq⟩:∃pc:Array Value,pc=#[↑W,↑H,.slice A n c]:=⟨_,rfl⟩
 have hb0:ZI ((w.alloc (.cells #[↑W,↑H,.slice A n c] 56)).alloc (.cells #[↑Z0,↑Z0,↑Zd] 56)) w.heap.size 56 #[↑W,↑H,.slice A n c]:=(Zn _ _ _).alloc _;have vP:ZI ((w.alloc (.cells #[↑W,↑H,.slice A n c] 56)).alloc (.cells #[↑Z0,↑Z0,↑Zd] 56)) (w.heap.size+1) 56 #[↑Z0,↑Z0,↑Zd]:=by
  have:=Zn (w.alloc (.cells #[↑W,↑H,.slice A n c] 56)) 56 #[↑Z0,↑Z0,↑Zd];simpa using this
 have m0:Mod ↑ZW w ((w.alloc (.cells #[↑W,↑H,.slice A n c] 56)).alloc (.cells #[↑Z0,↑Z0,↑Zd] 56)):=((Mod.refl _ _).alloc _).alloc _;have HH:=Z5 hb0 (Z9 vP m0);clear hb0 vP m0 Gq;go_enter func218,ntmps218;go_upto_region 1 with(fail)
 generalize sK:((w.alloc (.cells #[↑W,↑H,.slice A n c] 56)).alloc (.cells #[↑Z0,↑Z0,↑Zd] 56))=w1 at *;clear sK;have c0:w1.cell? ↑w.heap.size=some ↑W:=HH.out.1.cell 0;have c1:w1.cell? ⟨w.heap.size,1,none⟩=some ↑H:=HH.out.1.cell 1;have c2:w1.cell? ⟨w.heap.size,2,none⟩=some (.slice A n c):=HH.out.1.cell 2;have hl:=HH.out.1.lt;have Dv:=fun w=>Gz w n hn
 go_region
 ·have hg:ZI (((w1.alloc (.cells (Yw (ZM n 0)).toArray 5)).alloc (.cells #[↑W,↑H,↑(ZZ w1.heap.size n n)] 56)).drew) (w1.heap.size) 5 (Yw (ZM n 0)).toArray:=by exact((Zn _ _ _).alloc _).drew
  have hq:ZI (((w1.alloc (.cells (Yw (ZM n 0)).toArray 5)).alloc (.cells #[↑W,↑H,↑(ZZ w1.heap.size n n)] 56)).drew) (w1.heap.size+1) 56 #[↑W,↑H,↑(ZZ w1.heap.size n n)]:=by have h:=(Zn (w1.alloc (.cells (Yw (ZM n 0)).toArray 5)) 56 #[↑W,↑H,↑(ZZ w1.heap.size n n)]).drew;simpa using h
  have hp:ZI (((w1.alloc (.cells (Yw (ZM n 0)).toArray 5)).alloc (.cells #[↑W,↑H,↑(ZZ w1.heap.size n n)] 56)).drew) w.heap.size 56 _:=((HH.out.1.alloc _).alloc _).drew;have hr:ZI (((w1.alloc (.cells (Yw (ZM n 0)).toArray 5)).alloc (.cells #[↑W,↑H,↑(ZZ w1.heap.size n n)] 56)).drew) (w.heap.size+1) 56 _:=((HH.out.2.1.alloc _).alloc _).drew;have hM:Mod ↑ZW w (((w1.alloc (.cells (Yw (ZM n 0)).toArray 5)).alloc (.cells #[↑W,↑H,↑(ZZ w1.heap.size n n)] 56)).drew):=((HH.out.2.2.alloc _).alloc _).drew;have hs1:=HH.out.2.2.size;have akp:=HH.out.2.1.lt;generalize ((w1.alloc (.cells (Yw (ZM n 0)).toArray 5)).alloc (.cells #[↑W,↑H,↑(ZZ w1.heap.size n n)] 56)).drew=w2 at *;clear Dv c0 c1 c2 HH;obtain⟨g,Dt⟩:=ZL (w1.heap.size);obtain⟨pq,xC⟩:=ZL (w1.heap.size+1);obtain⟨pi,aA⟩:=ZL (w.heap.size);obtain⟨res,hres⟩:=ZL (w.heap.size+1);rw [<-xC]at hq ⊢;rw [<-Dt]at hg hq ⊢;rw [<-hres]at hr ⊢;rw [<-aA]at hp ⊢;have n1:res≠g:=Z8;have n2:res≠pq:=Z8;have n3:g≠pq:=Z8;have n4:w.heap.size<=res:=Z8;have n5:w.heap.size<=g:=Z8;have k2:w2.cell? ⟨pi,2,none⟩=some (.slice A n c):=hp.cell 2;have k3:w2.cell? ⟨pq,2,none⟩=some ↑(ZZ g n n):=hq.cell 2;have Vr:=OO.out.quiet hM;have x1:0+n<=(Yw (ZM n 0)).length:=by simp [Yw]
  have HF:=Z5 hg (Z9 hq (Z9 hr (Z9 hM (Z9 Vr x1))));clear hg hq hr hM hp Vr Dt xC aA hres x1 hl;go_upto_region 3 with(refine Rw rfl (.tmp 14) (.tmp 16) _ _ rfl 5 underlying54 ZR (some ⟨g,0,none⟩) n n A n c (Yw ZJ) rfl rfl HF.out.2.2.2.2.1.2.2.1 g 0 _ 5 HF.out.1 n (Nat.min_self _).symm (fun _=>rfl) HF.out.2.2.2.2.2 (Pg ZJ) ?_;intro w3 hb3 X7;have Kl:=Z5 hb3 X7;clear hb3 X7)
  have hg3:ZI w3 g 5 (Yw ZJ).toArray:=by
   have h:=Kl.out.1;have hl:=HF.out.2.2.2.2.1.1;have e:splice (Yw (ZM n 0)) 0 ((Yw ZJ).take n)=Yw ZJ:=by
    rw [Zt (by rw [YG];omega)];unfold splice;rw [We (by simp [Yw];omega)];simp
   rwa [e]at h
  have uI:=HF.out.2.1.keep Kl.out.2 (fun h=>n3 h.symm);have hr3:=HF.out.2.2.1.keep Kl.out.2 n1;have JA:Mod ↑ZW w w3:=HF.out.2.2.2.1.into Kl.out.2 (fun i e=>.inr Z8);obtain⟨hqc,hqf⟩:=uI.both;obtain⟨jO,hrf⟩:=hr3.both;have Lr:=hr3.lt;have HB:=Z5 hg3 JA;clear hg3 uI hr3 JA Kl k2 k3;go_wp2_with fail;refine bodyPost_ret (v:=.agg #[↑W,↑H,↑(ZZ g n n)]) (by simp [results,results218,go_sem,jO]) rfl ⟨g,rfl,?_,n5,?_⟩
  ·have hg:=HB.out.1;exact(by repeat' (first|with_reducible exact hg|with_reducible refine Sc ?_ n1.symm _))
  ·have hM:=HB.out.2;exact(by repeat' (first|with_reducible exact hM|with_reducible refine Mod.setCell ?_ (.inr n4) _))
 ·have hg:ZI (((w1.alloc (.cells #[↑W,↑H,↑(ZZ (w1.heap.size+1) n n)] 56)).alloc (.cells (Yw (ZM n 0)).toArray 5)).drew) (w1.heap.size+1) 5 (Yw (ZM n 0)).toArray:=by have h:=(Zn (w1.alloc (.cells #[↑W,↑H,↑(ZZ (w1.heap.size+1) n n)] 56)) 5 (Yw (ZM n 0)).toArray).drew;simpa using h
  have hq:ZI (((w1.alloc (.cells #[↑W,↑H,↑(ZZ (w1.heap.size+1) n n)] 56)).alloc (.cells (Yw (ZM n 0)).toArray 5)).drew) (w1.heap.size) 56 #[↑W,↑H,↑(ZZ (w1.heap.size+1) n n)]:=by exact((Zn _ _ _).alloc _).drew
  have hp:ZI (((w1.alloc (.cells #[↑W,↑H,↑(ZZ (w1.heap.size+1) n n)] 56)).alloc (.cells (Yw (ZM n 0)).toArray 5)).drew) w.heap.size 56 _:=((HH.out.1.alloc _).alloc _).drew;have hr:ZI (((w1.alloc (.cells #[↑W,↑H,↑(ZZ (w1.heap.size+1) n n)] 56)).alloc (.cells (Yw (ZM n 0)).toArray 5)).drew) (w.heap.size+1) 56 _:=((HH.out.2.1.alloc _).alloc _).drew;have hM:Mod ↑ZW w (((w1.alloc (.cells #[↑W,↑H,↑(ZZ (w1.heap.size+1) n n)] 56)).alloc (.cells (Yw (ZM n 0)).toArray 5)).drew):=((HH.out.2.2.alloc _).alloc _).drew;have hs1:=HH.out.2.2.size;have akp:=HH.out.2.1.lt;generalize ((w1.alloc (.cells #[↑W,↑H,↑(ZZ (w1.heap.size+1) n n)] 56)).alloc (.cells (Yw (ZM n 0)).toArray 5)).drew=w2 at *;clear Dv c0 c1 c2 HH;obtain⟨g,Dt⟩:=ZL (w1.heap.size+1);obtain⟨pq,xC⟩:=ZL (w1.heap.size);obtain⟨pi,aA⟩:=ZL (w.heap.size);obtain⟨res,hres⟩:=ZL (w.heap.size+1);rw [<-Dt]at hg hq ⊢;rw [<-xC]at hq ⊢;rw [<-hres]at hr ⊢;rw [<-aA]at hp ⊢;have n1:res≠g:=Z8;have n2:res≠pq:=Z8;have n3:g≠pq:=Z8;have n4:w.heap.size<=res:=Z8;have n5:w.heap.size<=g:=Z8;have k2:w2.cell? ⟨pi,2,none⟩=some (.slice A n c):=hp.cell 2;have k3:w2.cell? ⟨pq,2,none⟩=some ↑(ZZ g n n):=hq.cell 2;have Vr:=OO.out.quiet hM;have x1:0+n<=(Yw (ZM n 0)).length:=by simp [Yw]
  have HF:=Z5 hg (Z9 hq (Z9 hr (Z9 hM (Z9 Vr x1))));clear hg hq hr hM hp Vr Dt xC aA hres x1 hl;go_upto_region 3 with(refine Rw rfl (.tmp 14) (.tmp 16) _ _ rfl 5 underlying54 ZR (some ⟨g,0,none⟩) n n A n c (Yw ZJ) rfl rfl HF.out.2.2.2.2.1.2.2.1 g 0 _ 5 HF.out.1 n (Nat.min_self _).symm (fun _=>rfl) HF.out.2.2.2.2.2 (Pg ZJ) ?_;intro w3 hb3 X7;have Kl:=Z5 hb3 X7;clear hb3 X7)
  have hg3:ZI w3 g 5 (Yw ZJ).toArray:=by
   have h:=Kl.out.1;have hl:=HF.out.2.2.2.2.1.1;have e:splice (Yw (ZM n 0)) 0 ((Yw ZJ).take n)=Yw ZJ:=by
    rw [Zt (by rw [YG];omega)];unfold splice;rw [We (by simp [Yw];omega)];simp
   rwa [e]at h
  have uI:=HF.out.2.1.keep Kl.out.2 (fun h=>n3 h.symm);have hr3:=HF.out.2.2.1.keep Kl.out.2 n1;have JA:Mod ↑ZW w w3:=HF.out.2.2.2.1.into Kl.out.2 (fun i e=>.inr Z8);obtain⟨hqc,hqf⟩:=uI.both;obtain⟨jO,hrf⟩:=hr3.both;have Lr:=hr3.lt;have HB:=Z5 hg3 JA;clear hg3 uI hr3 JA Kl k2 k3;go_wp2_with fail;refine bodyPost_ret (v:=.agg #[↑W,↑H,↑(ZZ g n n)]) (by simp [results,results218,go_sem,jO]) rfl ⟨g,rfl,?_,n5,?_⟩
  ·have hg:=HB.out.1;exact(by repeat' (first|with_reducible exact hg|with_reducible refine Sc ?_ n1.symm _))
  ·have hM:=HB.out.2;exact(by repeat' (first|with_reducible exact hM|with_reducible refine Mod.setCell ?_ (.inr n4) _))
structure Yz where
 W:Nat
 H:Nat
 W2:Nat
 H2:Nat
 nY:Nat
 nC:Nat
structure Yz.Ok(d:Yz):Prop where
 sides:Yx d.W d.H=true
 jm:d.W % 16=0
 h16:d.H % 16=0
 w2:d.W=2*d.W2
 h2:d.H=2*d.H2
 ny:d.nY=d.W*d.H
 nc:d.nC=d.W2*d.H2
theorem Yz.Ok.half{d:Yz}(h:d.Ok):Yx d.W2 d.H2=true:=by
 have a:=h.sides;unfold Yx at *;rw [decide_eq_true_eq]at *;have:=h.jm;have:=h.h16;have:=h.w2;have:=h.h2;omega
def YF(d:Yz)(gy gu gv:Nat):List Value:=
 [↑d.W,↑d.H,↑(ZZ gy d.nY d.nY),↑d.W2,↑d.H2,↑(ZZ gu d.nC d.nC),↑d.W2,↑d.H2,↑(ZZ gv d.nC d.nC)]
structure Yy where
 Y:List UInt8
 U:List UInt8
 V:List UInt8
structure WN(w:World)(d:Yz)(gy gu gv:Nat)(f:Yy):Prop where
 Ff:ZI w gy 5 (Yw f.Y).toArray
 bu:ZI w gu 5 (Yw f.U).toArray
 bv:ZI w gv 5 (Yw f.V).toArray
 ly:f.Y.length=d.nY
 lu:f.U.length=d.nC
 lv:f.V.length=d.nC
 yu:gy≠gu
 yv:gy≠gv
 uv:gu≠gv
theorem WN.mod{w w':World}{S:Nat->Prop}{d:Yz}{gy gu gv:Nat}{f:Yy}(h:WN w d gy gu gv f)(hm:Mod S w w')(h1:¬S gy)(h2:¬S gu)(h3:¬S gv):WN w' d gy gu gv f:=
 ⟨h.Ff.keep hm h1,h.bu.keep hm h2,h.bv.keep hm h3,h.ly,h.lu,h.lv,h.yu,h.yv,h.uv⟩
theorem WN.quiet{w w':World}{d:Yz}{gy gu gv:Nat}{f:Yy}(h:WN w d gy gu gv f)(hm:Mod ↑ZW w w'):WN w' d gy gu gv f:=h.mod hm (fun h=>h) (fun h=>h) (fun h=>h)
def YC(d:Yz)(v:UInt8):Yy:=⟨ZM d.nY v,ZM d.nC v,ZM d.nC v⟩
def Qn(w:World)(d:Yz)(f:Yy)(v:Value)(w':World):Prop:=
 ∃gy gu gv,v=.agg (YF d gy gu gv).toArray/\WN w' d gy gu gv f/\w.heap.size<=gy/\w.heap.size<=gu/\w.heap.size<=gv
def Ak(w:World)(d:Yz)(v:UInt8)(e:Ending)(w':World):Prop:=∃p,e=.returned (.tuple #[p,↑Z0])/\Qn w d (YC d v) p w'/\Mod ↑ZW w w'
def Ap(w:World)(W H n:Nat)(v:UInt8)(e:Ending)(w':World):Prop:=
 ∃g,e=.returned (.tuple #[.agg #[↑W,↑H,↑(ZZ g n n)],↑Z0])/\ZI w' g 5 (Yw (ZM n v)).toArray/\w.heap.size<=g/\Mod ↑ZW w w'
theorem oz(w:World)(W H n:Nat)(v:UInt8)(h:Yx W H=true)(hn:n=W*H):Calls prog 90 #[↑W,↑H,.int .u8 (v.toNat:Int)] w (Ap w W H n v):=by
 refine(akg w W H v h).mono ?_;rintro e w' ⟨p,rfl,⟨g,rfl,hb,_,hg⟩,hm⟩;rw [<-hn]at hb ⊢;exact⟨g,rfl,hb,hg,hm⟩
theorem ow(w:World)(d:Yz)(hd:d.Ok)(v:UInt8):Calls prog 46 #[↑d.W,↑d.H,.int .u8 (v.toNat:Int)] w (Ak w d v):=by
 have hh:=hd.half;obtain⟨a1,a2,a3,a4,a5,a6⟩:=YB hd.sides;have qD:=hd.jm;have qx:=hd.h16;have m1:((d.W:Int) % 16 != 0)=false:=by simp;omega
 have m2:((d.H:Int) % 16 != 0)=false:=by simp;omega
 have q1:(d.W:Int)/2=(d.W2:Int):=by have:=hd.w2;omega
 have q2:(d.H:Int)/2=(d.H2:Int):=by have:=hd.h2;omega
 have HD:=Z5 hd (Z9 hh (Z9 q1 q2));clear hd hh qD qx q1 q2 a1 a6;go_enter func46,ntmps46;go_wp2_with fail;refine YH (Jl _ d.W d.H HD.out.1.sides) ?_;go_wp2_with fail;have vP:ZI ((w.alloc (.cells ↑WK 58)).alloc (.cells ↑WK 58)) w.heap.size 58 ↑WK:=(Zn _ _ _).alloc _;have ed:ZI ((w.alloc (.cells ↑WK 58)).alloc (.cells ↑WK 58)) (w.heap.size+1) 58 ↑WK:=by
  have h:=Zn (w.alloc (.cells ↑WK 58)) 58 ↑WK;simpa using h
 have M0:Mod ↑ZW w ((w.alloc (.cells ↑WK 58)).alloc (.cells ↑WK 58)):=((Mod.refl _ _).alloc _).alloc _;generalize ((w.alloc (.cells ↑WK 58)).alloc (.cells ↑WK 58))=w0 at *;have hs0:=M0.size;obtain⟨res,hres⟩:=ZL (w.heap.size);obtain⟨fb,Px⟩:=ZL (w.heap.size+1);rw [<-Px]at ed ⊢;rw [<-hres]at vP ⊢;have n1:res≠fb:=Z8;have n2:w.heap.size<=res:=Z8;have n3:w.heap.size<=fb:=Z8;have rl:=vP.lt;have fl:=ed.lt;clear Px hres;have Am:=Z5 vP (Z9 ed M0);clear vP ed M0;refine(oz _ d.W d.H d.nY v HD.out.1.sides HD.out.1.ny).mono ?_;rintro e w2 ⟨gy,rfl,by2,gy2,Y3⟩;have hr2:=Am.out.1.keep Y3 (fun h=>h);have hf2:=Am.out.2.1.keep Y3 (fun h=>h);obtain⟨fc,ff⟩:=hf2.both;have fl2:=hf2.lt;have M2:=Am.out.2.2.trans Y3;have aiS:ZI (((w2.setCell ⟨fb,0,none⟩ ↑d.W).setCell ⟨fb,1,none⟩ ↑d.H).setCell ⟨fb,2,none⟩ ↑(ZZ gy d.nY d.nY)) fb 58 #[↑d.W,↑d.H,↑(ZZ gy d.nY d.nY),↑Z0,↑Z0,↑Zd,↑Z0,↑Z0,↑Zd]:=((hf2.UY 0 _).UY 1 _).UY 2 _;have ajt:=((by2.far (p:=⟨fb,0,none⟩) (by dsimp;omega) ↑d.W).far (p:=⟨fb,1,none⟩) (by dsimp;omega) ↑d.H).far (p:=⟨fb,2,none⟩) (by dsimp;omega) ↑(ZZ gy d.nY d.nY);have ait:=((hr2.far (p:=⟨fb,0,none⟩) n1 ↑d.W).far (p:=⟨fb,1,none⟩) n1 ↑d.H).far (p:=⟨fb,2,none⟩) n1 ↑(ZZ gy d.nY d.nY);have M2':=((M2.setCell (p:=⟨fb,0,none⟩) (.inr n3) ↑d.W).setCell (p:=⟨fb,1,none⟩) (.inr n3) ↑d.H).setCell (p:=⟨fb,2,none⟩) (.inr n3) ↑(ZZ gy d.nY d.nY);have GM:=Z5 ait (Z9 aiS (Z9 ajt M2'));have hgy:fb<gy:=Z8;clear hr2 hf2 by2 M2 Y3 ait aiS ajt M2' Am;have q1:=HD.out.2.2.1;have q2:=HD.out.2.2.2;go_wp2_with fail;clear q1 q2 fc ff fl2;generalize (((w2.setCell ⟨fb,0,none⟩ ↑d.W).setCell ⟨fb,1,none⟩ ↑d.H).setCell ⟨fb,2,none⟩ ↑(ZZ gy d.nY d.nY))=w3 at *;have hs3:=GM.out.2.2.2.size;have gyl:=GM.out.2.2.1.lt;refine(oz _ d.W2 d.H2 d.nC v HD.out.2.1 HD.out.1.nc).mono ?_;rintro e w4 ⟨gu,rfl,bu4,gu4,Xl⟩;have hr4:=GM.out.1.keep Xl (fun h=>h);have hf4:=GM.out.2.1.keep Xl (fun h=>h);have by4:=GM.out.2.2.1.keep Xl (fun h=>h);have M4:=GM.out.2.2.2.trans Xl;have fl3:=GM.out.2.1.lt;obtain⟨fc,ff⟩:=hf4.both;have fl4:=hf4.lt;have jq:=Z5 hr4 (Z9 hf4 (Z9 by4 (Z9 M4 bu4)));clear hr4 hf4 by4 M4 Xl bu4 GM;have q1:=HD.out.2.2.1;have q2:=HD.out.2.2.2;go_wp2_with fail;clear q1 q2 fc ff fl4;have hf5:=((jq.out.2.1.UY 3 ↑d.W2).UY 4 ↑d.H2).UY 5 ↑(ZZ gu d.nC d.nC);have by5:=((jq.out.2.2.1.far (p:=⟨fb,3,none⟩) (by dsimp;omega) ↑d.W2).far (p:=⟨fb,4,none⟩) (by dsimp;omega) ↑d.H2).far (p:=⟨fb,5,none⟩) (by dsimp;omega) ↑(ZZ gu d.nC d.nC);have bu5:=((jq.out.2.2.2.2.far (p:=⟨fb,3,none⟩) (by dsimp;omega) ↑d.W2).far (p:=⟨fb,4,none⟩) (by dsimp;omega) ↑d.H2).far (p:=⟨fb,5,none⟩) (by dsimp;omega) ↑(ZZ gu d.nC d.nC);have pE:=((jq.out.1.far (p:=⟨fb,3,none⟩) n1 ↑d.W2).far (p:=⟨fb,4,none⟩) n1 ↑d.H2).far (p:=⟨fb,5,none⟩) n1 ↑(ZZ gu d.nC d.nC);have M5:=((jq.out.2.2.2.1.setCell (p:=⟨fb,3,none⟩) (.inr n3) ↑d.W2).setCell (p:=⟨fb,4,none⟩) (.inr n3) ↑d.H2).setCell (p:=⟨fb,5,none⟩) (.inr n3) ↑(ZZ gu d.nC d.nC);have aiR:ZI (((w4.setCell ⟨fb,3,none⟩ ↑d.W2).setCell ⟨fb,4,none⟩ ↑d.H2).setCell ⟨fb,5,none⟩ ↑(ZZ gu d.nC d.nC)) fb 58 #[↑d.W,↑d.H,↑(ZZ gy d.nY d.nY),↑d.W2,↑d.H2,↑(ZZ gu d.nC d.nC),↑Z0,↑Z0,↑Zd]:=hf5;have GH:=Z5 pE (Z9 aiR (Z9 by5 (Z9 M5 bu5)));clear hf5 aiR by5 bu5 pE M5;have hgu:gy<gu:=Z8;generalize (((w4.setCell ⟨fb,3,none⟩ ↑d.W2).setCell ⟨fb,4,none⟩ ↑d.H2).setCell ⟨fb,5,none⟩ ↑(ZZ gu d.nC d.nC))=w5 at *;have gul:=GH.out.2.2.2.2.lt;refine(oz _ d.W2 d.H2 d.nC v HD.out.2.1 HD.out.1.nc).mono ?_;rintro e w6 ⟨gv,rfl,bv6,gv6,Xt⟩;have hgv:gu<gv:=Z8;have hr6:=GH.out.1.keep Xt (fun h=>h);have eu:=GH.out.2.1.keep Xt (fun h=>h);have by6:=GH.out.2.2.1.keep Xt (fun h=>h);have bu6:=GH.out.2.2.2.2.keep Xt (fun h=>h);have M6:=GH.out.2.2.2.1.trans Xt;obtain⟨fc,ff⟩:=eu.both;obtain⟨rc,rf⟩:=hr6.both;have fl6:=eu.lt;have rl6:=hr6.lt;have jX:=Z5 by6 (Z9 bu6 (Z9 bv6 M6));clear hr6 eu by6 bu6 bv6 M6 Xt GH jq;go_wp2_with fail;refine bodyPost_ret (v:=.tuple #[.agg (YF d gy gu gv).toArray,↑Z0]) (by simp [results,results46,go_sem,rc,YF]) rfl ⟨_,rfl,⟨gy,gu,gv,rfl,⟨?_,?_,?_,by simp [YC],by simp [YC],by simp [YC],Z8,Z8,Z8⟩,Z8,Z8,Z8⟩,?_⟩
 ·have h:ZI w6 gy 5 (Yw (YC d v).Y).toArray:=jX.out.1;have k1:gy≠res:=Z8;have k2:gy≠fb:=Z8;exact(by repeat' (first|with_reducible exact h|with_reducible refine Sc ?_ k1 _|with_reducible refine Sc ?_ k2 _))
 ·have h:ZI w6 gu 5 (Yw (YC d v).U).toArray:=jX.out.2.1;have k1:gu≠res:=Z8;have k2:gu≠fb:=Z8;exact(by repeat' (first|with_reducible exact h|with_reducible refine Sc ?_ k1 _|with_reducible refine Sc ?_ k2 _))
 ·have h:ZI w6 gv 5 (Yw (YC d v).V).toArray:=jX.out.2.2.1;have k1:gv≠res:=Z8;have k2:gv≠fb:=Z8;exact(by repeat' (first|with_reducible exact h|with_reducible refine Sc ?_ k1 _|with_reducible refine Sc ?_ k2 _))
 ·have h:=jX.out.2.2.2;exact(by repeat' (first|with_reducible exact h|with_reducible refine Mod.setCell ?_ (.inr n2) _|with_reducible refine Mod.setCell ?_ (.inr n3) _))
theorem UF{w:World}{g n:Nat}{L:List UInt8}(h:ZI w g 5 (Yw L).toArray)(hl:L.length=n)(hn:n<=16777216):BytesIn w (some ↑g) n n L:=by
 subst hl;exact(Bytes.DW (Nat.zero_le _) h (by unfold maxLen;omega)).RU
theorem Yz.Ok.zZ{d:Yz}(h:d.Ok):d.nY<=16777216:=by rw [h.ny];exact(YB h.sides).1
theorem Yz.Ok.Lt{d:Yz}(h:d.Ok):d.nC<=16777216:=by rw [h.nc];exact(YB h.half).1
theorem af2(w:World)(d:Yz)(hd:d.Ok)(gy gu gv:Nat):Calls prog 60 #[.agg (YF d gy gu gv).toArray] w fun e w'=>e=.returned (.bool true)/\Mod ↑ZW w w':=by
 unfold YF;have HD:=Z7 hd;obtain⟨_,b1,b2,b3,b4,_⟩:=YB hd.sides;obtain⟨_,b5,b6,b7,b8,_⟩:=YB hd.half;have m1:((d.W:Int) % 16 == 0)=true:=by have:=hd.jm;simp;omega
 have m2:((d.H:Int) % 16 == 0)=true:=by have:=hd.h16;simp;omega
 have q1:(d.W:Int)/2=(d.W2:Int):=by have:=hd.w2;omega
 have q2:(d.H:Int)/2=(d.H2:Int):=by have:=hd.h2;omega
 have HM:=Z5 m1 (Z9 m2 (Z9 q1 q2));clear hd m1 m2 q1 q2;have h0:=(Sat.nil ↑ZW w)
 go_enter func60,ntmps60;go_wp2_with fail;refine YX (Ru _ d.W d.H _ d.nY _ HD.out.sides HD.out.ny) fun w1 Y6=>?_;have HS:=Sat.after Y6 (h0.alloc _ _ rfl);clear Y6 h0;obtain⟨pc,pf⟩:=(HS.ZX 0 rfl).both;have H1:=Z7 HS;clear HS;go_wp2_with fail;refine YX (Ru _ d.W2 d.H2 _ d.nC _ HD.out.half HD.out.nc) fun w2 Y3=>?_;have HS:=H1.out.quiet Y3;clear Y3 pc pf H1;obtain⟨pc,pf⟩:=(HS.ZX 0 rfl).both;have H1:=Z7 HS;clear HS;go_wp2_with fail;refine YX (Ru _ d.W2 d.H2 _ d.nC _ HD.out.half HD.out.nc) fun w3 X7=>?_;have HS:=H1.out.quiet X7;clear X7 pc pf H1;obtain⟨pc,pf⟩:=(HS.ZX 0 rfl).both;have H1:=Z7 HS;clear HS;obtain⟨m1,m2,q1,q2⟩:=HM.out;go_wp2_with fail;go_ret;exact⟨rfl,H1.out.mod⟩
def FO(q:Nat)(d:Yz)(f:Yy):Yy:=⟨Rv q d.W d.H f.Y,Rv q d.W2 d.H2 f.U,Rv q d.W2 d.H2 f.V⟩
def acG(w:World)(d:Yz)(f:Yy)(e:Ending)(w':World):Prop:=∃p,e=.returned (.tuple #[p,↑Z0])/\Qn w d f p w'/\Mod ↑ZW w w'
theorem yZ(w:World)(W H:Nat)(A:Option Addr)(n c:Nat)(ZJ:List UInt8)(q:Nat)(h:Yx W H=true)(hn:n=W*H)(YZ:BytesIn w A n c ZJ)(hq:q<=31):
  Calls prog 217 #[.agg #[↑W,↑H,.slice A n c],↑q] w
   fun e w'=>∃g,e=.returned (.tuple #[.agg #[↑W,↑H,↑(ZZ g n n)],↑Z0])/\ZI w' g 5 (Yw (Rv q W H ZJ)).toArray/\w.heap.size<=g/\Mod ↑ZW w w':=by
 subst hn;exact agX w W H A _ c ZJ q h rfl YZ hq
theorem agY(w:World)(d:Yz)(hd:d.Ok)(gy gu gv:Nat)(f:Yy)(q:Nat)(hq:q<=31)(hf:WN w d gy gu gv f):Calls prog 154 #[.agg (YF d gy gu gv).toArray,↑q] w (acG w d (FO q d f)):=by
 have HC:=af2 ((w.alloc (.cells (YF d gy gu gv).toArray 58)).alloc (.cells ↑WK 58)) d hd gy gu gv;unfold YF at HC ⊢;have HD:=Z5 hd hf;clear hd hf;have h0:=(Sat.nil ↑ZW w)
 go_enter func154,ntmps154;go_wp2_with fail;refine HC.mono ?_;clear HC;rintro e w1 ⟨rfl,Y6⟩;have HS:=Sat.after Y6 ((h0.alloc _ _ rfl).alloc (g:=w.heap.size+1) _ _ Ze);clear Y6 h0;have H1:=Z7 HS;clear HS;go_wp2_with fail;refine YH (F9 _ q hq) ?_;obtain⟨pc,pf⟩:=(H1.out.ZX 1 rfl).both;have hs1:w.heap.size+2<=w1.heap.size:=(H1.out.ZX 0 rfl).lt;have n1:w.heap.size<w1.heap.size:=Z8;have XZ:=H1.out.alloc 58 ↑WK rfl;obtain⟨ob,TY⟩:=ZL (w1.heap.size);rw [<-TY]at XZ;have G1:=Z7 XZ;clear XZ;go_wp2_with fail;rw [<-TY];refine(yZ _ d.W d.H _ d.nY _ f.Y q HD.out.1.sides HD.out.1.ny (UF (HD.out.2.quiet G1.out.mod).Ff HD.out.2.ly HD.out.1.zZ) hq).mono ?_;rintro e w2 ⟨g1,rfl,hb1,hg1,Y6⟩;have HS:=Sat.grew Y6 G1.out hb1 hg1;clear hb1 Y6 pc pf H1 G1 TY n1 hs1;obtain⟨pc,pf⟩:=(HS.ZX 3 rfl).both;obtain⟨oc,of⟩:=(HS.ZX 1 rfl).both;have n1:=HS.apart 1 3 rfl rfl Z8;have n2:=HS.apart 1 2 rfl rfl Z8;have n3:=HS.apart 2 3 rfl rfl Z8;dsimp only at n1 n2 n3;have ol:=(HS.ZX 1 rfl).lt;have pl:=(HS.ZX 3 rfl).lt;have rl:=(HS.ZX 2 rfl).lt;have V4:=(((HS).put (g:=ob) (i:=0) (u:=↑d.W) (.there (.here rfl))).put (g:=ob) (i:=1) (u:=↑d.H) (.there (.here rfl))).put (g:=ob) (i:=2) (u:=↑(ZZ g1 d.nY d.nY)) (.there (.here rfl));have G:=Z7 V4;clear HS V4;go_wp2_with fail;refine(yZ _ d.W2 d.H2 _ d.nC _ f.U q HD.out.1.half HD.out.1.nc (UF (HD.out.2.quiet G.out.mod).bu HD.out.2.lu HD.out.1.Lt) hq).mono ?_;rintro e w3 ⟨g2,rfl,hb1,hg2,Y6⟩;have HS:=Sat.grew Y6 G.out hb1 hg2;clear hb1 Y6 pc pf oc of n1 n2 n3 ol pl rl G;obtain⟨pc,pf⟩:=(HS.ZX 4 rfl).both;obtain⟨oc,of⟩:=(HS.ZX 2 rfl).both;have n1:=HS.apart 2 4 rfl rfl Z8;have n2:=HS.apart 2 3 rfl rfl Z8;have n3:=HS.apart 3 4 rfl rfl Z8;dsimp only at n1 n2 n3;have ol:=(HS.ZX 2 rfl).lt;have pl:=(HS.ZX 4 rfl).lt;have rl:=(HS.ZX 3 rfl).lt;have V4:=(((HS).put (g:=ob) (i:=3) (u:=↑d.W2) (.there (.there (.here rfl)))).put (g:=ob) (i:=4) (u:=↑d.H2) (.there (.there (.here rfl)))).put (g:=ob) (i:=5) (u:=↑(ZZ g2 d.nC d.nC)) (.there (.there (.here rfl)));have G:=Z7 V4;clear HS V4;go_wp2_with fail;refine(yZ _ d.W2 d.H2 _ d.nC _ f.V q HD.out.1.half HD.out.1.nc (UF (HD.out.2.quiet G.out.mod).bv HD.out.2.lv HD.out.1.Lt) hq).mono ?_;rintro e w4 ⟨g3,rfl,hb1,hg3,Y6⟩;have HS:=Sat.grew Y6 G.out hb1 hg3;clear hb1 Y6 pc pf oc of n1 n2 n3 ol pl rl G;obtain⟨pc,pf⟩:=(HS.ZX 5 rfl).both;have Dy:ZI w4 ob 58 #[↑d.W,↑d.H,↑(ZZ g1 d.nY d.nY),↑d.W2,↑d.H2,↑(ZZ g2 d.nC d.nC),↑Z0,↑Z0,↑Zd]:=HS.ZX 3 rfl;obtain⟨oc,of⟩:=Dy.both;obtain⟨rc,rf⟩:=(HS.ZX 4 rfl).both;have n1:=HS.apart 3 5 rfl rfl Z8;have n2:=HS.apart 3 4 rfl rfl Z8;have n3:=HS.apart 4 5 rfl rfl Z8;dsimp only at n1 n2 n3;have ol:=(HS.ZX 3 rfl).lt;have pl:=(HS.ZX 5 rfl).lt;have rl:=(HS.ZX 4 rfl).lt;have V4:=(((HS).put (g:=ob) (i:=6) (u:=↑d.W2) (.there (.there (.there (.here rfl))))).put (g:=ob) (i:=7) (u:=↑d.H2) (.there (.there (.there (.here rfl))))).put (g:=ob) (i:=8) (u:=↑(ZZ g3 d.nC d.nC)) (.there (.there (.there (.here rfl))));have G:=Z7 V4;clear HS V4;clear Dy pc pf;go_wp2_with fail;have HE:=(((((((((G.out).put (g:=w.heap.size+1) (i:=0) (u:=↑d.W) (.there (.there (.there (.there (.here rfl)))))).put (g:=w.heap.size+1) (i:=1) (u:=↑d.H) (.there (.there (.there (.there (.here rfl)))))).put (g:=w.heap.size+1) (i:=2) (u:=↑(ZZ g1 d.nY d.nY)) (.there (.there (.there (.there (.here rfl)))))).put (g:=w.heap.size+1) (i:=3) (u:=↑d.W2) (.there (.there (.there (.there (.here rfl)))))).put (g:=w.heap.size+1) (i:=4) (u:=↑d.H2) (.there (.there (.there (.there (.here rfl)))))).put (g:=w.heap.size+1) (i:=5) (u:=↑(ZZ g2 d.nC d.nC)) (.there (.there (.there (.there (.here rfl)))))).put (g:=w.heap.size+1) (i:=6) (u:=↑d.W2) (.there (.there (.there (.there (.here rfl)))))).put (g:=w.heap.size+1) (i:=7) (u:=↑d.H2) (.there (.there (.there (.there (.here rfl)))))).put (g:=w.heap.size+1) (i:=8) (u:=↑(ZZ g3 d.nC d.nC)) (.there (.there (.there (.there (.here rfl)))));have h1:=HE.ZX 2 rfl;have h2:=HE.ZX 1 rfl;have h3:=HE.ZX 0 rfl;dsimp only at h1 h2 h3;have l1:w.heap.size<=g1:=HE.low 2 rfl;have l2:w.heap.size<=g2:=HE.low 1 rfl;have l3:w.heap.size<=g3:=HE.low 0 rfl;have a12:g2≠g1:=HE.apart 1 2 rfl rfl Z8;have a13:g3≠g1:=HE.apart 0 2 rfl rfl Z8;have a23:g3≠g2:=HE.apart 0 1 rfl rfl Z8;have HM:=HE.mod;clear HE;refine bodyPost_ret (v:=.tuple #[.agg (YF d g1 g2 g3).toArray,↑Z0]) (by simp [results,results154,go_sem,rc,YF]) rfl ⟨_,rfl,⟨g1,g2,g3,rfl,?_,l1,l2,l3⟩,HM⟩;exact⟨h1,h2,h3,Um.trans HD.out.2.ly,Um.trans HD.out.2.lu,Um.trans HD.out.2.lv,a12.symm,a13.symm,a23.symm⟩
theorem Qh(W:Nat)(ZJ:List UInt8)(x y m:Nat):(TQ W ZJ x y m).length=64:=by simp [TQ]
theorem SG(W H:Nat)(ZJ:List UInt8)(x y:Int)(n:Nat)(vx vy:Int):(xP W H ZJ x y n vx vy).length=n*n:=by simp [xP]
def QE(W H:Nat)(ZJ:List UInt8)(x y pl:Nat)(vx vy:Int):List UInt8:=xP W H ZJ x y 8 (if 0<pl then vx/2 else vx) (if 0<pl then vy/2 else vy)
theorem Nu(W H:Nat)(ZJ:List UInt8)(x y pl:Nat)(vx vy:Int):(QE W H ZJ x y pl vx vy).length=64:=by unfold QE;rw [SG]
def Ph(l:List Int):List Int:=Ch 4 (Ch 2 (Ch 1 l))
theorem OT(l:List Int):(Ph l).length=l.length:=by simp [Ph,Ch,Js]
theorem G6{M:Int}{l:List Int}(h:Within M l):Within (27*M+13) (Ph l):=by
 have w1:=MU _ 1 l h 1;have w2:=MU _ 2 _ w1 2;have w3:=MU _ 4 _ w2 4;intro i;have:=w3 i;simp only [Ph,Ch];omega
theorem kZ(w:World)(g nb:Nat)(l:List Int)(hl:l.length=8)(hM:Within 1099511627776 l)(hb:ZI w g 482 (Y4 l).toArray)(hn:ZI w nb 3 #[.int .i64 8]):
  Calls prog 406 #[↑(ZC g 0),↑(ZC nb 0)] w fun e w'=>e=.returned (.tuple #[])/\ZI w' g 482 (Y4 (Ph l)).toArray/\Mod (·=g) w w':=by
 obtain⟨hc,hf⟩:=hn.both;have HB:=Z7 hb;clear hb hn;go_enter func406,ntmps406;go_wp2_with fail;refine(adm _ g l hl hM HB.out).mono ?_;rintro e w1 ⟨rfl,hb1,Y6⟩;have HF:=Z5 hb1 Y6;clear hb1 Y6;go_wp2_with fail;go_end0
 exact⟨rfl,HF.out⟩
def Tt(x:Nat)(L:List Int):List Int:=(List.range 8).map fun y=>L.getD (y*8+x) 0
theorem VO(x:Nat)(L:List Int):(Tt x L).length=8:=by simp [Tt]
theorem L6(x:Nat)(L:List Int)(y:Nat)(hy:y<8):(Tt x L).getD y 0=L.getD (y*8+x) 0:=by
 simp [Tt,Z6,hy]
theorem OW{M:Int}{L:List Int}(h:Within M L)(h0:0<=M)(x:Nat):Within M (Tt x L):=by
 intro y;by_cases hy:y<8
 ·rw [L6 x L y hy];exact h _
 ·have:(Tt x L).getD y 0=0:=by rw [Z6,Zi (by rw [VO];omega)];rfl
  rw [this];omega
def Hr(c:List Int):Nat->List Int
 | 0=>[0,0,0,0,0,0,0,0]
 | y+1=>(Hr c y).set y (c.getD y 0)
theorem Ht(c:List Int)(y:Nat):(Hr c y).length=8:=by
 induction y with
 | zero=>rfl
 | succ y ih=>simp [Hr,ih]
theorem eight(c:List Int)(h:c.length=8):c=[c.getD 0 0,c.getD 1 0,c.getD 2 0,c.getD 3 0,c.getD 4 0,c.getD 5 0,c.getD 6 0,c.getD 7 0]:=by
 match c,h with
 | [_,_,_,_,_,_,_,_],_=>rfl
theorem Bb(c:List Int)(h:c.length=8):Hr c 8=c:=by
 rw [eight c h];rfl
def F8(x:Nat)(c L:List Int):Nat->List Int
 | 0=>L
 | y+1=>(F8 x c L y).set (y*8+x) (c.getD y 0)
theorem PR(x:Nat)(c L:List Int)(y:Nat):(F8 x c L y).length=L.length:=by
 induction y with
 | zero=>rfl
 | succ y ih=>simp [F8,ih]
def Ry(L:List Int):Nat->List Int
 | 0=>L
 | x+1=>F8 x (Ph (Tt x (Ry L x))) (Ry L x) 8
theorem Si(L:List Int)(x:Nat):(Ry L x).length=L.length:=by
 induction x with
 | zero=>rfl
 | succ x ih=>simp [Ry,PR,ih]
theorem AL(x:Nat)(c L:List Int)(hL:L.length=64)(hx:x<8)(n y x':Nat)(hn:n<=8)(hx':x'<8)(hy:y<8):
  (F8 x c L n).getD (y*8+x') 0=if x'=x/\y<n then c.getD y 0 else L.getD (y*8+x') 0:=by
 induction n with
 | zero=>simp [F8]
 | succ n ih=>
  rw [F8,KI,PR,ih Z8];by_cases e:n*8+x=y*8+x'
  ·obtain⟨rfl,rfl⟩:n=y/\x=x':=Z8;rw [if_pos ⟨rfl,Z8⟩,if_pos ⟨rfl,Z8⟩]
  ·rw [if_neg (fun h=>e h.1)];by_cases e2:x'=x/\y<n
   ·rw [if_pos e2,if_pos ⟨e2.1,Z8⟩]
   ·rw [if_neg e2,if_neg (fun h=>e2 ⟨h.1,Z8⟩)]
theorem CX(L:List Int)(hL:L.length=64)(n y x:Nat)(hn:n<=8)(hx:x<8)(hy:y<8):
  (Ry L n).getD (y*8+x) 0=if x<n then(Ph (Tt x L)).getD y 0 else L.getD (y*8+x) 0:=by
 induction n generalizing x y with
 | zero=>simp [Ry]
 | succ n ih=>
  rw [Ry,AL n _ _ (by rw [Si];exact hL) Z8 8 y x Z8 hx hy,ih y x Z8 hx hy];by_cases e:x=n
  ·subst e;rw [if_pos ⟨rfl,hy⟩,VI];congr 2;unfold Tt;apply List.map_congr_left;intro a ha;rw [ih a x Z8 hx (by simpa using ha),Xb]
  ·rw [if_neg (fun h=>e h.1)];by_cases e2:x<n
   ·rw [if_pos e2,VI]
   ·rw [if_neg e2,Xb]
theorem Kj{M:Int}{L:List Int}(hL:L.length=64)(h:∀y<8,∀x<8,-M<=L.getD (y*8+x) 0/\L.getD (y*8+x) 0<=M)(h0:0<=M):Within M L:=by
 intro i;by_cases hi:i<64
 ·have:=h (i/8) Z8 (i % 8) Z8;rwa [show i/8*8+i % 8=i by omega]at this
 ·have:L.getD i 0=0:=by rw [Z6,Zi Z8];rfl
  rw [this];omega
theorem Hl{M:Int}{L:List Int}(hL:L.length=64)(h:Within M L)(h0:0<=M)(n:Nat)(hn:n<=8):Within (27*M+13) (Ry L n):=by
 refine Kj (by rw [Si];exact hL) (fun y hy x hx=>?_) Z8;rw [CX L hL n y x hn hx hy];split
 ·exact G6 (OW h h0 x) y
 ·have:=h (y*8+x);omega
theorem Lb{w:World}{r:Nat}{t:TypeId}{L:List Int}{tl:List Value}(hb:ZI w r t (Y4 L++tl).toArray)(i:Nat)(hi:i<L.length):w.cell? ⟨r,i,none⟩=some (.int .i64 (L.getD i 0)):=by
 rw [hb.cell,Zo,Zv (by rw [XR];exact hi)];exact VX L i hi
theorem tJ{w:World}{r:Nat}{t:TypeId}{L:List Int}{tl:List Value}(hb:ZI w r t (Y4 L++tl).toArray)(i:Nat)(hi:i<L.length)(x:Int):ZI (w.setCell ⟨r,i,none⟩ ↑x) r t (Y4 (L.set i x)++tl).toArray:=by
 have:=hb.UY i ↑x;have e:(Y4 L++tl).toArray.setIfInBounds i ↑x=(Y4 (L.set i x)++tl).toArray:=by
  simp only [List.setIfInBounds_toArray,Y4,WU];rw [List.set_append_left _ _ (by simpa using hi)]
 rwa [e]at this
def afa(w:World)(r nb:Nat)(L:List Int)(tl:List Value)(v:Value)(wr:World):Prop:=
 ∃x:Nat,x<=8/\v=↑x/\ZI wr r 3 (Y4 (Ry L x)++tl).toArray/\ZI wr nb 3 #[.int .i64 8]/\Mod (·=r) w wr
def rV(w:World)(r nb g:Nat)(c L:List Int)(tl:List Value)(v:Value)(wi:World):Prop:=
 ∃y:Nat,y<=8/\v=↑y/\ZI wi g 482 (Y4 (Hr c y)).toArray/\ZI wi r 3 (Y4 L++tl).toArray/\ZI wi nb 3 #[.int .i64 8]/\Mod (·=r) w wi
def oG(w:World)(r nb g x:Nat)(c L:List Int)(tl:List Value)(v:Value)(wi:World):Prop:=
 ∃y:Nat,y<=8/\v=↑y/\ZI wi g 482 (Y4 c).toArray/\ZI wi r 3 (Y4 (F8 x c L y)++tl).toArray/\ZI wi nb 3 #[.int .i64 8]/\Mod (·=r) w wi
theorem ado(w:World)(r nb cap:Nat)(L:List Int)(tl:List Value)(hL:L.length=64)(hM:Within 34359738368 L)(hne:r≠nb)(hb:ZI w r 3 (Y4 L++tl).toArray)(hn:ZI w nb 3 #[.int .i64 8]):
  Calls prog 357 #[↑(ZZ r 64 cap),.int .i64 8,.func (.func 406) #[] #[↑(ZC nb 0)]] w fun e w'=>e=.returned (.tuple #[])/\ZI w' r 3 (Y4 (Ry L 8)++tl).toArray/\ZI w' nb 3 #[.int .i64 8]/\Mod (·=r) w w':=by
 have HB:=Z5 hb hn;have Lr:=hb.lt;have Gn:=hn.lt;clear hb hn;go_enter func357,ntmps357;go_wp2_with fail;go_loopw [11] (afa w r nb L tl) (fun x _=>8-(intOf x).toNat)
 case atStart=>exact⟨0,Z8,rfl,HB.out.1,HB.out.2,Mod.refl _ _⟩
 case round=>
  revert hrel;generalize wr=U3;intro hrel;obtain⟨x,hx,rfl,hb,hn,hm⟩:=hrel;by_cases hlt:x<8
  ·have HW:=Z5 hb (Z9 hn hm);have hsz:=hm.size;clear hb hn hm;go_upto_region 4 with(fail)
   have HI:Hid (ZI (U3.alloc (.cells ↑MR 482)) U3.heap.size 482 (Y4 (Hr (Tt x (Ry L x)) 0)).toArray/\ZI (U3.alloc (.cells ↑MR 482)) r 3 (Y4 (Ry L x)++tl).toArray/\ZI (U3.alloc (.cells ↑MR 482)) nb 3 #[.int .i64 8]/\Mod (·=r) w (U3.alloc (.cells ↑MR 482))):=⟨Zn _ _ _,HW.out.1.alloc _,HW.out.2.1.alloc _,HW.out.2.2.alloc _⟩
   generalize U3.alloc (.cells ↑MR 482)=w1 at *;have hlx:(Ry L x).length=64:=by rw [Si];exact hL
   have pW:Hid (Within 1099511627776 (Tt x (Ry L x))):=fun i=>by
    have:=OW (Hl hL hM Z8 x Z8) Z8 x i;omega
   generalize lK:Ry L x=L' at *;have HL':=Z7 lK;clear lK HW;go_wp2_with fail;go_loopw [15] (rV w r nb U3.heap.size (Tt x L') L' tl) (fun y _=>8-(intOf y).toNat)
   case atStart=>exact⟨0,Z8,rfl,HI.out⟩
   case round=>
    obtain⟨y,hy,rfl,bg,br,bn,hm⟩:=hrel;by_cases mJ:y<8
    ·have c1:=Lb br (y*8+x) Z8;have c2:=bg.cell y;rw [Zo,VX _ _ (by rw [Ht];omega)]at c2;have c3:=bg.frozen;generalize hv:L'.getD (y*8+x) 0=v at *;have HV:=Z7 hv;have HK:=Z5 bg (Z9 br (Z9 bn hm));clear bg br bn hm hv;have j1:(0:Int)<=(y:Int)*8+(x:Int):=Z8;have j2:(y:Int)*8+(x:Int)<64:=Z8;go_wp2_with fail;refine⟨⟨y+1,Z8,Zr,?_,HK.out.2.1.far (p:=⟨U3.heap.size,y,none⟩) (by show ¬r=U3.heap.size;omega) _,HK.out.2.2.1.far (p:=⟨U3.heap.size,y,none⟩) (by show ¬nb=U3.heap.size;omega) _,HK.out.2.2.2.setCell (.inr hsz) _⟩,by simp [intOf];omega⟩;have hb':=HK.out.1.UY y ↑v;rw [MS]at hb';rw [Hr,L6 _ _ _ mJ,HV.out];exact hb'
    ·obtain rfl:y=8:=Z8;rw [Bb _ (VO _ _)]at bg;have Cs:¬nb=U3.heap.size:=Z8;have zL:¬r=U3.heap.size:=Z8;have HK:=Z5 bg (Z9 br (Z9 bn hm));clear bg br bn hm;go_wp2_with fail;refine(kZ _ U3.heap.size nb _ (VO _ _) pW.out HK.out.1 HK.out.2.2.1).mono ?_;rintro e w2 ⟨rfl,hb2,Y3⟩;have kV:=HK.out.2.1.keep Y3 zL;have kU:=HK.out.2.2.1.keep Y3 Cs;have sH:=HK.out.2.2.2.FU Y3 (fun k hk e=>by omega);have IV:=Z5 hb2 (Z9 kV (Z9 kU sH));have uA:(Ph (Tt x L')).length=8:=by rw [OT,VO]
     generalize hcc:Ph (Tt x L')=cc at *;have gI:=Z7 hcc;clear hb2 Y3 kV kU sH HK hcc;go_wp2_with fail;go_loopw [32] (oG w r nb U3.heap.size x cc L' tl) (fun y _=>8-(intOf y).toNat)
     case atStart=>exact⟨0,Z8,rfl,IV.out.1,IV.out.2⟩
     case round=>
      obtain⟨y,hy,rfl,bg,br,bn,hm⟩:=hrel;by_cases mJ:y<8
      ·have hlk:(F8 x cc L' y).length=64:=by rw [PR];exact hlx
       have c1:=Lb br (y*8+x) Z8;have c2:=bg.cell y;rw [Zo,VX _ _ Z8]at c2;have c3:=br.frozen;generalize hv:cc.getD y 0=v at *;have HV:=Z7 hv;have HK:=Z5 bg (Z9 br (Z9 bn hm));clear bg br bn hm hv;have j1:(0:Int)<=(y:Int)*8+(x:Int):=Z8;have j2:(y:Int)*8+(x:Int)<64:=Z8;go_wp2_with fail;refine⟨⟨y+1,Z8,Zr,HK.out.1.far (p:=⟨r,y*8+x,none⟩) (by show ¬U3.heap.size=r;omega) _,?_,HK.out.2.2.1.far (p:=⟨r,y*8+x,none⟩) (by show ¬nb=r;omega) _,HK.out.2.2.2.setCell (.inl rfl) _⟩,by simp [intOf];omega⟩;rw [F8,HV.out];exact tJ HK.out.2.1 (y*8+x) Z8 v
      ·obtain rfl:y=8:=Z8;have HK:=Z5 br (Z9 bn hm);clear bg br bn hm;go_wp2_with fail;refine⟨⟨x+1,Z8,Zr,?_,HK.out.2⟩,by simp [intOf];omega⟩;rw [Ry,HL'.out,gI.out];exact HK.out.1
  ·obtain rfl:x=8:=Z8;have HF:=Z5 hb (Z9 hn hm);clear hb hn hm;go_wp2_with fail;go_end0
   exact⟨rfl,HF.out⟩
def z8:List Value:=[↑Z0,↑Z0,↑Z0,↑Z0,↑Z0,↑Z0,↑Z0,↑Z0]
def rowOf(y:Nat)(L:List Int):List Int:=(L.drop (y*8)).take 8
theorem WZ(y:Nat)(L:List Int)(hL:L.length=64)(hy:y<8):(rowOf y L).length=8:=by simp [rowOf];omega
theorem Xj(y:Nat)(L:List Int)(x:Nat)(hx:x<8):(rowOf y L).getD x 0=L.getD (y*8+x) 0:=MM L (y*8) 8 x hx
theorem O6{M:Int}{L:List Int}(h:Within M L)(h0:0<=M)(y:Nat):Within M (rowOf y L):=by
 intro x;by_cases hx:x<8
 ·rw [Xj y L x hx];exact h _
 ·have:(rowOf y L).getD x 0=0:=by rw [Z6,Zi (by simp [rowOf];omega)];rfl
  rw [this];omega
def QL(L:List Int):Nat->List Int
 | 0=>L
 | y+1=>splice (QL L y) (y*8) (Ph (rowOf y (QL L y)))
theorem QY(L:List Int)(hL:L.length=64)(y:Nat)(hy:y<=8):(QL L y).length=64:=by
 induction y with
 | zero=>exact hL
 | succ y ih=>
  have h:=ih Z8;rw [QL,length_splice _ _ _ (by rw [OT,WZ y _ h Z8];omega),h]
theorem NW(L c:List Int)(a:Nat)(ha:a+c.length<=L.length)(i:Nat):(splice L a c).getD i 0=if a<=i/\i<a+c.length then c.getD (i-a) 0 else L.getD i 0:=by
 simp only [splice,Z6];by_cases h1:i<a
 ·rw [Zv (by simp;omega),List.getElem?_take_of_lt h1,Xb]
 ·rw [ZF (by simp;omega)];have e:(L.take a).length=a:=by simp;omega
  rw [e];by_cases h2:i-a<c.length
  ·rw [Zv h2,VI]
  ·rw [ZF Z8,List.getElem?_drop,Xb];congr 2;omega
theorem Ef(L:List Int)(hL:L.length=64)(n y x:Nat)(hn:n<=8)(hx:x<8)(hy:y<8):
  (QL L n).getD (y*8+x) 0=if y<n then(Ph (rowOf y L)).getD x 0 else L.getD (y*8+x) 0:=by
 induction n generalizing x y with
 | zero=>simp [QL]
 | succ n ih=>
  have hl:=QY L hL n Z8;have h8:(Ph (rowOf n (QL L n))).length=8:=by rw [OT,WZ n _ hl Z8]
  rw [QL,NW _ _ _ Z8,h8,ih y x Z8 hx hy];by_cases e:y=n
  ·subst e;rw [VI,VI,show y*8+x-y*8=x by omega];have e1:rowOf y (QL L y)=rowOf y L:=by
    rw [eight _ (WZ y _ hl hy),eight _ (WZ y L hL hy)];simp only [Xj _ _ _ (show 0<8 by omega),Xj _ _ _ (show 1<8 by omega),Xj _ _ _ (show 2<8 by omega),Xj _ _ _ (show 3<8 by omega),Xj _ _ _ (show 4<8 by omega),Xj _ _ _ (show 5<8 by omega),Xj _ _ _ (show 6<8 by omega),Xj _ _ _ (show 7<8 by omega)];have h:=fun x hx=>(ih y x Z8 hx hy).trans Xb;rw [h 0 Z8,h 1 Z8,h 2 Z8,h 3 Z8,h 4 Z8,h 5 Z8,h 6 Z8,h 7 Z8]
   rw [e1]
  ·rw [Xb];by_cases e2:y<n
   ·rw [if_pos e2,VI]
   ·rw [if_neg e2,Xb]
theorem aao{M:Int}{L:List Int}(hL:L.length=64)(h:Within M L)(h0:0<=M)(n:Nat)(hn:n<=8):Within (27*M+13) (QL L n):=by
 refine Kj (QY L hL n hn) (fun y hy x hx=>?_) Z8;rw [Ef L hL n y x hn hx hy];split
 ·exact G6 (O6 h h0 y) x
 ·have:=h (y*8+x);omega
theorem tL{w:World}{r:Nat}{t:TypeId}{L:List Int}{tl:List Value}(hb:ZI w r t (Y4 L++tl).toArray)(a m:Nat)(ham:a+m<=L.length):Src w 1 (some ⟨r,a,none⟩) m (Y4 ((L.drop a).take m)):=by
 refine⟨(by simp [Y4];omega),fun e=>(by cases e),fun ad e j u hu=>?_⟩;injection e with e;subst e;have hj:j<m:=by
  rcases Nat.lt_or_ge j m with h|h
  ·exact h
  ·rw [Zi (by simp [Y4];omega)]at hu;cases hu
 rw [VW,Lb hb (a+j) Z8,<-hu,VX _ _ (by simp;omega),MM _ _ _ _ hj]
theorem Ep(L c:List Int)(tl:List Value)(a:Nat)(ha:a+c.length<=L.length):splice (Y4 L++tl) a (Y4 c)=Y4 (splice L a c)++tl:=by
 simp only [splice,Y4,List.map_append,List.map_take,List.map_drop,List.append_assoc,List.length_map];rw [List.take_append_of_le_length (by simp;omega),List.drop_append_of_le_length (by simp;omega)]
def aej(w:World)(r nb:Nat)(L:List Int)(tl:List Value)(v:Value)(wr:World):Prop:=
 ∃y:Nat,y<=8/\v=↑y/\ZI wr r 3 (Y4 (QL L y)++tl).toArray/\ZI wr nb 3 #[.int .i64 8]/\Mod (·=r) w wr
theorem adn(w:World)(r nb cap:Nat)(L:List Int)(tl:List Value)(hL:L.length=64)(KL:64<=cap)(hM:Within 34359738368 L)(hne:r≠nb)(hb:ZI w r 3 (Y4 L++tl).toArray)(hn:ZI w nb 3 #[.int .i64 8]):
  Calls prog 356 #[↑(ZZ r 64 cap),.int .i64 8,.func (.func 406) #[] #[↑(ZC nb 0)]] w fun e w'=>e=.returned (.tuple #[])/\ZI w' r 3 (Y4 (QL L 8)++tl).toArray/\ZI w' nb 3 #[.int .i64 8]/\Mod (·=r) w w':=by
 have HB:=Z5 hb hn;have Lr:=hb.lt;have Gn:=hn.lt;clear hb hn;go_enter func356,ntmps356;go_wp2_with fail;go_loopw [9] (aej w r nb L tl) (fun x _=>8-(intOf x).toNat)
 case atStart=>exact⟨0,Z8,rfl,HB.out.1,HB.out.2,Mod.refl _ _⟩
 case round=>
  revert hrel;generalize wr=U3;intro hrel;obtain⟨y,hy,rfl,hb,hn,hm⟩:=hrel;by_cases hlt:y<8
  ·have HW:=Z5 hb (Z9 hn hm);have hsz:=hm.size;clear hb hn hm;go_upto_region 4 with(fail)
   have HI:Hid (ZI (U3.alloc (.cells ↑MR 482)) U3.heap.size 482 z8.toArray/\ZI (U3.alloc (.cells ↑MR 482)) r 3 (Y4 (QL L y)++tl).toArray/\ZI (U3.alloc (.cells ↑MR 482)) nb 3 #[.int .i64 8]/\Mod (·=r) w (U3.alloc (.cells ↑MR 482))):=⟨Zn _ _ _,HW.out.1.alloc _,HW.out.2.1.alloc _,HW.out.2.2.alloc _⟩
   generalize U3.alloc (.cells ↑MR 482)=w1 at *;have hlx:(QL L y).length=64:=QY L hL y Z8
   have pW:Hid (Within 1099511627776 (rowOf y (QL L y))):=fun i=>by
    have:=O6 (aao hL hM Z8 y Z8) Z8 y i;omega
   generalize lK:QL L y=L' at *;have HL':=Z7 lK;clear lK HW;have HS:Hid (Src w1 1 (some ⟨r,y*8,none⟩) 8 (Y4 ((L'.drop (y*8)).take 8))):=tL HI.out.2.1 (y*8) 8 Z8;have HN:Hid (8=Nat.min 8 8/\0+8<=z8.length):=⟨ZU,ZU⟩
   have e1:¬cap=y*8:=Z8;have e2:y*8+8-y*8=8:=Z8;have e3:(y:Int)*8+8<=64:=Z8;have e4:(y:Int)*8+8<=(cap:Int):=Z8;have e5:(y:Int)*8<=(y:Int)*8+8:=Z8;have e6:(0:Int)<=(y:Int)*8:=Z8;have e7:IntKind.i64.wrap ((y:Int)*8)=(y:Int)*8:=by rw [IntKind.wrap_i64];omega
   have e8:IntKind.i64.wrap ((y:Int)*8+8)=(y:Int)*8+8:=by rw [IntKind.wrap_i64];omega
   have HT:Hid (((y:Int)*8).toNat=y*8/\((y:Int)*8+8).toNat=y*8+8):=⟨Z8,Z8⟩
   go_region_law (refine Wq rfl (.tmp 13) (.tmp 23) _ _ rfl 3 underlying63 ZR (some ↑U3.heap.size) 8 8 (some ⟨r,y*8,none⟩) 8 (cap-y*8) _ (by simp [Vo,TG]) (by simp [Vo,TG,HT.out.1,HT.out.2,e1]) HS.out U3.heap.size 0 z8 482 HI.out.1 8 HN.out.1 (fun _=>rfl) HN.out.2 (RH _) ?_;intro w2 hb2 Y3;have oU:=Z5 hb2 Y3;clear hb2 Y3)
   obtain⟨hb2,Y3⟩:=oU.out;have Jg:Mod (·=U3.heap.size) w1 w2:=((Mod.refl _ w1).drew).trans Y3;have zL:¬r=U3.heap.size:=Z8;have Cs:¬nb=U3.heap.size:=Z8;have kV:=HI.out.2.1.keep Jg zL;have kU:=HI.out.2.2.1.keep Jg Cs;have sH:=HI.out.2.2.2.FU Jg (fun k hk e=>by omega);have hl8:(rowOf y L').length=8:=WZ y L' hlx hlt;have lU:ZI w2 U3.heap.size 482 (Y4 (rowOf y L')).toArray:=by
    have e:splice z8 0 (VC 8 (Y4 (VC 8 (Q6 (y*8) L'))))=Y4 (rowOf y L'):=by
     rw [Zt (by simp [Y4];omega)];have:(Y4 (rowOf y L')).length=8:=by rw [XR,hl8]
     show VC 0 z8++(Y4 (rowOf y L')++Q6 (0+(Y4 (rowOf y L')).length) z8)=_;rw [this];simp [z8]
    rw [<-e];exact hb2
   have HK:=Z5 lU (Z9 kV (Z9 kU sH));clear hb2 Y3 Jg kV kU sH lU oU HI HS;go_wp2_with fail;refine(kZ _ U3.heap.size nb _ hl8 pW.out HK.out.1 HK.out.2.2.1).mono ?_;rintro e w3 ⟨rfl,hb3,X7⟩;have br3:=HK.out.2.1.keep X7 zL;have bn3:=HK.out.2.2.1.keep X7 Cs;have mK:=HK.out.2.2.2.FU X7 (fun k hk e=>by omega);have uA:(Ph (rowOf y L')).length=8:=by rw [OT,hl8]
   generalize hcc:Ph (rowOf y L')=cc at *;have gI:=Z7 hcc;have HS:Hid (Src w3 1 (some ↑U3.heap.size) 8 (Y4 ((cc.drop 0).take 8))):=Mt hb3 0 8 Z8;have HF:Hid (y*8+8<=(Y4 L'++tl).length):=by show _<=_;simp [Y4];omega
   have Ey:=Z5 hb3 (Z9 br3 (Z9 bn3 mK));clear hb3 X7 br3 bn3 mK HK hcc;go_upto_region 6 with(fail)
   go_region_law (refine Wq rfl (.tmp 36) (.tmp 38) _ _ rfl 3 underlying63 ZR (some ⟨r,y*8,none⟩) 8 (cap-y*8) (some ↑U3.heap.size) 8 8 _ (by simp [Vo,TG,HT.out.1,HT.out.2]) (by simp [Vo,TG]) HS.out r (y*8) (Y4 L'++tl) 3 Ey.out.2.1 8 HN.out.1 (fun _=>rfl) HF.out (RH _) ?_;intro w4 hb4 Xl;have gN:=Z5 hb4 Xl;clear hb4 Xl)
   go_wp2_with fail;obtain⟨hb4,Xl⟩:=gN.out;have xx:Mod (·=r) w3 w4:=((Mod.refl _ w3).drew).trans Xl;have bn4:=Ey.out.2.2.1.keep xx Z8;refine⟨⟨y+1,Z8,Zr,?_,bn4,Ey.out.2.2.2.trans xx⟩,by simp [intOf];omega⟩;rw [QL,HL'.out,gI.out,<-Ep _ _ _ _ Z8];have e:VC 8 (Y4 (VC 8 (Q6 0 cc)))=Y4 cc:=by
    rw [List.drop_zero,Zt (l:=cc) Z8,Zt (by rw [XR];omega)]
   rw [e]at hb4;exact hb4
  ·obtain rfl:y=8:=Z8;have HF:=Z5 hb (Z9 hn hm);clear hb hn hm;go_wp2_with fail;go_end0
   exact⟨rfl,HF.out⟩
end Go.Proofs.YthednemlahioeaaGreatDoor
