/-
  plane.New.
-/
import Derived.Test.YtnnpoodcdibpiaaGreatDoorB2
namespace Go.Proofs.YtnnpoodcdibpiaaGreatDoor
open Go.RowKit
set_option maxRecDepth 100000
set_option maxHeartbeats 8000000
def fillU(n:Nat)(v:UInt8)(k:Nat):List UInt8:=List.replicate k v++List.replicate (n-k) 0
theorem fillU_length(n:Nat)(v:UInt8)(k:Nat)(h:k<=n):(fillU n v k).length=n:=by simp [fillU];omega
theorem fillU_set(n:Nat)(v:UInt8)(k:Nat)(h:k<n):(u8s (fillU n v k)).set k (.int .u8 (v.toNat:Int))=u8s (fillU n v (k+1)):=by
 have e:(fillU n v k).set k v=fillU n v (k+1):=by
  apply List.ext_getElem
  ·simp [fillU];omega
  ·intro i h1 h2;rw [List.getElem_set];by_cases e:k=i
   ·subst e;simp [fillU]
   ·rw [if_neg e];simp only [fillU,List.getElem_append,List.length_replicate,List.getElem_replicate];split<;>split<;>first|rfl|omega
 rw [<-e];simp [u8s,List.map_set]
theorem fillU_zero(n:Nat)(v:UInt8):fillU n v 0=List.replicate n 0:=by simp [fillU]
theorem fillU_full(n:Nat)(v:UInt8):fillU n v n=List.replicate n v:=by simp [fillU]
def NewRel(w:World)(res pb g:Nat)(pc:Array Value)(n:Nat)(v:UInt8)(v25:Value)(wr:World):Prop:=
 ∃k:Nat,k<=n/\v25=.int .i64 (k:Int)/\Blk wr res 108 #[.int .i64 0,.int .i64 0,.slice none 0 0]/\Blk wr pb 108 pc/\Blk wr g 5 (u8s (fillU n v k)).toArray/\Mod (fun _=>False) w wr
def PlaneMade(w:World)(W H:Nat)(pix:List UInt8)(v:Value)(w':World):Prop:=
 ∃g,v=.agg #[.int .i64 (W:Int),.int .i64 (H:Int),.slice (some ⟨g,0,none⟩) (W*H) (W*H)]/\Blk w' g 5 (u8s pix).toArray/\pix.length=W*H/\w.heap.size<=g
def NewPlane(w:World)(W H:Nat)(v:UInt8)(e:Ending)(w':World):Prop:=
 ∃p,e=.returned (.tuple #[p,.int .i64 0])/\PlaneMade w W H (List.replicate (W*H) v) p w'/\Mod (fun _=>False) w w'
theorem pNew(w:World)(W H:Nat)(v:UInt8)(h:sidesB W H=true):Calls Tryz.prog 65 #[.int .i64 (W:Int),.int .i64 (H:Int),.int .u8 (v.toNat:Int)] w (NewPlane w W H v):=by
 obtain⟨ha,h1,h2,h3,h4,h5⟩:=area_le h;obtain⟨n,hn⟩:∃n,n=W*H:=⟨_,rfl⟩
 unfold NewPlane PlaneMade;rw [<-hn]at ha h5 ⊢;have e1:wrap64 ((W:Int)*(H:Int))=(n:Int):=by
  rw [show(W:Int)*(H:Int)=(n:Int)by rw [hn];simp];exact IntWalk.wrap64_in _ ⟨by omega,by omega⟩
 have HE:=Lib.hid e1;clear hn e1;go_enter Tryz.func65,Tryz.ntmps65;go_wp2_with fail;refine(pSides_yes _ W H h).mono ?_;rintro e w1 ⟨rfl,rfl⟩;have hr0:Blk (w.alloc (.cells #[.int .i64 0,.int .i64 0,.slice none 0 0] 108)) w.heap.size 108 #[.int .i64 0,.int .i64 0,.slice none 0 0]:=Blk.new _ _ _;have m0:Mod (fun _=>False) w (w.alloc (.cells #[.int .i64 0,.int .i64 0,.slice none 0 0] 108)):=(Mod.refl _ _).alloc _;have HR:=Lib.hid (And.intro hr0 m0);clear hr0 m0;go_upto_region 4 with(refine wpList_mk_u8 _ rfl (.tmp 19) (.tmp 19) rfl n (congrArg (Value.int .i64) HE.out) (congrArg (Value.int .i64) HE.out) (by omega) ?_;intro w3 hb3 hm3;have HO:=Lib.hid (And.intro hb3 hm3);clear hb3 hm3)
 have hg3:Blk w3 (w.heap.size+1) 5 (u8s (fillU n v 0)).toArray:=by
  have h:=HO.out.1;rw [<-fillU_zero n v]at h;simpa using h
 have hr3:=HR.out.1.keep HO.out.2 (fun h=>h);have M3:=HR.out.2.trans HO.out.2;have hgl:=hg3.lt;have hrl:=hr3.lt;have hs3:=M3.size;obtain⟨pc,hpc⟩:∃pc:Array Value,pc=#[.int .i64 (W:Int),.int .i64 (H:Int),.slice (some ⟨w.heap.size+1,0,none⟩) n n]:=⟨_,rfl⟩
 have hp4:Blk (w3.alloc (.cells pc 108)) w3.heap.size 108 pc:=Blk.new _ _ _;have hg4:=hg3.alloc (.cells pc 108);have hr4:=hr3.alloc (.cells pc 108);have M4:=M3.alloc (.cells pc 108);have c0:(w3.alloc (.cells pc 108)).cell? ⟨w3.heap.size,2,none⟩=some (.slice (some ⟨w.heap.size+1,0,none⟩) n n):=by rw [hp4.cell,hpc];rfl
 have HP:=Lib.hid hpc;rw [<-hpc];obtain⟨res,hres⟩:∃res,res=w.heap.size:=⟨_,rfl⟩
 obtain⟨g,hge⟩:∃g,g=w.heap.size+1:=⟨_,rfl⟩
 obtain⟨pb,hpb⟩:∃pb,pb=w3.heap.size:=⟨_,rfl⟩
 rw [<-hge]at hgl hg4 HP c0 ⊢;rw [<-hpb]at hp4 c0 ⊢;rw [<-hres]at hrl hr4 ⊢;have n1:res≠g:=by omega
 have n2:res≠pb:=by omega
 have n3:g≠pb:=by omega
 have n4:w.heap.size<=res:=by omega
 have n5:w.heap.size<=g:=by omega
 have HB:=Lib.hid (And.intro hr4 (And.intro hp4 (And.intro hg4 M4)));clear hr4 hp4 hg4 M4 hg3 hr3 M3 HO HR hpc hres hge hpb;generalize w3.alloc (.cells pc 108)=w4 at *;go_wp2_with fail;clear c0;go_loopw [25] (NewRel w res pb g pc n v) (fun i _=>n-(intOf i).toNat)
 case atStart=>exact⟨0,by omega,rfl,HB.out.1,HB.out.2.1,HB.out.2.2.1,HB.out.2.2.2⟩
 case round=>
  clear HB;obtain⟨k,hk,rfl,hr,hp,hg,hM⟩:=hrel;by_cases hlt:k<n
  ·have c2:wr.cell? ⟨pb,2,none⟩=some (.slice (some ⟨g,0,none⟩) n n):=by rw [hp.cell,HP.out];rfl
   have p1:(0:Int)<=(k:Int):=by omega
   have p2:(k:Int)<(n:Int):=by omega
   have k3:wr.cell? ⟨g,k,none⟩=some (.int .u8 ((fillU n v k).getD k 0).toNat):=by rw [hg.cell];simp [u8s,List.getD_eq_getElem?_getD,fillU_length n v k hk,hlt]
   have f3:=hg.frozen k;have hl:=hg.lt;generalize ((fillU n v k).getD k 0).toNat=old at *;have HB:=Lib.hid (And.intro hr (And.intro hp (And.intro hg hM)));clear hr hp hg hM;go_wp2_with fail;go_roundw
   case rel=>exact⟨k+1,by omega,by go_num,HB.out.1.far n1 _,HB.out.2.1.far (fun h=>n3 h.symm) _,HB.out.2.2.1.put (by simpa using fillU_set n v k hlt),HB.out.2.2.2.setCell (.inr n5) _⟩
   case measure=>simp [intOf];omega
  ·obtain rfl:k=n:=by omega
   obtain⟨hpc',hpf'⟩:=hp.both;rw [HP.out]at hpc';obtain⟨hrc',hrf'⟩:=hr.both;have hrl':=hr.lt;have hpl':=hp.lt;have HB:=Lib.hid (And.intro hr (And.intro hg hM));clear hr hp hg hM;go_wp2_with fail;obtain⟨hr,hg,hM⟩:=HB.out;rw [fillU_full]at hg;refine bodyPost_ret (v:=.tuple #[.agg #[.int .i64 (W:Int),.int .i64 (H:Int),.slice (some ⟨g,0,none⟩) k k],.int .i64 0]) (by simp [results,Tryz.results65,go_sem,hrc']) rfl ⟨_,rfl,⟨g,rfl,?_,by simp,n5⟩,?_⟩
   ·exact(by repeat' (first|with_reducible exact hg|with_reducible refine Blk.far ?_ n1.symm _))
   ·exact(by repeat' (first|with_reducible exact hM|with_reducible refine Mod.setCell ?_ (.inr n4) _))
theorem run_mk_u8(w:World)(n:Nat)(hn:n<=16777216):(Instr.makeSlice 22 (.int .i64 (n:Int)) (.int .i64 (n:Int))).run Tryz.prog w=.ok (.slice (some ⟨w.heap.size,0,none⟩) n n) (w.alloc (.cells (u8s (List.replicate n 0)).toArray 5)):=by
 obtain⟨i0,hi0,hz0,hz1,hz2⟩:=info_parts u8_info;have h:=run_makeSlice (P:=Tryz.prog) (w:=w) 22 5 i0 (.int .u8 0) Tryz.underlying22 hi0 hz0 .i64 .i64 (n:Int) (n:Int) (by omega) (by omega) (by rw [hz1];simp;omega) (by rw [hz2];omega) (by omega);rw [h,hz1,Nat.mul_one];have e:(madeCells (Value.cells (.int .u8 0)) n)=(u8s (List.replicate n 0)).toArray:=by
  rw [<-madeU8 n]
 simp [e]
theorem pOwn(w:World)(W H:Nat)(A:Option Addr)(n c:Nat)(pix:List UInt8)(hn:n<=16777216)(hin:BytesIn w A n c pix):Calls Tryz.prog 249 #[.agg #[.int .i64 (W:Int),.int .i64 (H:Int),.slice A n c]] w fun e w'=>∃g,e=.returned (.agg #[.int .i64 (W:Int),.int .i64 (H:Int),.slice (some ⟨g,0,none⟩) n n])/\Blk w' g 5 (u8s pix).toArray/\w.heap.size<=g/\Mod (fun _=>False) w w':=by
 have HIN:=Lib.hid hin;clear hin;obtain⟨pc,hpc⟩:∃pc:Array Value,pc=#[.int .i64 (W:Int),.int .i64 (H:Int),.slice A n c]:=⟨_,rfl⟩
 have hb0:Blk ((w.alloc (.cells #[.int .i64 (W:Int),.int .i64 (H:Int),.slice A n c] 108)).alloc (.cells #[.int .i64 0,.int .i64 0,.slice none 0 0] 108)) w.heap.size 108 #[.int .i64 (W:Int),.int .i64 (H:Int),.slice A n c]:=(Blk.new _ _ _).alloc _;have hr0:Blk ((w.alloc (.cells #[.int .i64 (W:Int),.int .i64 (H:Int),.slice A n c] 108)).alloc (.cells #[.int .i64 0,.int .i64 0,.slice none 0 0] 108)) (w.heap.size+1) 108 #[.int .i64 0,.int .i64 0,.slice none 0 0]:=by
  have:=Blk.new (w.alloc (.cells #[.int .i64 (W:Int),.int .i64 (H:Int),.slice A n c] 108)) 108 #[.int .i64 0,.int .i64 0,.slice none 0 0];simpa using this
 have m0:Mod (fun _=>False) w ((w.alloc (.cells #[.int .i64 (W:Int),.int .i64 (H:Int),.slice A n c] 108)).alloc (.cells #[.int .i64 0,.int .i64 0,.slice none 0 0] 108)):=((Mod.refl _ _).alloc _).alloc _;have HH:=Lib.hid (And.intro hb0 (And.intro hr0 m0));clear hb0 hr0 m0 hpc;go_enter Tryz.func249,Tryz.ntmps249;go_upto_region 1 with(fail)
 generalize hw1:((w.alloc (.cells #[.int .i64 (W:Int),.int .i64 (H:Int),.slice A n c] 108)).alloc (.cells #[.int .i64 0,.int .i64 0,.slice none 0 0] 108))=w1 at *;clear hw1;have c0:w1.cell? ⟨w.heap.size,0,none⟩=some (.int .i64 (W:Int)):=HH.out.1.cell 0;have c1:w1.cell? ⟨w.heap.size,1,none⟩=some (.int .i64 (H:Int)):=HH.out.1.cell 1;have c2:w1.cell? ⟨w.heap.size,2,none⟩=some (.slice A n c):=HH.out.1.cell 2;have hl:=HH.out.1.lt;have hmk:=fun w=>run_mk_u8 w n hn
 go_region
 ·have hg:Blk (((w1.alloc (.cells (u8s (List.replicate n 0)).toArray 5)).alloc (.cells #[.int .i64 (W:Int),.int .i64 (H:Int),.slice (some ⟨w1.heap.size,0,none⟩) n n] 108)).drew) (w1.heap.size) 5 (u8s (List.replicate n 0)).toArray:=by exact((Blk.new _ _ _).alloc _).drew
  have hq:Blk (((w1.alloc (.cells (u8s (List.replicate n 0)).toArray 5)).alloc (.cells #[.int .i64 (W:Int),.int .i64 (H:Int),.slice (some ⟨w1.heap.size,0,none⟩) n n] 108)).drew) (w1.heap.size+1) 108 #[.int .i64 (W:Int),.int .i64 (H:Int),.slice (some ⟨w1.heap.size,0,none⟩) n n]:=by have h:=(Blk.new (w1.alloc (.cells (u8s (List.replicate n 0)).toArray 5)) 108 #[.int .i64 (W:Int),.int .i64 (H:Int),.slice (some ⟨w1.heap.size,0,none⟩) n n]).drew;simpa using h
  have hp:Blk (((w1.alloc (.cells (u8s (List.replicate n 0)).toArray 5)).alloc (.cells #[.int .i64 (W:Int),.int .i64 (H:Int),.slice (some ⟨w1.heap.size,0,none⟩) n n] 108)).drew) w.heap.size 108 _:=((HH.out.1.alloc _).alloc _).drew;have hr:Blk (((w1.alloc (.cells (u8s (List.replicate n 0)).toArray 5)).alloc (.cells #[.int .i64 (W:Int),.int .i64 (H:Int),.slice (some ⟨w1.heap.size,0,none⟩) n n] 108)).drew) (w.heap.size+1) 108 _:=((HH.out.2.1.alloc _).alloc _).drew;have hM:Mod (fun _=>False) w (((w1.alloc (.cells (u8s (List.replicate n 0)).toArray 5)).alloc (.cells #[.int .i64 (W:Int),.int .i64 (H:Int),.slice (some ⟨w1.heap.size,0,none⟩) n n] 108)).drew):=((HH.out.2.2.alloc _).alloc _).drew;have hs1:=HH.out.2.2.size;have hrl1:=HH.out.2.1.lt;generalize ((w1.alloc (.cells (u8s (List.replicate n 0)).toArray 5)).alloc (.cells #[.int .i64 (W:Int),.int .i64 (H:Int),.slice (some ⟨w1.heap.size,0,none⟩) n n] 108)).drew=w2 at *;clear hmk c0 c1 c2 HH;obtain⟨g,hge⟩:∃g,g=w1.heap.size:=⟨_,rfl⟩
  obtain⟨pq,hpq⟩:∃pq,pq=w1.heap.size+1:=⟨_,rfl⟩
  obtain⟨pi,hpi⟩:∃pi,pi=w.heap.size:=⟨_,rfl⟩
  obtain⟨res,hres⟩:∃res,res=w.heap.size+1:=⟨_,rfl⟩
  rw [<-hpq]at hq ⊢;rw [<-hge]at hg hq ⊢;rw [<-hres]at hr ⊢;rw [<-hpi]at hp ⊢;have n1:res≠g:=by omega
  have n2:res≠pq:=by omega
  have n3:g≠pq:=by omega
  have n4:w.heap.size<=res:=by omega
  have n5:w.heap.size<=g:=by omega
  have k2:w2.cell? ⟨pi,2,none⟩=some (.slice A n c):=hp.cell 2;have k3:w2.cell? ⟨pq,2,none⟩=some (.slice (some ⟨g,0,none⟩) n n):=hq.cell 2;have hin2:=HIN.out.quiet hM;have x1:0+n<=(u8s (List.replicate n 0)).length:=by simp [u8s]
  have HF:=Lib.hid (And.intro hg (And.intro hq (And.intro hr (And.intro hM (And.intro hin2 x1)))));clear hg hq hr hM hp hin2 hge hpq hpi hres x1 hl;go_upto_region 3 with(refine wpList_copy_blk rfl (.tmp 14) (.tmp 16) _ _ rfl 5 Tryz.underlying22 (by kernel_rfl) (some ⟨g,0,none⟩) n n A n c (u8s pix) rfl rfl HF.out.2.2.2.2.1.2.2.1 g 0 _ 5 HF.out.1 n (Nat.min_self _).symm (fun _=>rfl) HF.out.2.2.2.2.2 (u8s_one pix) ?_;intro w3 hb3 hm3;have HB3:=Lib.hid (And.intro hb3 hm3);clear hb3 hm3)
  have hg3:Blk w3 g 5 (u8s pix).toArray:=by
   have h:=HB3.out.1;have hl:=HF.out.2.2.2.2.1.1;have e:splice (u8s (List.replicate n 0)) 0 ((u8s pix).take n)=u8s pix:=by
    rw [List.take_of_length_le (by rw [u8s_length];omega)];unfold splice;rw [List.drop_eq_nil_of_le (by simp [u8s];omega)];simp
   rwa [e]at h
  have hq3:=HF.out.2.1.keep HB3.out.2 (fun h=>n3 h.symm);have hr3:=HF.out.2.2.1.keep HB3.out.2 n1;have hM3:Mod (fun _=>False) w w3:=HF.out.2.2.2.1.into HB3.out.2 (fun i e=>.inr (by omega));obtain⟨hqc,hqf⟩:=hq3.both;obtain⟨hrc,hrf⟩:=hr3.both;have hrl:=hr3.lt;have HB:=Lib.hid (And.intro hg3 hM3);clear hg3 hq3 hr3 hM3 HB3 k2 k3;go_wp2_with fail;refine bodyPost_ret (v:=.agg #[.int .i64 (W:Int),.int .i64 (H:Int),.slice (some ⟨g,0,none⟩) n n]) (by simp [results,Tryz.results249,go_sem,hrc]) rfl ⟨g,rfl,?_,n5,?_⟩
  ·have hg:=HB.out.1;exact(by repeat' (first|with_reducible exact hg|with_reducible refine Blk.far ?_ n1.symm _))
  ·have hM:=HB.out.2;exact(by repeat' (first|with_reducible exact hM|with_reducible refine Mod.setCell ?_ (.inr n4) _))
 ·have hg:Blk (((w1.alloc (.cells #[.int .i64 (W:Int),.int .i64 (H:Int),.slice (some ⟨w1.heap.size+1,0,none⟩) n n] 108)).alloc (.cells (u8s (List.replicate n 0)).toArray 5)).drew) (w1.heap.size+1) 5 (u8s (List.replicate n 0)).toArray:=by have h:=(Blk.new (w1.alloc (.cells #[.int .i64 (W:Int),.int .i64 (H:Int),.slice (some ⟨w1.heap.size+1,0,none⟩) n n] 108)) 5 (u8s (List.replicate n 0)).toArray).drew;simpa using h
  have hq:Blk (((w1.alloc (.cells #[.int .i64 (W:Int),.int .i64 (H:Int),.slice (some ⟨w1.heap.size+1,0,none⟩) n n] 108)).alloc (.cells (u8s (List.replicate n 0)).toArray 5)).drew) (w1.heap.size) 108 #[.int .i64 (W:Int),.int .i64 (H:Int),.slice (some ⟨w1.heap.size+1,0,none⟩) n n]:=by exact((Blk.new _ _ _).alloc _).drew
  have hp:Blk (((w1.alloc (.cells #[.int .i64 (W:Int),.int .i64 (H:Int),.slice (some ⟨w1.heap.size+1,0,none⟩) n n] 108)).alloc (.cells (u8s (List.replicate n 0)).toArray 5)).drew) w.heap.size 108 _:=((HH.out.1.alloc _).alloc _).drew;have hr:Blk (((w1.alloc (.cells #[.int .i64 (W:Int),.int .i64 (H:Int),.slice (some ⟨w1.heap.size+1,0,none⟩) n n] 108)).alloc (.cells (u8s (List.replicate n 0)).toArray 5)).drew) (w.heap.size+1) 108 _:=((HH.out.2.1.alloc _).alloc _).drew;have hM:Mod (fun _=>False) w (((w1.alloc (.cells #[.int .i64 (W:Int),.int .i64 (H:Int),.slice (some ⟨w1.heap.size+1,0,none⟩) n n] 108)).alloc (.cells (u8s (List.replicate n 0)).toArray 5)).drew):=((HH.out.2.2.alloc _).alloc _).drew;have hs1:=HH.out.2.2.size;have hrl1:=HH.out.2.1.lt;generalize ((w1.alloc (.cells #[.int .i64 (W:Int),.int .i64 (H:Int),.slice (some ⟨w1.heap.size+1,0,none⟩) n n] 108)).alloc (.cells (u8s (List.replicate n 0)).toArray 5)).drew=w2 at *;clear hmk c0 c1 c2 HH;obtain⟨g,hge⟩:∃g,g=w1.heap.size+1:=⟨_,rfl⟩
  obtain⟨pq,hpq⟩:∃pq,pq=w1.heap.size:=⟨_,rfl⟩
  obtain⟨pi,hpi⟩:∃pi,pi=w.heap.size:=⟨_,rfl⟩
  obtain⟨res,hres⟩:∃res,res=w.heap.size+1:=⟨_,rfl⟩
  rw [<-hge]at hg hq ⊢;rw [<-hpq]at hq ⊢;rw [<-hres]at hr ⊢;rw [<-hpi]at hp ⊢;have n1:res≠g:=by omega
  have n2:res≠pq:=by omega
  have n3:g≠pq:=by omega
  have n4:w.heap.size<=res:=by omega
  have n5:w.heap.size<=g:=by omega
  have k2:w2.cell? ⟨pi,2,none⟩=some (.slice A n c):=hp.cell 2;have k3:w2.cell? ⟨pq,2,none⟩=some (.slice (some ⟨g,0,none⟩) n n):=hq.cell 2;have hin2:=HIN.out.quiet hM;have x1:0+n<=(u8s (List.replicate n 0)).length:=by simp [u8s]
  have HF:=Lib.hid (And.intro hg (And.intro hq (And.intro hr (And.intro hM (And.intro hin2 x1)))));clear hg hq hr hM hp hin2 hge hpq hpi hres x1 hl;go_upto_region 3 with(refine wpList_copy_blk rfl (.tmp 14) (.tmp 16) _ _ rfl 5 Tryz.underlying22 (by kernel_rfl) (some ⟨g,0,none⟩) n n A n c (u8s pix) rfl rfl HF.out.2.2.2.2.1.2.2.1 g 0 _ 5 HF.out.1 n (Nat.min_self _).symm (fun _=>rfl) HF.out.2.2.2.2.2 (u8s_one pix) ?_;intro w3 hb3 hm3;have HB3:=Lib.hid (And.intro hb3 hm3);clear hb3 hm3)
  have hg3:Blk w3 g 5 (u8s pix).toArray:=by
   have h:=HB3.out.1;have hl:=HF.out.2.2.2.2.1.1;have e:splice (u8s (List.replicate n 0)) 0 ((u8s pix).take n)=u8s pix:=by
    rw [List.take_of_length_le (by rw [u8s_length];omega)];unfold splice;rw [List.drop_eq_nil_of_le (by simp [u8s];omega)];simp
   rwa [e]at h
  have hq3:=HF.out.2.1.keep HB3.out.2 (fun h=>n3 h.symm);have hr3:=HF.out.2.2.1.keep HB3.out.2 n1;have hM3:Mod (fun _=>False) w w3:=HF.out.2.2.2.1.into HB3.out.2 (fun i e=>.inr (by omega));obtain⟨hqc,hqf⟩:=hq3.both;obtain⟨hrc,hrf⟩:=hr3.both;have hrl:=hr3.lt;have HB:=Lib.hid (And.intro hg3 hM3);clear hg3 hq3 hr3 hM3 HB3 k2 k3;go_wp2_with fail;refine bodyPost_ret (v:=.agg #[.int .i64 (W:Int),.int .i64 (H:Int),.slice (some ⟨g,0,none⟩) n n]) (by simp [results,Tryz.results249,go_sem,hrc]) rfl ⟨g,rfl,?_,n5,?_⟩
  ·have hg:=HB.out.1;exact(by repeat' (first|with_reducible exact hg|with_reducible refine Blk.far ?_ n1.symm _))
  ·have hM:=HB.out.2;exact(by repeat' (first|with_reducible exact hM|with_reducible refine Mod.setCell ?_ (.inr n4) _))
structure Dim where
 W:Nat
 H:Nat
 W2:Nat
 H2:Nat
 nY:Nat
 nC:Nat
structure Dim.Ok(d:Dim):Prop where
 sides:sidesB d.W d.H=true
 w16:d.W % 16=0
 h16:d.H % 16=0
 w2:d.W=2*d.W2
 h2:d.H=2*d.H2
 ny:d.nY=d.W*d.H
 nc:d.nC=d.W2*d.H2
theorem Dim.Ok.half{d:Dim}(h:d.Ok):sidesB d.W2 d.H2=true:=by
 have a:=h.sides;unfold sidesB at *;rw [decide_eq_true_eq]at *;have:=h.w16;have:=h.h16;have:=h.w2;have:=h.h2;omega
def frameV(d:Dim)(gy gu gv:Nat):List Value:=
 [.int .i64 (d.W:Int),.int .i64 (d.H:Int),.slice (some ⟨gy,0,none⟩) d.nY d.nY,.int .i64 (d.W2:Int),.int .i64 (d.H2:Int),.slice (some ⟨gu,0,none⟩) d.nC d.nC,.int .i64 (d.W2:Int),.int .i64 (d.H2:Int),.slice (some ⟨gv,0,none⟩) d.nC d.nC]
structure Pix where
 Y:List UInt8
 U:List UInt8
 V:List UInt8
structure FrameAt(w:World)(d:Dim)(gy gu gv:Nat)(f:Pix):Prop where
 by_:Blk w gy 5 (u8s f.Y).toArray
 bu:Blk w gu 5 (u8s f.U).toArray
 bv:Blk w gv 5 (u8s f.V).toArray
 ly:f.Y.length=d.nY
 lu:f.U.length=d.nC
 lv:f.V.length=d.nC
 yu:gy≠gu
 yv:gy≠gv
 uv:gu≠gv
theorem FrameAt.mod{w w':World}{S:Nat->Prop}{d:Dim}{gy gu gv:Nat}{f:Pix}(h:FrameAt w d gy gu gv f)(hm:Mod S w w')(h1:¬S gy)(h2:¬S gu)(h3:¬S gv):FrameAt w' d gy gu gv f:=
 ⟨h.by_.keep hm h1,h.bu.keep hm h2,h.bv.keep hm h3,h.ly,h.lu,h.lv,h.yu,h.yv,h.uv⟩
theorem FrameAt.quiet{w w':World}{d:Dim}{gy gu gv:Nat}{f:Pix}(h:FrameAt w d gy gu gv f)(hm:Mod (fun _=>False) w w'):FrameAt w' d gy gu gv f:=h.mod hm (fun h=>h) (fun h=>h) (fun h=>h)
def blankPix(d:Dim)(v:UInt8):Pix:=⟨List.replicate d.nY v,List.replicate d.nC v,List.replicate d.nC v⟩
def FrameMade(w:World)(d:Dim)(f:Pix)(v:Value)(w':World):Prop:=
 ∃gy gu gv,v=.agg (frameV d gy gu gv).toArray/\FrameAt w' d gy gu gv f/\w.heap.size<=gy/\w.heap.size<=gu/\w.heap.size<=gv
def BlankPost(w:World)(d:Dim)(v:UInt8)(e:Ending)(w':World):Prop:=∃p,e=.returned (.tuple #[p,.int .i64 0])/\FrameMade w d (blankPix d v) p w'/\Mod (fun _=>False) w w'
def NewPlane'(w:World)(W H n:Nat)(v:UInt8)(e:Ending)(w':World):Prop:=
 ∃g,e=.returned (.tuple #[.agg #[.int .i64 (W:Int),.int .i64 (H:Int),.slice (some ⟨g,0,none⟩) n n],.int .i64 0])/\Blk w' g 5 (u8s (List.replicate n v)).toArray/\w.heap.size<=g/\Mod (fun _=>False) w w'
theorem pNew'(w:World)(W H n:Nat)(v:UInt8)(h:sidesB W H=true)(hn:n=W*H):Calls Tryz.prog 65 #[.int .i64 (W:Int),.int .i64 (H:Int),.int .u8 (v.toNat:Int)] w (NewPlane' w W H n v):=by
 refine(pNew w W H v h).mono ?_;rintro e w' ⟨p,rfl,⟨g,rfl,hb,_,hg⟩,hm⟩;rw [<-hn]at hb ⊢;exact⟨g,rfl,hb,hg,hm⟩
theorem pBlank(w:World)(d:Dim)(hd:d.Ok)(v:UInt8):Calls Tryz.prog 35 #[.int .i64 (d.W:Int),.int .i64 (d.H:Int),.int .u8 (v.toNat:Int)] w (BlankPost w d v):=by
 have hh:=hd.half;obtain⟨a1,a2,a3,a4,a5,a6⟩:=area_le hd.sides;have hw16:=hd.w16;have hh16:=hd.h16;have m1:((d.W:Int) % 16 != 0)=false:=by simp;omega
 have m2:((d.H:Int) % 16 != 0)=false:=by simp;omega
 have q1:(d.W:Int)/2=(d.W2:Int):=by have:=hd.w2;omega
 have q2:(d.H:Int)/2=(d.H2:Int):=by have:=hd.h2;omega
 have HD:=Lib.hid (And.intro hd (And.intro hh (And.intro q1 q2)));clear hd hh hw16 hh16 q1 q2 a1 a6;go_enter Tryz.func35,Tryz.ntmps35;go_wp2_with fail;refine(pSides_yes _ d.W d.H HD.out.1.sides).mono ?_;rintro e w1 ⟨rfl,rfl⟩;go_wp2_with fail;have hr0:Blk ((w.alloc (.cells #[.int .i64 0,.int .i64 0,.slice none 0 0,.int .i64 0,.int .i64 0,.slice none 0 0,.int .i64 0,.int .i64 0,.slice none 0 0] 110)).alloc (.cells #[.int .i64 0,.int .i64 0,.slice none 0 0,.int .i64 0,.int .i64 0,.slice none 0 0,.int .i64 0,.int .i64 0,.slice none 0 0] 110)) w.heap.size 110 #[.int .i64 0,.int .i64 0,.slice none 0 0,.int .i64 0,.int .i64 0,.slice none 0 0,.int .i64 0,.int .i64 0,.slice none 0 0]:=(Blk.new _ _ _).alloc _;have hf0:Blk ((w.alloc (.cells #[.int .i64 0,.int .i64 0,.slice none 0 0,.int .i64 0,.int .i64 0,.slice none 0 0,.int .i64 0,.int .i64 0,.slice none 0 0] 110)).alloc (.cells #[.int .i64 0,.int .i64 0,.slice none 0 0,.int .i64 0,.int .i64 0,.slice none 0 0,.int .i64 0,.int .i64 0,.slice none 0 0] 110)) (w.heap.size+1) 110 #[.int .i64 0,.int .i64 0,.slice none 0 0,.int .i64 0,.int .i64 0,.slice none 0 0,.int .i64 0,.int .i64 0,.slice none 0 0]:=by
  have h:=Blk.new (w.alloc (.cells #[.int .i64 0,.int .i64 0,.slice none 0 0,.int .i64 0,.int .i64 0,.slice none 0 0,.int .i64 0,.int .i64 0,.slice none 0 0] 110)) 110 #[.int .i64 0,.int .i64 0,.slice none 0 0,.int .i64 0,.int .i64 0,.slice none 0 0,.int .i64 0,.int .i64 0,.slice none 0 0];simpa using h
 have M0:Mod (fun _=>False) w ((w.alloc (.cells #[.int .i64 0,.int .i64 0,.slice none 0 0,.int .i64 0,.int .i64 0,.slice none 0 0,.int .i64 0,.int .i64 0,.slice none 0 0] 110)).alloc (.cells #[.int .i64 0,.int .i64 0,.slice none 0 0,.int .i64 0,.int .i64 0,.slice none 0 0,.int .i64 0,.int .i64 0,.slice none 0 0] 110)):=((Mod.refl _ _).alloc _).alloc _;generalize ((w.alloc (.cells #[.int .i64 0,.int .i64 0,.slice none 0 0,.int .i64 0,.int .i64 0,.slice none 0 0,.int .i64 0,.int .i64 0,.slice none 0 0] 110)).alloc (.cells #[.int .i64 0,.int .i64 0,.slice none 0 0,.int .i64 0,.int .i64 0,.slice none 0 0,.int .i64 0,.int .i64 0,.slice none 0 0] 110))=w0 at *;have hs0:=M0.size;obtain⟨res,hres⟩:∃res,res=w.heap.size:=⟨_,rfl⟩
 obtain⟨fb,hfb⟩:∃fb,fb=w.heap.size+1:=⟨_,rfl⟩
 rw [<-hfb]at hf0 ⊢;rw [<-hres]at hr0 ⊢;have n1:res≠fb:=by omega
 have n2:w.heap.size<=res:=by omega
 have n3:w.heap.size<=fb:=by omega
 have rl:=hr0.lt;have fl:=hf0.lt;clear hfb hres;have HB0:=Lib.hid (And.intro hr0 (And.intro hf0 M0));clear hr0 hf0 M0;refine(pNew' _ d.W d.H d.nY v HD.out.1.sides HD.out.1.ny).mono ?_;rintro e w2 ⟨gy,rfl,by2,gy2,hm2⟩;have hr2:=HB0.out.1.keep hm2 (fun h=>h);have hf2:=HB0.out.2.1.keep hm2 (fun h=>h);obtain⟨fc,ff⟩:=hf2.both;have fl2:=hf2.lt;have M2:=HB0.out.2.2.trans hm2;have hf2':Blk (((w2.setCell ⟨fb,0,none⟩ (.int .i64 (d.W:Int))).setCell ⟨fb,1,none⟩ (.int .i64 (d.H:Int))).setCell ⟨fb,2,none⟩ (.slice (some ⟨gy,0,none⟩) d.nY d.nY)) fb 110 #[.int .i64 (d.W:Int),.int .i64 (d.H:Int),.slice (some ⟨gy,0,none⟩) d.nY d.nY,.int .i64 0,.int .i64 0,.slice none 0 0,.int .i64 0,.int .i64 0,.slice none 0 0]:=((hf2.set_ 0 _).set_ 1 _).set_ 2 _;have by2':=((by2.far (p:=⟨fb,0,none⟩) (by dsimp;omega) (.int .i64 (d.W:Int))).far (p:=⟨fb,1,none⟩) (by dsimp;omega) (.int .i64 (d.H:Int))).far (p:=⟨fb,2,none⟩) (by dsimp;omega) (.slice (some ⟨gy,0,none⟩) d.nY d.nY);have hr2':=((hr2.far (p:=⟨fb,0,none⟩) n1 (.int .i64 (d.W:Int))).far (p:=⟨fb,1,none⟩) n1 (.int .i64 (d.H:Int))).far (p:=⟨fb,2,none⟩) n1 (.slice (some ⟨gy,0,none⟩) d.nY d.nY);have M2':=((M2.setCell (p:=⟨fb,0,none⟩) (.inr n3) (.int .i64 (d.W:Int))).setCell (p:=⟨fb,1,none⟩) (.inr n3) (.int .i64 (d.H:Int))).setCell (p:=⟨fb,2,none⟩) (.inr n3) (.slice (some ⟨gy,0,none⟩) d.nY d.nY);have HB2:=Lib.hid (And.intro hr2' (And.intro hf2' (And.intro by2' M2')));have hgy:fb<gy:=by omega
 clear hr2 hf2 by2 M2 hm2 hr2' hf2' by2' M2' HB0;have q1:=HD.out.2.2.1;have q2:=HD.out.2.2.2;go_wp2_with fail;clear q1 q2 fc ff fl2;generalize (((w2.setCell ⟨fb,0,none⟩ (.int .i64 (d.W:Int))).setCell ⟨fb,1,none⟩ (.int .i64 (d.H:Int))).setCell ⟨fb,2,none⟩ (.slice (some ⟨gy,0,none⟩) d.nY d.nY))=w3 at *;have hs3:=HB2.out.2.2.2.size;have gyl:=HB2.out.2.2.1.lt;refine(pNew' _ d.W2 d.H2 d.nC v HD.out.2.1 HD.out.1.nc).mono ?_;rintro e w4 ⟨gu,rfl,bu4,gu4,hm4⟩;have hr4:=HB2.out.1.keep hm4 (fun h=>h);have hf4:=HB2.out.2.1.keep hm4 (fun h=>h);have by4:=HB2.out.2.2.1.keep hm4 (fun h=>h);have M4:=HB2.out.2.2.2.trans hm4;have fl3:=HB2.out.2.1.lt;obtain⟨fc,ff⟩:=hf4.both;have fl4:=hf4.lt;have HB4:=Lib.hid (And.intro hr4 (And.intro hf4 (And.intro by4 (And.intro M4 bu4))));clear hr4 hf4 by4 M4 hm4 bu4 HB2;have q1:=HD.out.2.2.1;have q2:=HD.out.2.2.2;go_wp2_with fail;clear q1 q2 fc ff fl4;have hf5:=((HB4.out.2.1.set_ 3 (.int .i64 (d.W2:Int))).set_ 4 (.int .i64 (d.H2:Int))).set_ 5 (.slice (some ⟨gu,0,none⟩) d.nC d.nC);have by5:=((HB4.out.2.2.1.far (p:=⟨fb,3,none⟩) (by dsimp;omega) (.int .i64 (d.W2:Int))).far (p:=⟨fb,4,none⟩) (by dsimp;omega) (.int .i64 (d.H2:Int))).far (p:=⟨fb,5,none⟩) (by dsimp;omega) (.slice (some ⟨gu,0,none⟩) d.nC d.nC);have bu5:=((HB4.out.2.2.2.2.far (p:=⟨fb,3,none⟩) (by dsimp;omega) (.int .i64 (d.W2:Int))).far (p:=⟨fb,4,none⟩) (by dsimp;omega) (.int .i64 (d.H2:Int))).far (p:=⟨fb,5,none⟩) (by dsimp;omega) (.slice (some ⟨gu,0,none⟩) d.nC d.nC);have hr5:=((HB4.out.1.far (p:=⟨fb,3,none⟩) n1 (.int .i64 (d.W2:Int))).far (p:=⟨fb,4,none⟩) n1 (.int .i64 (d.H2:Int))).far (p:=⟨fb,5,none⟩) n1 (.slice (some ⟨gu,0,none⟩) d.nC d.nC);have M5:=((HB4.out.2.2.2.1.setCell (p:=⟨fb,3,none⟩) (.inr n3) (.int .i64 (d.W2:Int))).setCell (p:=⟨fb,4,none⟩) (.inr n3) (.int .i64 (d.H2:Int))).setCell (p:=⟨fb,5,none⟩) (.inr n3) (.slice (some ⟨gu,0,none⟩) d.nC d.nC);have hf5':Blk (((w4.setCell ⟨fb,3,none⟩ (.int .i64 (d.W2:Int))).setCell ⟨fb,4,none⟩ (.int .i64 (d.H2:Int))).setCell ⟨fb,5,none⟩ (.slice (some ⟨gu,0,none⟩) d.nC d.nC)) fb 110 #[.int .i64 (d.W:Int),.int .i64 (d.H:Int),.slice (some ⟨gy,0,none⟩) d.nY d.nY,.int .i64 (d.W2:Int),.int .i64 (d.H2:Int),.slice (some ⟨gu,0,none⟩) d.nC d.nC,.int .i64 0,.int .i64 0,.slice none 0 0]:=hf5;have HB5:=Lib.hid (And.intro hr5 (And.intro hf5' (And.intro by5 (And.intro M5 bu5))));clear hf5 hf5' by5 bu5 hr5 M5;have hgu:gy<gu:=by omega
 generalize (((w4.setCell ⟨fb,3,none⟩ (.int .i64 (d.W2:Int))).setCell ⟨fb,4,none⟩ (.int .i64 (d.H2:Int))).setCell ⟨fb,5,none⟩ (.slice (some ⟨gu,0,none⟩) d.nC d.nC))=w5 at *;have gul:=HB5.out.2.2.2.2.lt;refine(pNew' _ d.W2 d.H2 d.nC v HD.out.2.1 HD.out.1.nc).mono ?_;rintro e w6 ⟨gv,rfl,bv6,gv6,hm6⟩;have hgv:gu<gv:=by omega
 have hr6:=HB5.out.1.keep hm6 (fun h=>h);have hf6:=HB5.out.2.1.keep hm6 (fun h=>h);have by6:=HB5.out.2.2.1.keep hm6 (fun h=>h);have bu6:=HB5.out.2.2.2.2.keep hm6 (fun h=>h);have M6:=HB5.out.2.2.2.1.trans hm6;obtain⟨fc,ff⟩:=hf6.both;obtain⟨rc,rf⟩:=hr6.both;have fl6:=hf6.lt;have rl6:=hr6.lt;have HB6:=Lib.hid (And.intro by6 (And.intro bu6 (And.intro bv6 M6)));clear hr6 hf6 by6 bu6 bv6 M6 hm6 HB5 HB4;go_wp2_with fail;refine bodyPost_ret (v:=.tuple #[.agg (frameV d gy gu gv).toArray,.int .i64 0]) (by simp [results,Tryz.results35,go_sem,rc,frameV]) rfl ⟨_,rfl,⟨gy,gu,gv,rfl,⟨?_,?_,?_,by simp [blankPix],by simp [blankPix],by simp [blankPix],by omega,by omega,by omega⟩,by omega,by omega,by omega⟩,?_⟩
 ·have h:Blk w6 gy 5 (u8s (blankPix d v).Y).toArray:=HB6.out.1;have k1:gy≠res:=by omega
  have k2:gy≠fb:=by omega
  exact(by repeat' (first|with_reducible exact h|with_reducible refine Blk.far ?_ k1 _|with_reducible refine Blk.far ?_ k2 _))
 ·have h:Blk w6 gu 5 (u8s (blankPix d v).U).toArray:=HB6.out.2.1;have k1:gu≠res:=by omega
  have k2:gu≠fb:=by omega
  exact(by repeat' (first|with_reducible exact h|with_reducible refine Blk.far ?_ k1 _|with_reducible refine Blk.far ?_ k2 _))
 ·have h:Blk w6 gv 5 (u8s (blankPix d v).V).toArray:=HB6.out.2.2.1;have k1:gv≠res:=by omega
  have k2:gv≠fb:=by omega
  exact(by repeat' (first|with_reducible exact h|with_reducible refine Blk.far ?_ k1 _|with_reducible refine Blk.far ?_ k2 _))
 ·have h:=HB6.out.2.2.2;exact(by repeat' (first|with_reducible exact h|with_reducible refine Mod.setCell ?_ (.inr n2) _|with_reducible refine Mod.setCell ?_ (.inr n3) _))
end Go.Proofs.YtnnpoodcdibpiaaGreatDoor
