/-
  encoder: how far two blocks are apart.
-/
import Derived.Test.YtnnpoodcdibpiaaGreatDoorB10
namespace Go.Proofs.YtnnpoodcdibpiaaGreatDoor
open Go.RowKit
set_option maxRecDepth 100000
set_option maxHeartbeats 8000000
def EFarRel(a b:List UInt8)(n:Nat)(w:World)(v3 v7:Value)(wr:World):Prop:=∃k:Nat,k<=n/\v7=.int .i64 (k:Int)/\v3=.int .i64 ((farTo a b k:Nat):Int)/\Mod (fun _=>False) w wr
theorem ea_val(x y s z:Nat)(hx:x<256)(hy:y<256)(hz:((x:Int)-(y:Int)).natAbs=z)(hs:s<=1048576):
  IntKind.i64.wrap ((s:Int)+IntKind.i64.wrap ((if IntKind.i64.wrap (x:Int)<IntKind.i64.wrap (y:Int)then IntKind.i64.wrap (y:Int)else IntKind.i64.wrap (x:Int))-if IntKind.i64.wrap (y:Int)<IntKind.i64.wrap (x:Int)then IntKind.i64.wrap (y:Int)else IntKind.i64.wrap (x:Int)))=((s+z:Nat):Int):=by
 rw [IntWalk.i64_in (x:Int) ⟨by omega,by omega⟩,IntWalk.i64_in (y:Int) ⟨by omega,by omega⟩];have h:((if(x:Int)<(y:Int)then(y:Int)else(x:Int))-if(y:Int)<(x:Int)then(y:Int)else(x:Int))=(z:Int):=by
  split<;>split<;>omega
 rw [h,IntWalk.i64_in (z:Int) ⟨by omega,by omega⟩,IntWalk.i64_in _ ⟨by omega,by omega⟩];omega
theorem eApart(w:World)(A:Option Addr)(n c:Nat)(a:List UInt8)(A2:Option Addr)(c2:Nat)(b:List UInt8)(hin:BytesIn w A n c a)(hin2:BytesIn w A2 n c2 b)(hn0:0<n)(hn:n<=4096):
  Calls Tryz.prog 300 #[.slice A n c,.slice A2 n c2] w fun e w'=>e=.returned (.int .i64 ((farTo a b n:Nat):Int))/\Mod (fun _=>False) w w':=by
 obtain⟨ba,oa,rfl,hba,hca⟩:=hin.place hn0;obtain⟨bb,ob2,rfl,hbb,hcb⟩:=hin2.place hn0;have HC:=Lib.hid (And.intro hca hcb);clear hca hcb hin hin2;go_enter Tryz.func300,Tryz.ntmps300;go_wp2_with fail;go_loopw [5,12] (EFarRel a b n w) (fun _ i _=>n-(intOf i).toNat)
 case atStart=>exact⟨0,by omega,rfl,rfl,Mod.refl _ _⟩
 case round=>
  obtain⟨k,hk,rfl,rfl,hM⟩:=hrel;rename World=>wr
  by_cases hlt:k<n
  ·have hMd:=hM.drew;have hck:wr.drew.cell? ⟨ba,oa+k,none⟩=some (.int .u8 ((a.getD k 0).toNat:Int)):=(World.cell?_of_block (hMd.block ba hba (fun h=>h))).trans (HC.out.1 k hlt);have hck2:wr.drew.cell? ⟨bb,ob2+k,none⟩=some (.int .u8 ((b.getD k 0).toNat:Int)):=(World.cell?_of_block (hMd.block bb hbb (fun h=>h))).trans (HC.out.2 k hlt);have hx:(a.getD k 0).toNat<256:=UInt8.toNat_lt _;have hy:(b.getD k 0).toNat<256:=UInt8.toNat_lt _;have hfl:=farTo_le a b k;have HF:Hid (farTo a b (k+1)=farTo a b k+(((a.getD k 0).toNat:Int)-((b.getD k 0).toNat:Int)).natAbs):=rfl;generalize (a.getD k 0).toNat=x at *;generalize (b.getD k 0).toNat=y at *;generalize farTo a b k=s at *;obtain⟨p,hp⟩:∃p,p=max x y:=⟨_,rfl⟩
   obtain⟨q,hq⟩:∃q,q=min x y:=⟨_,rfl⟩
   have e1:max (x:Int) (y:Int)=(p:Int):=by omega
   have e2:min (x:Int) (y:Int)=(q:Int):=by omega
   have hqp:q<=p:=by omega
   have hp8:p<256:=by omega
   obtain⟨z,ez⟩:∃z:Nat,(p:Int)-(q:Int)=(z:Int):=⟨p-q,by omega⟩
   have hz:((x:Int)-(y:Int)).natAbs=z:=by omega
   have hz8:z<256:=by omega
   rw [hz]at HF;have i1:(0:Int)<=(k:Int):=by omega
   have i2:(k:Int)<(n:Int):=by omega
   have HM:=Lib.hid hMd;have HV:=Lib.hid (ea_val x y s z hx hy hz (by omega));clear hp hq hz hM hMd e1 e2 ez;go_upto_region 5 with(fail)
   refine wp_region_planS [] [] (0 :: 1 :: 2 :: 3 :: 4 :: 5 :: 6 :: 7 :: 8 :: 9 :: 10 :: 11 :: 12 :: 13 :: 14 :: 15 :: 16 :: 17 :: 18 :: 19 :: 20 :: 21 :: 22 :: 23 :: 24 :: 25 :: []) (fun _=>True) (by kernel_rfl) (by kernel_rfl) (fun _ _ _ d _ h=>by cases d<;>exact h) trivial ?_;iterate 26 (refine planS_still rfl rfl (fun K hK=>?_);go_simp;refine hK _ ?_;clear hK K)
   refine planS_done ?_;go_wp2_with fail;go_roundw
   case rel=>exact⟨k+1,by omega,by go_num,by rw [HF.out,HV.out],HM.out⟩
   case measure=>simp [intOf];omega
  ·obtain rfl:k=n:=by omega
   have HM:=Lib.hid hM;clear hM;go_wp2_with fail;go_ret;exact⟨rfl,HM.out⟩
def sumTo(b:List UInt8):Nat->Nat
 | 0=>0
 | k+1=>sumTo b k+(b.getD k 0).toNat
def offTo(b:List UInt8)(m:Nat):Nat->Nat
 | 0=>0
 | k+1=>offTo b m k+(((b.getD k 0).toNat:Int)-(m:Int)).natAbs
def roughL(b:List UInt8):Nat:=offTo b (sumTo b 256/256) 256
theorem sumTo_le(b:List UInt8)(k:Nat):sumTo b k<=k*255:=by
 induction k with
 | zero=>exact Nat.le_refl _
 | succ k ih=>
  have:=UInt8.toNat_lt (b.getD k 0);unfold sumTo;omega
theorem offTo_le(b:List UInt8)(m k:Nat)(hm:m<=255):offTo b m k<=k*255:=by
 induction k with
 | zero=>exact Nat.le_refl _
 | succ k ih=>
  have:=UInt8.toNat_lt (b.getD k 0);unfold offTo;omega
theorem roughL_le(b:List UInt8):roughL b<=65280:=by
 have h:=sumTo_le b 256;exact offTo_le b _ 256 (by omega)
def SumRel(b:List UInt8)(w:World)(v3 v12:Value)(wr:World):Prop:=∃k:Nat,k<=256/\v12=.int .i64 (k:Int)/\v3=.int .i64 ((sumTo b k:Nat):Int)/\w=wr
def OffRel(b:List UInt8)(m:Nat)(w:World)(v7 v25:Value)(wr:World):Prop:=∃k:Nat,k<=256/\v25=.int .i64 (k:Int)/\v7=.int .i64 ((offTo b m k:Nat):Int)/\w=wr
theorem eRough(w:World)(A:Option Addr)(c:Nat)(b:List UInt8)(hin:BytesIn w A 256 c b):Calls Tryz.prog 304 #[.slice A 256 c] w fun e w'=>e=.returned (.int .i64 ((roughL b:Nat):Int))/\w=w':=by
 obtain⟨ba,oa,rfl,hba,hca⟩:=hin.place (by omega);have HC:=Lib.hid hca;clear hca hin;go_enter Tryz.func304,Tryz.ntmps304;go_wp2_with fail;go_loopw [3,12] (SumRel b w) (fun _ i _=>256-(intOf i).toNat)
 case atStart=>exact⟨0,by omega,rfl,rfl,rfl⟩
 case round=>
  obtain⟨k,hk,rfl,rfl,rfl⟩:=hrel;by_cases hlt:k<256
  ·have d1:decide ((k:Int)<256)=true:=decide_eq_true (by omega);have hck:=HC.out k hlt;have hx:=UInt8.toNat_lt (b.getD k 0);have hs:=sumTo_le b k;have HF:Hid (sumTo b (k+1)=sumTo b k+(b.getD k 0).toNat):=rfl;generalize (b.getD k 0).toNat=x at *;generalize sumTo b k=s at *;have i1:(0:Int)<=(k:Int):=by omega
   have hs2:s<=65280:=by omega
   go_wp2_with fail;go_roundw
   case rel=>exact⟨k+1,by omega,by go_num,by rw [HF.out];push_cast;rfl,rfl⟩
   case measure=>simp [intOf];omega
  ·obtain rfl:k=256:=by omega
   obtain⟨m,hm⟩:∃m,m=sumTo b 256/256:=⟨_,rfl⟩
   have hs:=sumTo_le b 256;have HR:Hid (roughL b=offTo b m 256):=by show _=_;rw [hm];rfl
   generalize sumTo b 256=s at *;have hs2:s<=65280:=by omega
   have hm2:m<=255:=by omega
   have q1:(s:Int).tdiv 256=(m:Int):=by rw [Int.tdiv_eq_ediv_of_nonneg (by omega)];omega
   clear hm hs;go_wp2_with fail;go_loopw [7,25] (OffRel b m w) (fun _ i _=>256-(intOf i).toNat)
   case atStart=>exact⟨0,by omega,rfl,rfl,rfl⟩
   case round=>
    obtain⟨k,hk,rfl,rfl,rfl⟩:=hrel;by_cases hlt2:k<256
    ·have d1:decide ((k:Int)<256)=true:=decide_eq_true (by omega);have hck:=HC.out k hlt2;have hx:=UInt8.toNat_lt (b.getD k 0);have hs:=offTo_le b m k hm2;have HF:Hid (offTo b m (k+1)=offTo b m k+(((b.getD k 0).toNat:Int)-(m:Int)).natAbs):=rfl;generalize (b.getD k 0).toNat=x at *;generalize offTo b m k=t at *;have i1:(0:Int)<=(k:Int):=by omega
     have ht2:t<=65280:=by omega
     go_wp2_with fail;go_roundw
     case rel=>exact⟨k+1,by omega,by go_num,congrArg (Value.int .i64) (by rw [HF.out];split<;>split<;>omega),rfl⟩
     case measure=>simp [intOf];omega
    ·obtain rfl:k=256:=by omega
     go_wp2_with fail;go_ret;exact⟨by rw [HR.out];rfl,rfl⟩
def sorTo(b:List Int):Nat->List Int
 | 0=>List.replicate 64 0
 | k+1=>(sorTo b k).set k (b.getD (ord8.getD k 0).toNat 0)
theorem sorTo_length(b:List Int)(k:Nat):(sorTo b k).length=64:=by
 induction k with
 | zero=>simp [sorTo]
 | succ k ih=>simp [sorTo,ih]
def sortL(b:List Int):List Int:=sorTo b 64
def SorRel(w:World)(ob:Nat)(b:List Int)(v18:Value)(wr:World):Prop:=∃k:Nat,k<=64/\v18=.int .i64 (k:Int)/\Blk wr ob 3 (i64s (sorTo b k)).toArray/\Mod (·=ob) w wr
theorem lSort(w:World)(A:Option Addr)(c:Nat)(l:List Int)(hin:IntsIn w A 64 c l):Calls Tryz.prog 363 #[.slice A 64 c] w fun e w'=>∃ob,e=.returned (.slice (some ⟨ob,0,none⟩) 64 64)/\Blk w' ob 3 (i64s (sortL l)).toArray/\w.heap.size<=ob/\Mod (fun _=>False) w w':=by
 obtain⟨b,off,hA,hb,hcell⟩:=hin.place (by omega);subst hA;have HC:=Lib.hid hcell;clear hcell hin;go_enter Tryz.func363,Tryz.ntmps363;go_wp2_with fail;refine(liftSide _ 64 (by omega)).mono ?_;rintro e w1 ⟨rfl,rfl⟩;rw [show((sideOf 64:Nat):Int)=8 from rfl];go_wp2_with (refine wpList_mk_int _ rfl (.tmp 13) (.tmp 13) rfl 64 rfl rfl (by omega) ?_;intro w1 hb1 hm1;have HO:=Lib.hid (And.intro hb1 hm1);clear hb1 hm1)
 refine(lOrder _).mono ?_;rintro e w2 ⟨b2,c2,rfl,hbb2,hin2,hm2⟩;obtain⟨_,off2,hA2,hb2,hcell2⟩:=hin2.place (by omega);injection hA2 with hA2;injection hA2 with hA2 hA3 _;subst hA2 hA3;have hob:=HO.out.1.keep hm2 (fun h=>h);have M2:=HO.out.2.trans hm2;have HC2:=Lib.hid hcell2;obtain⟨ob,hobe⟩:∃ob,ob=w.heap.size:=⟨_,rfl⟩
 rw [<-hobe]at hob ⊢;have hlo:=HO.out.1.lt;have hb2n:¬b2=ob:=by omega
 clear hlo hbb2;have hbn:¬b=ob:=by omega
 have how:w.heap.size<=ob:=by omega
 have HH:=Lib.hid (And.intro hob M2);clear hcell2 hin2 hm2 HO hob M2 hobe;go_wp2_with fail;go_loopw [18] (SorRel w2 ob l) (fun i _=>64-(intOf i).toNat)
 case atStart=>exact⟨0,by omega,rfl,HH.out.1,Mod.refl _ _⟩
 case round=>
  obtain⟨k,hk,rfl,hbk,hM⟩:=hrel;by_cases hlt:k<64
  ·have dk:decide ((k:Int)<64)=true:=decide_eq_true (by omega);have p0:(0:Int)<=(k:Int):=by omega
   have p1:(k:Int)<64:=by omega
   have hMw:Mod (·=ob) w wr:=(HH.out.2.mono (fun _ h=>h.elim)).trans hM;have k2:wr.cell? ⟨b2,k,none⟩=some (.int .i64 (ord8.getD k 0)):=(World.cell?_of_block (hM.block b2 hb2 hb2n)).trans (by have:=HC2.out k hlt;rwa [Nat.zero_add]at this);have hpl:=ord8_facts.2 k hlt;obtain⟨pl,hpe⟩:∃pl:Nat,(pl:Int)=ord8.getD k 0:=⟨(ord8.getD k 0).toNat,by omega⟩
   rw [<-hpe]at k2 hpl;have k1:wr.cell? ⟨b,off+pl,none⟩=some (.int .i64 (l.getD pl 0)):=(World.cell?_of_block (hMw.block b hb hbn)).trans (HC.out pl (by omega));have HS:Hid (sorTo l (k+1)=(sorTo l k).set k (l.getD pl 0)):=by show _=_;rw [sorTo,<-hpe];simp
   clear hpe;generalize l.getD pl 0=v at *;have p2:(0:Int)<=(pl:Int):=by omega
   have p3:(pl:Int)<64:=by omega
   have k3:wr.cell? ⟨ob,k,none⟩=some (.int .i64 ((sorTo l k).getD k 0)):=by rw [hbk.cell];simp [i64s,List.getD_eq_getElem?_getD,sorTo_length,show k<64 by omega]
   have f3:=hbk.frozen k;have HB:=Lib.hid (And.intro hbk (And.intro hM hMw));have hl:=hbk.lt;clear hbk hM hMw hpl;generalize (sorTo l k).getD k 0=old at *;go_wp2_with fail;go_roundw
   case rel=>
    refine⟨k+1,by omega,by go_num,?_,HB.out.2.1.setCell (.inl rfl) _⟩;rw [HS.out];exact HB.out.1.put (by simp [i64s,List.map_set])
   case measure=>simp [intOf];omega
  ·obtain rfl:k=64:=by omega
   have HB:=Lib.hid (And.intro hbk hM);clear hbk hM;go_wp2_with fail;go_ret;exact⟨ob,rfl,HB.out.1,how,HH.out.2.into HB.out.2 (fun i e=>.inr (by omega))⟩
def eaddAt:Nat->List UInt8->Nat->List UInt8
 | 0,L,_=>L
 | i+1,L,c=>if c=0 then L else eaddAt i (L.set i (UInt8.ofNat ((c+(L.getD i 0).toNat) % 256))) ((c+(L.getD i 0).toNat)/256)
def eadd(code:List UInt8)(c:Nat):List UInt8:=eaddAt code.length code c
def enorm(code:List UInt8)(w:Nat):List UInt8 × Nat:=if w<16777216 then(code++[0],w*256)else(code,w)
def eput(code:List UInt8)(wide c bit:Nat):List UInt8 × Nat:=if bit=0 then enorm code (wide/2048*c)else enorm (eadd code (wide/2048*c)) (wide-wide/2048*c)
theorem eaddAt_length(i:Nat):∀(L:List UInt8) (c:Nat),(eaddAt i L c).length=L.length:=by
 induction i with
 | zero=>intro L c;rfl
 | succ i ih=>
  intro L c;unfold eaddAt;split
  ·rfl
  ·rw [ih,List.length_set]
theorem eadd_length(L:List UInt8)(c:Nat):(eadd L c).length=L.length:=eaddAt_length _ _ _
theorem eaddAt_0(i:Nat)(L:List UInt8):eaddAt i L 0=L:=by
 cases i<;>simp [eaddAt]
theorem enorm_length(L:List UInt8)(w:Nat):L.length<=(enorm L w).1.length/\(enorm L w).1.length<=L.length+1:=by
 unfold enorm;split<;>simp
theorem eput_length(L:List UInt8)(w c b:Nat):L.length<=(eput L w c b).1.length/\(eput L w c b).1.length<=L.length+1:=by
 unfold eput;split
 ·exact enorm_length _ _
 ·have:=enorm_length (eadd L (w/2048*c)) (w-w/2048*c);rwa [eadd_length]at this
theorem ebound_lt{w c:Nat}(hc:31<=c/\c<=2017)(hw:16777216<=w/\w<4294967296):253952<=w/2048*c/\w/2048*c+253952<=w:=by
 obtain⟨h1,h2⟩:=hc;have a1:8192*31<=w/2048*c:=Nat.mul_le_mul (by omega) h1;have a2:w/2048*c<=w/2048*2017:=Nat.mul_le_mul_left _ h2;omega
theorem Bytes.ne_{w:World}{B b n c:Nat}{l:List UInt8}(h:Bytes w B (.slice (some ⟨b,0,none⟩) n c) l){g:Nat}{t:TypeId}{cs:Array Value}(hb:Blk w g t cs)(ht:t≠5):b≠g:=by
 rintro rfl;rcases h.2 with⟨h',_⟩|⟨g',cap',cur,h',_,hg,_⟩
 ·cases h'
 ·injection h' with e1 e2 e3;injection e1 with e1;injection e1 with e1 _ _;subst e1;have h2:w.heap[b]?=some (.cells cs t (0,0)):=hb;rw [hg]at h2;injection h2 with h2;injection h2 with _ h3 _;exact ht h3.symm
theorem Bytes.far{w:World}{B b n c:Nat}{l:List UInt8}(h:Bytes w B (.slice (some ⟨b,0,none⟩) n c) l){p:Addr}(hp:b≠p.block)(u:Value):Bytes (w.setCell p u) B (.slice (some ⟨b,0,none⟩) n c) l:=
 h.mod ((Mod.refl (·=p.block) w).setCell (.inl rfl) u) (fun g e=>by simp only [Value.ownBlock,Option.some.injEq]at e;subst e;exact hp)
theorem Bytes.put{w:World}{B b n c:Nat}{l:List UInt8}(h:Bytes w B (.slice (some ⟨b,0,none⟩) n c) l)(i:Nat)(x:UInt8):Bytes (w.setCell ⟨b,i,none⟩ (.int .u8 (x.toNat:Int))) B (.slice (some ⟨b,0,none⟩) n c) (l.set i x):=by
 have hn:n=l.length:=by
  rcases h.2 with⟨h',_⟩|⟨g',cap',cur,h',_⟩
  ·cases h'
  ·injection h'
 subst hn;have h1:=(World.ownsRow.stored h i (.int .u8 (x.toNat:Int))).1;have e:u8s (l.set i x)=(u8s l).set i (.int .u8 (x.toNat:Int)):=by simp [u8s,List.map_set]
 unfold Bytes;rw [e,List.length_set];exact h1
theorem Bytes.low{w:World}{B b n c:Nat}{l:List UInt8}(h:Bytes w B (.slice (some ⟨b,0,none⟩) n c) l):B<=b/\b<w.heap.size:=World.ownsRow.lt h b rfl
theorem Bytes.frozen{w:World}{B b n c:Nat}{l:List UInt8}(h:Bytes w B (.slice (some ⟨b,0,none⟩) n c) l)(j:Nat):w.frozen? ⟨b,j,none⟩=false:=by
 have hn:n=l.length:=by
  rcases h.2 with⟨h',_⟩|⟨g',cap',cur,h',_⟩
  ·cases h'
  ·injection h'
 subst hn;exact World.ownsRow.frozenAt h j
theorem Bytes.putN{w:World}{B b n c:Nat}{l:List UInt8}(h:Bytes w B (.slice (some ⟨b,0,none⟩) n c) l)(i v:Nat)(hv:v<256):Bytes (w.setCell ⟨b,i,none⟩ (.int .u8 (v:Int))) B (.slice (some ⟨b,0,none⟩) n c) (l.set i (UInt8.ofNat v)):=by
 have h1:=h.put i (UInt8.ofNat v);rwa [UInt8.toNat_ofNat',Nat.mod_eq_of_lt hv]at h1
theorem Bytes.apart{w:World}{B:Nat}{v:Value}{l:List UInt8}(h:Bytes w B v l){g:Nat}{t:TypeId}{cs:Array Value}(hb:Blk w g t cs)(ht:t≠5):¬v.ownBlock=some g:=by
 intro e;rcases h.2 with⟨h',_⟩|⟨g',cap',cur,h',_,hg,_⟩
 ·rw [h']at e;cases e
 ·rw [h']at e;simp only [Value.ownBlock,Option.some.injEq]at e;subst e;have h2:w.heap[g']?=some (.cells cs t (0,0)):=hb;rw [hg]at h2;injection h2 with h2;injection h2 with _ h3 _;exact ht h3.symm
theorem Bytes.down{w:World}{B B':Nat}{v:Value}{l:List UInt8}(h:Bytes w B v l)(hB:B'<=B):Bytes w B' v l:=
 ⟨h.1,h.2.imp id fun⟨g,cap,cur,h1,h2,h3⟩=>⟨g,cap,cur,h1,Nat.le_trans hB h2,h3⟩⟩
structure EAt(w:World)(g:Nat)(v:Value)(code:List UInt8)(wide:Nat):Prop where
 blk:Blk w g 363 #[v,.int .u32 (wide:Int)]
 own:Bytes w 0 v code
 four:4<=code.length
 lo:16777216<=wide
 hi:wide<4294967296
theorem EAt.quiet{w w':World}{g:Nat}{v:Value}{code:List UInt8}{wide:Nat}(h:EAt w g v code wide)(hm:Mod (fun _=>False) w w'):EAt w' g v code wide:=⟨h.blk.keep hm (fun h=>h),h.own.quiet hm,h.four,h.lo,h.hi⟩
theorem EAt.shape{w:World}{g:Nat}{v:Value}{code:List UInt8}{wide:Nat}(h:EAt w g v code wide):∃r k,v=.slice (some ⟨r,0,none⟩) code.length k/\r≠g:=by
 obtain⟨A,k,rfl⟩:=own_shape h.own;obtain⟨r,rfl,_⟩:=h.own.some_ (by have:=h.four;omega);exact⟨r,k,rfl,h.own.ne_ h.blk (by decide)⟩
theorem eBegin(w:World)(g:Nat)(v:Value)(code:List UInt8)(wide:Nat)(h:EAt w g v code wide):Calls Tryz.prog 242 #[.pointer (some ⟨g,0,none⟩)] w fun e w'=>e=.returned (.tuple #[])/\w=w':=by
 obtain⟨r,k,rfl,_⟩:=h.shape;obtain⟨bc,bf⟩:=h.blk.both;have d1:(((code.length:Nat):Int) == 0)=false:=by have:=h.four;simp;intro e;simp [e]at this
 clear h;go_enter Tryz.func242,Tryz.ntmps242;go_wp2_with fail;go_end0
 exact⟨rfl,rfl⟩
theorem eBegin0(w:World)(g:Nat)(h:Blk w g 363 #[.slice none 0 0,.int .u32 0]):Calls Tryz.prog 242 #[.pointer (some ⟨g,0,none⟩)] w fun e w'=>e=.returned (.tuple #[])/\EAt w' g (.slice (some ⟨w.heap.size,0,none⟩) 4 4) [0,0,0,0] 4294967295/\Mod (·=g) w w':=by
 obtain⟨bc,bf⟩:=h.both;have bl:=h.lt;have hmk:(Instr.makeSlice 22 (.int .i64 4) (.int .i64 4)).run Tryz.prog w=.ok (.slice (some ⟨w.heap.size,0,none⟩) 4 4) (w.alloc (.cells (u8s [0,0,0,0]).toArray 5)):=run_mk_u8 w 4 (by omega);have H:=Lib.hid h;clear h;go_enter Tryz.func242,Tryz.ntmps242;go_wp2_with fail;go_end0
 have hb:=((H.out.put (i:=0) (u:=.slice (some ⟨w.heap.size,0,none⟩) 4 4) rfl).put (i:=1) (u:=.int .u32 4294967295) rfl).alloc (.cells (u8s [0,0,0,0]).toArray 5);have hr:Blk (((w.setCell ⟨g,0,none⟩ (.slice (some ⟨w.heap.size,0,none⟩) 4 4)).setCell ⟨g,1,none⟩ (.int .u32 4294967295)).alloc (.cells (u8s [0,0,0,0]).toArray 5)) w.heap.size 5 (u8s [0,0,0,0]).toArray:=by
  have:=Blk.new ((w.setCell ⟨g,0,none⟩ (.slice (some ⟨w.heap.size,0,none⟩) 4 4)).setCell ⟨g,1,none⟩ (.int .u32 4294967295)) 5 (u8s [0,0,0,0]).toArray;simpa using this
 exact⟨rfl,⟨hb,Bytes.of_blk (l:=[0,0,0,0]) (Nat.zero_le _) hr (by decide),by decide,by omega,by omega⟩,(((Mod.refl (fun j=>j=g) w).setCell (p:=⟨g,0,none⟩) (.inl rfl) _).setCell (p:=⟨g,1,none⟩) (.inl rfl) _).alloc _⟩
theorem eNew(w:World):Calls Tryz.prog 182 #[] w fun e w'=>∃g v,e=.returned (.pointer (some ⟨g,0,none⟩))/\EAt w' g v [0,0,0,0] 4294967295/\w.heap.size<=g/\(∀j,v.ownBlock=some j->w.heap.size<=j)/\Mod (fun _=>False) w w':=by
 have hb:=Blk.new w 363 #[.slice none 0 0,.int .u32 0];have H:=Lib.hid hb;clear hb;go_enter Tryz.func182,Tryz.ntmps182;go_wp2_with fail;refine(eBegin0 _ _ H.out).mono ?_;rintro e w1 ⟨rfl,hE,hm⟩;have H1:=Lib.hid (And.intro hE hm);clear hE hm;go_wp2_with fail;go_ret;refine⟨_,_,rfl,H1.out.1,Nat.le_refl _,fun j e=>?_,((Mod.refl (fun _=>False) w).alloc _).into H1.out.2 (fun i e=>.inr (by omega))⟩;simp only [Value.ownBlock,Option.some.injEq]at e;subst e;simp
def AddRel(w:World)(g r n k:Nat)(wide:Nat)(R:List UInt8)(v4 v5:Value)(wr:World):Prop:=
 ∃(m c:Nat) (L:List UInt8),m<=n/\v4=.int .u64 (c:Int)/\v5=.int .i64 ((m:Int)-1)/\L.length=n/\c<4294967296/\eaddAt m L c=R/\Bytes wr 0 (.slice (some ⟨r,0,none⟩) n k) L/\Blk wr g 363 #[.slice (some ⟨r,0,none⟩) n k,.int .u32 (wide:Int)]/\Mod (·=r) w wr
theorem eAdd(w:World)(g r k:Nat)(code:List UInt8)(wide:Nat)(h:EAt w g (.slice (some ⟨r,0,none⟩) code.length k) code wide)(hl:code.length<=1048576)(c:Nat)(hc:c<4294967296):
  Calls Tryz.prog 383 #[.pointer (some ⟨g,0,none⟩),.int .u32 (c:Int)] w fun e w'=>e=.returned (.tuple #[])/\EAt w' g (.slice (some ⟨r,0,none⟩) code.length k) (eadd code c) wide/\Mod (·=r) w w':=by
 obtain⟨n,hn⟩:∃n,n=code.length:=⟨_,rfl⟩
 rw [<-hn]at h hl ⊢;obtain⟨bc,bf⟩:=h.blk.both;have H:=Lib.hid (And.intro h hn);clear h hn;go_enter Tryz.func383,Tryz.ntmps383;go_wp2_with fail;go_loopw [4,5] (AddRel w g r n k wide (eadd code c)) (fun _ v _=>(intOf v+1).toNat)
 case atStart=>exact⟨n,c,code,Nat.le_refl _,rfl,rfl,H.out.2.symm,hc,by rw [H.out.2];rfl,H.out.1.own,H.out.1.blk,Mod.refl _ _⟩
 case round=>
  clear bc bf;obtain⟨m,cc,L,hm,rfl,rfl,hL,hcc,hR,ho,hb,hM⟩:=hrel;rename World=>wr
  obtain⟨bc,bf⟩:=hb.both;by_cases hm0:m=0
  ·subst hm0;have HE:=Lib.hid (And.intro hR (And.intro ho (And.intro hb (And.intro hM hL))));clear hR ho hb hM hL;go_wp2_with fail;go_end0
   refine⟨rfl,⟨HE.out.2.2.1,?_,?_,H.out.1.lo,H.out.1.hi⟩,HE.out.2.2.2.1⟩
   ·rw [<-HE.out.1];exact HE.out.2.1
   ·rw [eadd_length];exact H.out.1.four
  ·obtain⟨m,rfl⟩:∃m',m=m'+1:=⟨m-1,by omega⟩
   have e1:(((m+1:Nat):Int)-1)=(m:Int):=by omega
   rw [e1];by_cases hc0:cc=0
   ·subst hc0;rw [eaddAt_0]at hR;have HE:=Lib.hid (And.intro hR (And.intro ho (And.intro hb (And.intro hM hL))));clear hR ho hb hM hL e1;go_wp2_with fail;go_end0
    refine⟨rfl,⟨HE.out.2.2.1,?_,?_,H.out.1.lo,H.out.1.hi⟩,HE.out.2.2.2.1⟩
    ·rw [<-HE.out.1];exact HE.out.2.1
    ·rw [eadd_length];exact H.out.1.four
   ·have hml:m<L.length:=by omega
    have bcell:=ho.cell m hml;have bfr:=ho.frozen m;have brl:=ho.low.2;obtain⟨x,hx⟩:∃x,x=(L.getD m 0).toNat:=⟨_,rfl⟩
    have hx8:x<256:=by rw [hx];exact UInt8.toNat_lt _
    rw [<-hx]at bcell;have d1:decide (0<(cc:Int))=true:=decide_eq_true (by omega);unfold eaddAt at hR;rw [if_neg hc0,<-hx]at hR;have hne:=ho.ne_ hb (by decide);have hw1:IntKind.u64.wrap (x:Int)=(x:Int):=IntWalk.u64_in _ ⟨by omega,by omega⟩;have hw2:IntKind.u64.wrap ((cc:Int)+(x:Int))=(cc:Int)+(x:Int):=IntWalk.u64_in _ ⟨by omega,by omega⟩;have HX:=Lib.hid hx;clear hx;have HE:=Lib.hid (And.intro hR (And.intro ho (And.intro hb (And.intro hM hL))));clear hR ho hb hM hL e1;go_wp2_with fail;rw [show((cc:Int)+(x:Int)) % 256=(((cc+x) % 256:Nat):Int)by omega,show((cc:Int)+(x:Int))/256=(((cc+x)/256:Nat):Int)by omega];refine⟨⟨m,(cc+x)/256,L.set m (UInt8.ofNat ((cc+x) % 256)),by omega,rfl,rfl,by rw [List.length_set];exact HE.out.2.2.2.2,by omega,HE.out.1,HE.out.2.1.putN m _ (Nat.mod_lt _ (by omega)),HE.out.2.2.1.far (p:=⟨r,m,none⟩) (Ne.symm hne) _,HE.out.2.2.2.1.setCell (p:=⟨r,m,none⟩) (.inl rfl) _⟩,?_⟩;simp only [intOf];omega
end Go.Proofs.YtnnpoodcdibpiaaGreatDoor
