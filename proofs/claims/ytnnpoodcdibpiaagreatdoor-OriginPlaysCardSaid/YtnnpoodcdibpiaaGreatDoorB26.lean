/-
  segment.fields: some bytes, and numbers behind them.
-/
import Derived.Test.YtnnpoodcdibpiaaGreatDoorB25
import Derived.Laws.BitsAll
import Derived.Great.Walk
namespace Go.Proofs.YtnnpoodcdibpiaaGreatDoor
open Go.RowKit
set_option maxRecDepth 100000
set_option maxHeartbeats 8000000
def nums32(ns:List Nat):List UInt8:=ns.flatMap be32
theorem nums32_length(ns:List Nat):(nums32 ns).length=4*ns.length:=by
 unfold nums32
 induction ns with
 | nil=>rfl
 | cons n ns ih=>
  rw [List.flatMap_cons,List.length_append,ih,List.length_cons];unfold be32;simp only [List.length_cons,List.length_nil];omega
theorem nums32_succ{ns:List Nat}{k:Nat}(h:k<ns.length):nums32 (ns.take (k+1))=nums32 (ns.take k)++be32 (ns.getD k 0):=by
 unfold nums32;rw [List.take_add_one,List.getElem?_eq_getElem h,List.flatMap_append,List.getD_eq_getElem?_getD,List.getElem?_eq_getElem h];simp
def natI(ns:List Nat):List Int:=ns.map fun(n:Nat)=>(n:Int)
theorem natI_at(ns:List Nat)(k:Nat):(natI ns).getD k 0=((ns.getD k 0:Nat):Int):=by
 unfold natI;rw [List.getD_eq_getElem?_getD,List.getD_eq_getElem?_getD,List.getElem?_map];cases ns[k]?<;>rfl
theorem be32_rowI(m:Nat)(h:m<4294967296):(#[.int .u8 ((m:Int)/16777216),.int .u8 ((m:Int)/65536 % 256),.int .u8 ((m:Int)/256 % 256),.int .u8 ((m:Int) % 256)]:Array Value)=(u8s (be32 m)).toArray:=by
 have e1:(m:Int)/16777216=(((UInt8.ofNat (m/16777216)).toNat:Nat):Int):=by rw [UInt8.toNat_ofNat'];omega
 have e2:(m:Int)/65536 % 256=(((UInt8.ofNat (m/65536)).toNat:Nat):Int):=by rw [UInt8.toNat_ofNat'];omega
 have e3:(m:Int)/256 % 256=(((UInt8.ofNat (m/256)).toNat:Nat):Int):=by rw [UInt8.toNat_ofNat'];omega
 have e4:(m:Int) % 256=(((UInt8.ofNat m).toNat:Nat):Int):=by rw [UInt8.toNat_ofNat'];omega
 rw [e1,e2,e3,e4];rfl
def FldRel(w:World)(B:Nat)(v:Value)(l:List UInt8)(ns:List Nat)(n:Nat)(v0 v9:Value)(wr:World):Prop:=
 ∃k:Nat,k<=n/\v9=.int .i64 (k:Int)/\BytesU wr B v0 (l++nums32 (ns.take k))/\Mod (fun j=>v.ownBlock=some j) w wr/\(∀g,v0.ownBlock=some g->v.ownBlock=some g\/w.heap.size<=g)
theorem sgFields(w:World)(B:Nat)(v:Value)(l:List UInt8)(hown:BytesU w B v l)(hB:B<=w.heap.size)(A:Option Addr)(n c:Nat)(ns:List Nat)(hin:IntsIn w A n c (natI ns))(hap:∀ad,A=some ad->v.ownBlock≠some ad.block)
  (hns:∀x∈ns,x<4294967296)(hl:l.length+4*n<=1048576):
  Calls Tryz.prog 112 #[v,.slice A n c] w fun e w'=>∃u,e=.returned u/\BytesU w' B u (l++nums32 ns)/\Mod (fun j=>v.ownBlock=some j) w w'/\(∀g,u.ownBlock=some g->v.ownBlock=some g\/w.heap.size<=g):=by
 have hlen:ns.length=n:=by have:=hin.1;rw [<-this];simp [natI]
 have H0:=Lib.hid (And.intro hown (And.intro hB (And.intro hin (And.intro hap (And.intro hns (And.intro hl hlen))))));have hn:n<=1048576:=by omega
 clear hown hB hin hap hns hl;go_enter Tryz.func112,Tryz.ntmps112;go_wp2_with fail;go_loopw [0,9] (FldRel w B v l ns n) (fun _ i _=>n-(intOf i).toNat)
 case atStart=>exact⟨0,Nat.zero_le _,rfl,by rw [List.take_zero];unfold nums32;rw [List.flatMap_nil,List.append_nil];exact H0.out.1,Mod.refl _ _,fun g h=>.inl h⟩
 case round=>
  obtain⟨k,hk,rfl,hB,hM,hg⟩:=hrel;rename World=>wr
  obtain⟨X,hX⟩:∃X,X=l++nums32 (ns.take k):=⟨_,rfl⟩
  rw [<-hX]at hB;obtain⟨Ao,co,rfl⟩:=hB.shape;by_cases hlt:k<n
  ·have d3:decide ((k:Int)<(n:Int))=true:=decide_eq_true (by omega);obtain⟨b,o,hA,hbw,hcells⟩:=H0.out.2.2.1.place (by omega);subst hA;have hbS:v.ownBlock≠some b:=H0.out.2.2.2.1 _ rfl;have k0:wr.cell? ⟨b,o+k,none⟩=some (.int .i64 ((ns.getD k 0:Nat):Int)):=by
    rw [<-natI_at];exact(World.cell?_of_block (hM.block b hbw hbS)).trans (hcells k hlt)
   have hm32:ns.getD k 0<4294967296:=by
    rw [List.getD_eq_getElem?_getD,List.getElem?_eq_getElem (by omega)];exact H0.out.2.2.2.2.1 _ (List.getElem_mem _)
   have hsu:=nums32_succ (ns:=ns) (k:=k) (by omega);have hxl:X.length+4<=1048576:=by
    rw [hX,List.length_append,nums32_length,List.length_take];have:=H0.out.2.2.2.2.2.1;omega
   generalize ns.getD k 0=m at k0 hm32 hsu;have hXs:l++nums32 (ns.take (k+1))=X++be32 m:=by rw [hsu,hX,List.append_assoc]
   have HK:=Lib.hid (And.intro hB (And.intro hM (And.intro hg (And.intro hXs (And.intro hxl hm32)))));have hsz:=hM.size;clear hB hM hg hXs hsu hX hcells hbS;go_wp2_with (at_builtin;refine Hid.out ?_)
   refine Lib.hid ?_;rw [be32_rowI m HK.out.2.2.2.2.2];have hin4:=be32_in wr m;have hrow:=(Mod.refl (fun _=>False) wr).alloc (.cells (u8s (be32 m)).toArray 5);have hgs:∀j,(Value.slice Ao X.length co).ownBlock=some j->j<wr.heap.size:=fun j hj=>(HK.out.1.lt j hj).2;have H5:=Lib.hid (And.intro (HK.out.1.mod hrow (fun _ _ h=>h)) (And.intro (HK.out.2.1.alloc (.cells (u8s (be32 m)).toArray 5)) hgs));obtain⟨sb,hsb⟩:∃sb,sb=wr.heap.size:=⟨_,rfl⟩
   rw [<-hsb]at hin4 ⊢;have hs5:=hrow.size;generalize wr.alloc (.cells (u8s (be32 m)).toArray 5)=w5 at H5 hin4 hs5 ⊢;clear hrow hsb hgs;have h0B:=H0.out.2.1;refine wpList_app_U w5 rfl (.tmp 13) (.tmp 25) rfl B (.slice Ao X.length co) X ⟨sb,0,none⟩ 4 4 (be32 m) rfl rfl H5.out.1 hin4 (by omega) HK.out.2.2.2.2.1 ?_;intro v6 w6 hv6 hm6 hg6;have hM6:Mod (fun j=>v.ownBlock=some j) w w6:=H5.out.2.1.into hm6 (fun j h=>(HK.out.2.2.1 j h))
   have hg7:∀g,v6.ownBlock=some g->v.ownBlock=some g\/w.heap.size<=g:=fun g hg=>by
    rcases hg6 g hg with h|h
    ·exact HK.out.2.2.1 g h
    ·exact .inr (by omega)
   rw [<-HK.out.2.2.2.1]at hv6;have H6:=Lib.hid (And.intro hv6 (And.intro hM6 hg7));clear hv6 hm6 hg6 hM6 hg7 hin4 hs5 k0;go_wp2_with fail;go_roundw
   case rel=>exact⟨k+1,by omega,by go_num,H6.out.1,H6.out.2.1,H6.out.2.2⟩
   case measure=>simp [intOf];omega
  ·obtain rfl:k=n:=by omega
   rw [List.take_of_length_le (by omega)]at hX;subst hX;have HK:=Lib.hid (And.intro hB (And.intro hM hg));clear hB hM hg;go_wp2_with fail;go_ret;exact⟨_,rfl,HK.out.1,HK.out.2.1,HK.out.2.2⟩
def crc1(r:Nat):Nat:=if r % 2=1 then(r/2) ^^^ 3988292384 else r/2
def crcK(r:Nat):Nat->Nat
 | 0=>r
 | k+1=>crc1 (crcK r k)
theorem crc1_lt{r:Nat}(h:r<4294967296):crc1 r<4294967296:=by
 unfold crc1;split
 ·exact Nat.xor_lt_two_pow (n:=32) (by omega) (by decide)
 ·omega
theorem crcK_lt{r:Nat}(h:r<4294967296)(k:Nat):crcK r k<4294967296:=by
 induction k with
 | zero=>exact h
 | succ k ih=>exact crc1_lt ih
theorem crcEight(w:World)(r:Nat)(hr:r<4294967296):Calls Tryz.prog 342 #[.int .u32 (r:Int)] w fun e w'=>e=.returned (.int .u32 ((crcK r 8:Nat):Int))/\w=w':=by
 have HR:=Lib.hid hr;clear hr;go_enter Tryz.func342,Tryz.ntmps342;go_wp2_with fail;go_loopw [0,3] (fun v0 v3 w'=>∃k:Nat,k<=8/\v3=.int .i64 (k:Int)/\v0=.int .u32 ((crcK r k:Nat):Int)/\w=w') (fun _ v3 _=>8-(intOf v3).toNat)
 case atStart=>exact⟨0,by omega,rfl,rfl,rfl⟩
 case round=>
  obtain⟨k,hk,rfl,rfl,rfl⟩:=hrel;have hx:=crcK_lt HR.out k;by_cases hlt:k<8
  ·have d1:decide ((k:Int)<8)=true:=decide_eq_true (by omega);have hs:crcK r (k+1)=crc1 (crcK r k):=rfl;generalize crcK r k=x at hx hs ⊢;have hb:bits .and .u32 (x:Int) 1=((x % 2:Nat):Int):=by
    go_bits2
   have hxr:bits .xor .u32 ((x:Int)/2) 3988292384=(((x/2) ^^^ 3988292384:Nat):Int):=by
    rw [show(x:Int)/2=((x/2:Nat):Int)by omega];exact u32_xor_nat (x/2) 3988292384 (by omega) (by omega)
   unfold crc1 at hs;by_cases hb1:x % 2=1
   ·rw [if_pos hb1]at hs;have d2:(bits .and .u32 (x:Int) 1 == 1)=true:=by rw [hb,hb1];rfl
    have HX:=Lib.hid (And.intro hs hxr);clear hs hxr hb hb1;go_wp2_with fail;go_roundw
    case rel=>exact⟨k+1,by omega,by go_num,by rw [HX.out.2,<-HX.out.1],trivial⟩
    case measure=>simp [intOf];omega
   ·rw [if_neg hb1]at hs
    have d2:(bits .and .u32 (x:Int) 1 == 1)=false:=by rw [hb];have:x % 2=0:=by omega
                                                      rw [this];rfl
    have HX:=Lib.hid hs;clear hs hxr hb hb1;go_wp2_with fail;go_roundw
    case rel=>exact⟨k+1,by omega,by go_num,by rw [HX.out];go_num,trivial⟩
    case measure=>simp [intOf];omega
  ·obtain rfl:k=8:=by omega
   go_wp2_with fail;go_ret;exact⟨rfl,rfl⟩
def crcTo(k:Nat):List Nat:=(List.range 256).map fun i=>if i<k then crcK i 8 else 0
theorem crcTo_length(k:Nat):(crcTo k).length=256:=by simp [crcTo]
theorem crcTo_set(k:Nat):(crcTo k).set k (crcK k 8)=crcTo (k+1):=by
 unfold crcTo;refine List.ext_getElem (by simp) fun i h1 h2=>?_;simp only [List.getElem_set,List.getElem_map,List.getElem_range];by_cases e:k=i
 ·subst e;rw [if_pos rfl,if_pos (by omega)]
 ·rw [if_neg e];by_cases h:i<k
  ·rw [if_pos h,if_pos (by omega)]
  ·rw [if_neg h,if_neg (by omega)]
def crcT:List Nat:=crcTo 256
theorem crcT_at{i:Nat}(h:i<256):crcT.getD i 0=crcK i 8:=by
 unfold crcT crcTo;simp [List.getD_eq_getElem?_getD,h]
def u32s(l:List Nat):List Value:=l.map fun(n:Nat)=>Value.int .u32 (n:Int)
theorem u32s_length(l:List Nat):(u32s l).length=l.length:=by simp [u32s]
theorem crcTo_zero:(u32s (crcTo 0)).toArray=Tryz.zeroCells413:=by kernel_rfl
theorem crcZ_list:(Tryz.zeroCells413)=(u32s (List.replicate 256 0)).toArray:=by kernel_rfl
theorem u32s_put(l:List Nat)(k n:Nat):(u32s l).toArray.setIfInBounds k (.int .u32 (n:Int))=(u32s (l.set k n)).toArray:=by
 unfold u32s;rw [List.map_set];simp
theorem u32s_one(l:List Nat):∀u∈u32s l,u.oneCell'=true:=fun u hu=>by
 obtain⟨n,_,rfl⟩:=List.mem_map.1 hu;rfl
def TabRel(w:World)(v3:Value)(wr:World):Prop:=
 ∃k:Nat,k<=256/\v3=.int .i64 (k:Int)/\Sat (fun _=>False) w wr [⟨w.heap.size+1,413,(u32s (crcTo k)).toArray⟩,⟨w.heap.size,413,Tryz.zeroCells413⟩] []
theorem crcTable(w:World):Calls Tryz.prog 296 #[] w fun e w'=>e=.returned (.agg (u32s crcT).toArray)/\Mod (fun _=>False) w w':=by
 have h0:=((Sat.nil (fun _=>False) w).alloc 413 Tryz.zeroCells413 rfl).alloc (g:=w.heap.size+1) 413 Tryz.zeroCells413 (by simp);have H0:=Lib.hid h0;clear h0;go_enter Tryz.func296,Tryz.ntmps296;go_upto_region 2 with(fail)
 generalize (w.alloc (.cells Tryz.zeroCells413 413)).alloc (.cells Tryz.zeroCells413 413)=w1 at H0 ⊢;go_wp2_with fail;go_loopw [3] (TabRel w) (fun v3 _=>256-(intOf v3).toNat)
 case atStart=>exact⟨0,by omega,rfl,by rw [crcTo_zero];exact H0.out⟩
 case round=>
  clear H0;obtain⟨k,hk,rfl,HS⟩:=hrel;rename World=>wr
  have HH:=Lib.hid HS;clear HS;by_cases hlt:k<256
  ·have d1:decide ((k:Int)<256)=true:=decide_eq_true (by omega);go_wp2_with fail;refine(crcEight _ k (by omega)).mono ?_;rintro e w2 ⟨rfl,rfl⟩;obtain⟨qc,qf⟩:=(HH.out.own_ 0 rfl).both;have ql:=(HH.out.own_ 0 rfl).lt;have q0:wr.cell? ⟨w.heap.size+1,k,none⟩=some (.int .u32 (((crcTo k)[k]'(by rw [crcTo_length];exact hlt):Nat):Int)):=by
    rw [(HH.out.own_ 0 rfl).cell,List.getElem?_toArray];unfold u32s;simp [crcTo_length,hlt]
   clear qc;go_wp2_with fail;go_roundw
   case rel=>exact⟨k+1,by omega,by go_num,by have:=HH.out.put (Upd.here (u32s_put (crcTo k) k (crcK k 8)));rw [crcTo_set]at this;exact this⟩
   case measure=>simp [intOf];omega
  ·obtain rfl:k=256:=by omega
   go_wp2_with (first|(refine wpList_load_row rfl 413 (.tmp 1) rfl (w.heap.size+1) rfl 413 (u32s crcT).toArray (0,0) _ (HH.out.own_ 0 rfl) Tryz.underlying413 rfl (by kernel_rfl) ?_)|(refine wpList_store_part rfl 413 (.tmp 0) (.tmp 12) rfl w.heap.size 0 (u32s crcT) rfl rfl 413 (u32s (List.replicate 256 0)) (by rw [<-crcZ_list];exact HH.out.own_ 1 rfl) (by kernel_rfl) (by rw [u32s_length,u32s_length];simp [crcT,crcTo_length]) (u32s_one _) ?_;intro w9 hb9 hm9;have HB9:=Lib.hid (And.intro hb9 hm9);clear hb9 hm9))
   have hb9:=HB9.out.1;rw [splice_all (by rw [u32s_length,u32s_length];simp [crcT,crcTo_length])]at hb9;exact bodyPost_ret (v:=.agg (u32s crcT).toArray) (results_cell_row rfl _ _ w.heap.size 413 _ (0,0) _ rfl hb9 Tryz.underlying413 rfl (by kernel_rfl)) rfl ⟨rfl,HH.out.mod.into HB9.out.2 (fun i e=>.inr (by omega))⟩
def crcStep(r:Nat)(v:UInt8):Nat:=crcK ((r % 256) ^^^ v.toNat) 8 ^^^ (r/256)
def crcRun(r:Nat)(l:List UInt8)(k:Nat):Nat:=(l.take k).foldl crcStep r
theorem crcStep_lt{r:Nat}(h:r<4294967296)(v:UInt8):crcStep r v<4294967296:=by
 have hv:=UInt8.toNat_lt v;have hx:(r % 256) ^^^ v.toNat<256:=Nat.xor_lt_two_pow (n:=8) (by omega) (by omega);exact Nat.xor_lt_two_pow (n:=32) (crcK_lt (by omega) 8) (by omega)
theorem crcRun_succ{r k:Nat}{l:List UInt8}(h:k<l.length):crcRun r l (k+1)=crcStep (crcRun r l k) (l.getD k 0):=by
 unfold crcRun;rw [List.take_add_one,List.getElem?_eq_getElem h,List.foldl_append,List.getD_eq_getElem?_getD,List.getElem?_eq_getElem h];rfl
theorem crcRun_lt{r:Nat}(h:r<4294967296){l:List UInt8}(k:Nat)(hk:k<=l.length):crcRun r l k<4294967296:=by
 induction k with
 | zero=>exact h
 | succ k ih=>
  rw [crcRun_succ (by omega)];exact crcStep_lt (ih (by omega)) _
def crcMore(s:Nat)(l:List UInt8):Nat:=4294967295 ^^^ crcRun (4294967295 ^^^ s) l l.length
theorem crcNot_lt{s:Nat}(h:s<4294967296):4294967295 ^^^ s<4294967296:=Nat.xor_lt_two_pow (n:=32) (by omega) (by omega)
theorem crcNot{s:Nat}(h:s<4294967296):bits .xor .u32 IntKind.u32.max (s:Int)=((4294967295 ^^^ s:Nat):Int):=u32_xor_nat 4294967295 s (by omega) h
theorem crcMore_lt{s:Nat}(h:s<4294967296)(l:List UInt8):crcMore s l<4294967296:=crcNot_lt (crcRun_lt (crcNot_lt h) _ (Nat.le_refl _))
def MoreRel(w:World)(tb:Nat)(r0:Nat)(l:List UInt8)(n:Nat)(v6 v14:Value)(wr:World):Prop:=
 ∃k:Nat,k<=n/\v14=.int .i64 (k:Int)/\v6=.int .u32 ((crcRun r0 l k:Nat):Int)/\Blk wr tb 413 (u32s crcT).toArray/\Mod (fun _=>False) w wr
theorem crcMoreW(w:World)(s:Nat)(hs:s<4294967296)(A:Option Addr)(n c:Nat)(l:List UInt8)(hin:BytesIn w A n c l)(hn:n<=9223372036854775807):
  Calls Tryz.prog 228 #[.int .u32 (s:Int),.slice A n c] w fun e w'=>e=.returned (.int .u32 ((crcMore s l:Nat):Int))/\Mod (fun _=>False) w w':=by
 have hl:l.length=n:=hin.1;have HI:=Lib.hid (And.intro hin (And.intro hs (And.intro hn hl)));clear hin hs hn hl;go_enter Tryz.func228,Tryz.ntmps228;go_upto_region 1 with(fail)
 go_wp2_with fail;refine(crcTable w).mono ?_;rintro e w1 ⟨rfl,hm1⟩;have h1:=Sat.after hm1 (Sat.nil (fun _=>False) w);have H1:=Lib.hid (h1.alloc 413 Tryz.zeroCells413 rfl);clear h1 hm1;have hle:=H1.out.mod.size;go_upto_region 2 with(refine wpList_store_part rfl 413 (.tmp 5) (.tmp 9) rfl w1.heap.size 0 (u32s crcT) rfl rfl 413 (u32s (List.replicate 256 0)) (by rw [<-crcZ_list];exact H1.out.own_ 0 rfl) (by kernel_rfl) (by rw [u32s_length,u32s_length];simp [crcT,crcTo_length]) (u32s_one _) ?_;intro w2 hb2 hm2;have HB2:=Lib.hid (And.intro hb2 hm2);clear hb2 hm2)
 have hb2:=HB2.out.1;rw [splice_all (by rw [u32s_length,u32s_length];simp [crcT,crcTo_length])]at hb2;have hsz:w.heap.size<=w1.heap.size:=by
  have:=H1.out.mine _ (List.mem_cons_self ..);rcases this with h|h
  ·exact h.elim
  ·exact h
 have HT:=Lib.hid (And.intro hb2 (H1.out.mod.into HB2.out.2 (fun i e=>.inr (by omega))));obtain⟨tb,htb⟩:∃tb,tb=w1.heap.size:=⟨_,rfl⟩
 rw [<-htb]at HT ⊢;clear hb2 HB2 H1 hle hsz htb;go_wp2_with fail;rw [crcNot HI.out.2.1];have hr0:=crcNot_lt HI.out.2.1;obtain⟨r0,hr⟩:∃r0,r0=4294967295 ^^^ s:=⟨_,rfl⟩
 rw [<-hr]at hr0 ⊢;have HR:=Lib.hid (And.intro hr hr0);clear hr hr0;go_loopw [6,14] (MoreRel w tb r0 l n) (fun _ v14 _=>n-(intOf v14).toNat)
 case atStart=>exact⟨0,Nat.zero_le _,rfl,rfl,HT.out.1,HT.out.2⟩
 case round=>
  clear HT;obtain⟨k,hk,rfl,rfl,hB,hM⟩:=hrel;rename World=>wr
  have HH:=Lib.hid (And.intro hB hM);clear hB hM;have hrk:=crcRun_lt HR.out.2 (l:=l) k (by rw [HI.out.2.2.2];exact hk);by_cases hlt:k<n
  ·have d1:decide ((k:Int)<(n:Int))=true:=decide_eq_true (by omega);obtain⟨ba,oa,rfl,hba,hca⟩:=(HI.out.1.quiet HH.out.2).place (by omega);have hck:=hca k hlt;have hx:=UInt8.toNat_lt (l.getD k 0);have hs:crcRun r0 l (k+1)=crcStep (crcRun r0 l k) (l.getD k 0):=crcRun_succ (by rw [HI.out.2.2.2];exact hlt);unfold crcStep at hs;generalize crcRun r0 l k=r at hs hrk ⊢;generalize (l.getD k 0).toNat=x at hs hx hck;have hix:bits .xor .u8 ((r:Int) % 256) (x:Int)=((r % 256 ^^^ x:Nat):Int):=by
    rw [show(r:Int) % 256=((r % 256:Nat):Int)by omega];exact u8_xor_nat _ _ (by omega) hx
   have hil:r % 256 ^^^ x<256:=Nat.xor_lt_two_pow (n:=8) (by omega) (by omega);have htl:wr.cell? ⟨tb,(bits .xor .u8 ((r:Int) % 256) (x:Int)).toNat,none⟩=some (.int .u32 ((crcK (r % 256 ^^^ x) 8:Nat):Int)):=by
    rw [hix,Int.toNat_natCast,HH.out.1.cell,List.getElem?_toArray];unfold u32s;have:=crcT_at hil;rw [List.getElem?_map,<-this,List.getD_eq_getElem?_getD,List.getElem?_eq_getElem (by simp [crcT,crcTo_length,hil])];rfl
   have hfx:bits .xor .u32 ((crcK (r % 256 ^^^ x) 8:Nat):Int) ((r:Int)/256)=((crcK (r % 256 ^^^ x) 8 ^^^ (r/256):Nat):Int):=by
    rw [show(r:Int)/256=((r/256:Nat):Int)by omega];exact u32_xor_nat _ _ (crcK_lt (Nat.lt_trans hil (by decide)) 8) (by omega)
   have i1:0<=bits .xor .u8 ((r:Int) % 256) (x:Int):=by rw [hix];omega
   have i2:bits .xor .u8 ((r:Int) % 256) (x:Int)<256:=by rw [hix];exact_mod_cast hil
   have HS:=Lib.hid (And.intro hs hfx);have hnm:=HI.out.2.2.1;clear hs hca hix hil hfx;go_wp2_with fail;go_roundw
   case rel=>exact⟨k+1,hlt,by go_num,by rw [HS.out.2,<-HS.out.1],HH.out.1,HH.out.2⟩
   case measure=>
    simp [intOf];omega
  ·obtain rfl:k=n:=by omega
   have d1:decide ((k:Int)<(k:Int))=false:=decide_eq_false (by omega);have he:crcMore s l=4294967295 ^^^ crcRun r0 l k:=by unfold crcMore;rw [<-HR.out.1,HI.out.2.2.2]
   have HE:=Lib.hid (And.intro he (crcNot hrk));clear he;go_wp2_with fail;rw [HE.out.2];go_ret;exact⟨by rw [HE.out.1];rfl,HH.out.2⟩
theorem crcSumW(w:World)(A:Option Addr)(n c:Nat)(l:List UInt8)(hin:BytesIn w A n c l)(hn:n<=9223372036854775807):
  Calls Tryz.prog 160 #[.slice A n c] w fun e w'=>e=.returned (.int .u32 ((crcMore 0 l:Nat):Int))/\Mod (fun _=>False) w w':=by
 have HI:=Lib.hid (And.intro hin hn);clear hin hn;go_enter Tryz.func160,Tryz.ntmps160;go_wp2_with fail;refine(crcMoreW w 0 (by decide) A n c l HI.out.1 HI.out.2).mono ?_;rintro e w1 ⟨rfl,hm⟩;go_wp2_with fail;go_ret;exact⟨rfl,hm⟩
theorem RowIn.of_blk{w:World}{g:Nat}{t:TypeId}{xs:List Value}{n size:Nat}(h:Blk w g t xs.toArray)(hl:xs.length=n*size):RowIn w (fun _=>True) size (.slice (some ⟨g,0,none⟩) n n) n xs:=by
 refine⟨_,_,rfl,Nat.le_refl _,fun e=>(by cases e),⟨hl,fun e=>(by cases e),fun ad e j u hu=>?_⟩,fun ad e _=>?_⟩
 ·injection e with e;subst e;rw [addr_add',Nat.zero_add,h.cell,List.getElem?_toArray];exact hu
 ·injection e with e;subst e;exact⟨h.lt,trivial⟩
theorem BoxesIn.one{w:World}{g:Nat}{t:TypeId}{u:Value}{b:Bx}(h:Blk w g t #[.string (strOf b.typ),u])(hd:BytesF w (fun _=>True) u b.data):BoxesIn w (.slice (some ⟨g,0,none⟩) 1 1) [b]:=
 ⟨[.string (strOf b.typ),u],RowIn.of_blk (n:=1) (size:=2) h rfl,⟨[[.string (strOf b.typ),u]],rfl,rfl,by simp,fun i x c hx hc=>by
  cases i with
  | zero=>
   simp at hx hc;subst hx hc;exact⟨u,rfl,hd⟩
  | succ i=>simp at hx⟩⟩
def tSumm:List UInt8:=[115,117,109,109]
def sumBx(l:List Bx):Bx:=⟨tSumm,be32 (crcMore 0 (bxBytes l))⟩
def sealB(l:List Bx):List UInt8:=bxBytes l++(sumBx l).bytes
theorem sumBx_ok(l:List Bx):(sumBx l).okB=true:=by
 show boxB tSumm 4=true;decide +kernel
theorem ints_one{w:World}{g:Nat}{t:TypeId}{n:Nat}(h:Blk w g t #[.int .i64 (n:Int)]):IntsIn w (some ⟨g,0,none⟩) 1 1 (natI [n]):=by
 obtain⟨A,c,h1,_,h3,h4,h5⟩:=(RowIn.of_blk (n:=1) (size:=1) (xs:=[.int .i64 (n:Int)]) h rfl).ex;injection h1 with e1 e2 e3;subst e1 e3;exact⟨rfl,h3,h4,fun h0 ad e=>(h5 ad e h0).1⟩
theorem sgSeal(w:World)(v:Value)(l:List Bx)(hin:BoxesIn w v l)(hl:l.length<=1000000)(hs:bxSize l+12<=1048576):
  Calls Tryz.prog 111 #[v] w fun e w'=>Mod (fun _=>False) w w'/\((l.all Bx.okB=false/\e=.returned (.tuple #[.slice none 0 0,.int .i64 171])) \/
   (l.all Bx.okB=true/\∃u,e=.returned (.tuple #[u,.int .i64 0])/\Bytes w' w.heap.size u (sealB l))):=by
 have H0:=Lib.hid (And.intro hin (And.intro hl hs));clear hin hl hs;go_enter Tryz.func111,Tryz.ntmps111;go_wp2_with fail;refine(bxWrite w v l H0.out.1 H0.out.2.1 (by have:=H0.out.2.2;omega)).mono ?_;rintro e w1 ⟨hm1,⟨hno,rfl⟩|⟨hok,u,rfl,hu⟩⟩
 ·have H1:=Lib.hid (And.intro hm1 hno);clear hm1 hno;go_wp2_with fail;go_ret2;exact⟨H1.out.1,.inl ⟨H1.out.2,rfl⟩⟩
 ·obtain⟨A1,c1,rfl⟩:=own_shape hu;have hlen:=bxBytes_len hok;have H1:=Lib.hid (And.intro hm1 (And.intro hok (And.intro hu hlen)));clear hm1 hok hu hlen;go_wp2_with fail;refine(crcSumW w1 _ _ _ (bxBytes l) H1.out.2.2.1.in_ (by have:=H0.out.2.2;have:=H1.out.2.2.2;omega)).mono ?_;rintro e w2 ⟨rfl,hm2⟩;have hcl:=crcMore_lt (s:=0) (by decide) (bxBytes l);obtain⟨q,hq⟩:∃q,q=crcMore 0 (bxBytes l):=⟨_,rfl⟩
  rw [<-hq]at hcl ⊢;have H2:=Lib.hid (And.intro (H1.out.1.trans hm2) (And.intro (own_mod H1.out.2.2.1 hm2 (fun _ _ h=>h)) (And.intro hq hcl)));clear hm2 hq;go_wp2_with fail;have hb2:=Blk.new w2 3 #[.int .i64 (q:Int)];have hm2:=(Mod.refl (fun _=>False) w2).alloc (.cells #[.int .i64 (q:Int)] 3);have hM2:=H2.out.1.trans hm2;refine(sgFields _ w.heap.size (.slice none 0 0) [] (.inl (World.ownsRow_nil _ _ _ _)) hM2.size (some ⟨w2.heap.size,0,none⟩) 1 1 [q] (ints_one hb2) (fun ad e h=>by cases h) (fun x hx=>by rw [List.mem_singleton.1 hx];exact H2.out.2.2.2) (by decide)).mono ?_;rintro e w3 ⟨u3,rfl,hu3,hm3,_⟩;have hM3:=hM2.into hm3 (fun j h=>by cases h);have ho3:=own_mod (own_mod H2.out.2.1 hm2 (fun _ _ h=>h)) hm3 (fun _ _ h=>by cases h);obtain⟨A3,c3,rfl⟩:=hu3.shape;have hu3':BytesU w3 w.heap.size (.slice A3 (nums32 [q]).length c3) (be32 q):=by
   have e:nums32 [q]=be32 q:=by unfold nums32;simp
   have h3:BytesU w3 w.heap.size (.slice A3 (nums32 [q]).length c3) (nums32 [q]):=hu3;rw [e]at h3 ⊢;exact h3
  have H3:=Lib.hid (And.intro hM3 (And.intro ho3 hu3'));clear hm3 hm2 hM2 hb2 hM3 ho3 hu3 hu3' hcl;go_wp2_with fail;have hm4:=(Mod.refl (fun _=>False) w3).alloc (.cells #[.string (strOf tSumm),.slice A3 (nums32 [q]).length c3] 151);have hdat:BytesF (w3.alloc (.cells #[.string (strOf tSumm),.slice A3 (nums32 [q]).length c3] 151)) (fun _=>True) (.slice A3 (nums32 [q]).length c3) (sumBx l).data:=by
   rw [show(sumBx l).data=be32 q by rw [H2.out.2.2.1];rfl];exact(H3.out.2.2.mod hm4 (fun _ _ h=>h)).toF
  have hbx:=BoxesIn.one (b:=sumBx l) (Blk.new w3 151 #[.string (strOf tSumm),.slice A3 (nums32 [q]).length c3]) hdat
  have hM4:=H3.out.1.trans hm4;have ho4:=own_mod H3.out.2.1 hm4 (fun _ _ h=>h);refine(bxWrite _ _ [sumBx l] hbx (show 1<=1000000 by decide) (show 12<=1048576 by decide)).mono ?_;rintro e w5 ⟨hm5,⟨hno,rfl⟩|⟨_,u5,rfl,hu5⟩⟩
  ·rw [List.all_cons,sumBx_ok]at hno;cases hno
  ·obtain⟨A5,c5,rfl⟩:=own_shape hu5;have hl5:(bxBytes [sumBx l]).length=12:=by unfold bxBytes;rw [List.flatMap_cons,List.length_append,Bx.bytes_length (sumBx_ok l)];rfl
   have hin5:=hu5.in_;have H5:=Lib.hid (And.intro (hM4.trans hm5) (And.intro (own_mod ho4 hm5 (fun _ _ h=>h)) (And.intro hin5 hl5)));clear hm4 hdat hbx hM4 ho4 hm5 hu5 hin5;rw [hl5];go_wp2_with (at_builtin;refine Hid.out ?_)
   refine Lib.hid ?_;refine wpList_app_u8s w5 rfl (.tmp 27) (.tmp 28) rfl w.heap.size (.slice A1 (bxBytes l).length c1) (bxBytes l) A5 12 c5 (bxBytes [sumBx l]) rfl rfl H5.out.2.1 (by have:=H5.out.2.2.1;rw [hl5]at this;exact this) H5.out.1.size (by have:=H0.out.2.2;have:=H1.out.2.2.2;omega) ?_;intro v6 w6 hv6 hm6 _ _;have hlo:=H5.out.2.1.lt;have h8:bxBytes l++bxBytes [sumBx l]=sealB l:=by
    unfold sealB;rw [show bxBytes [sumBx l]=(sumBx l).bytes by unfold bxBytes;rw [List.flatMap_cons,List.flatMap_nil,List.append_nil]]
   rw [h8]at hv6;have H6:=Lib.hid (And.intro (H5.out.1.into hm6 (fun j h=>.inr (hlo j h).1)) hv6);clear hm6 hv6 hlo h8;go_wp2_with fail;go_ret2;exact⟨H6.out.1,.inr ⟨H1.out.2.1,_,rfl,H6.out.2⟩⟩
def tHead:List UInt8:=[104,101,97,100]
def tTabl:List UInt8:=[116,97,98,108]
def tData:List UInt8:=[100,97,116,97]
def mediaBx(a b:Nat)(l:List (List UInt8)):List Bx:=[⟨tHead,nums32 [a,b,l.length]⟩,⟨tTabl,nums32 (l.map List.length)⟩,⟨tData,l.flatten⟩]
def mediaFile(a b:Nat)(l:List (List UInt8)):List UInt8:=sealB (mediaBx a b l)
theorem mediaBx_size(a b:Nat)(l:List (List UInt8)):bxSize (mediaBx a b l)=36+4*l.length+sumLen l:=by
 unfold bxSize mediaBx;simp only [List.map_cons,List.map_nil,List.sum_cons,List.sum_nil,nums32_length,List.length_cons,List.length_nil,List.length_map,flat_len];omega
theorem mediaBx_ok{a b:Nat}{l:List (List UInt8)}(h1:l.length<=64)(h2:sumLen l<=524288):(mediaBx a b l).all Bx.okB=true:=by
 unfold mediaBx;have e1:Bx.okB ⟨tHead,nums32 [a,b,l.length]⟩=true:=by
  show boxB tHead (nums32 [a,b,l.length]).length=true;rw [nums32_length];show boxB tHead 12=true;decide +kernel
 have e2:Bx.okB ⟨tTabl,nums32 (l.map List.length)⟩=true:=by
  show boxB tTabl (nums32 (l.map List.length)).length=true;rw [nums32_length,List.length_map];unfold boxB;rw [show decide (4*l.length<=1048576)=true from decide_eq_true (by omega)];decide +kernel
 have e3:Bx.okB ⟨tData,l.flatten⟩=true:=by
  show boxB tData l.flatten.length=true;rw [flat_len];unfold boxB;rw [show decide (sumLen l<=1048576)=true from decide_eq_true (by omega)];decide +kernel
 rw [List.all_cons,List.all_cons,List.all_cons,e1,e2,e3];rfl
theorem mediaB_yes{a b:Int}{l:List (List UInt8)}(h:mediaB a b l=true):(∃p q:Nat,a=(p:Int)/\b=(q:Int)/\p<1024/\q<1024)/\(1<=l.length/\l.length<=64)/\sumLen l<=524288:=by
 unfold mediaB numsB at h;simp only [Bool.and_eq_true,Bool.not_eq_true',Bool.or_eq_false_iff,decide_eq_false_iff_not,decide_eq_true_eq]at h;obtain⟨⟨⟨⟨h1,h2⟩,h3⟩,h4⟩,h5,_,h6⟩:=h;exact⟨⟨a.toNat,b.toNat,by omega,by omega,by omega,by omega⟩,h5,h6⟩
theorem len_le_sum{l:List (List UInt8)}{b:List UInt8}(h:b∈l):b.length<=sumLen l:=by
 unfold sumLen
 induction l with
 | nil=>cases h
 | cons x l ih=>
  rw [List.map_cons,List.sum_cons];rcases List.mem_cons.1 h with rfl|h
  ·omega
  ·have:=ih h;omega
theorem ints_three{w:World}{g:Nat}{t:TypeId}{a b c:Nat}(h:Blk w g t #[.int .i64 (a:Int),.int .i64 (b:Int),.int .i64 (c:Int)]):IntsIn w (some ⟨g,0,none⟩) 3 3 (natI [a,b,c]):=by
 obtain⟨A,k,h1,_,h3,h4,h5⟩:=(RowIn.of_blk (n:=3) (size:=1) (xs:=[.int .i64 (a:Int),.int .i64 (b:Int),.int .i64 (c:Int)]) h rfl).ex;injection h1 with e1 e2 e3;subst e1 e3;exact⟨rfl,h3,h4,fun h0 ad e=>(h5 ad e h0).1⟩
theorem BoxesIn.three{w:World}{g:Nat}{t:TypeId}{u1 u2 u3:Value}{b1 b2 b3:Bx}(h:Blk w g t #[.string (strOf b1.typ),u1,.string (strOf b2.typ),u2,.string (strOf b3.typ),u3])
  (h1:BytesF w (fun _=>True) u1 b1.data)(h2:BytesF w (fun _=>True) u2 b2.data)(h3:BytesF w (fun _=>True) u3 b3.data):BoxesIn w (.slice (some ⟨g,0,none⟩) 3 3) [b1,b2,b3]:=
 ⟨[.string (strOf b1.typ),u1,.string (strOf b2.typ),u2,.string (strOf b3.typ),u3],RowIn.of_blk (n:=3) (size:=2) h rfl,⟨[[.string (strOf b1.typ),u1],[.string (strOf b2.typ),u2],[.string (strOf b3.typ),u3]],rfl,rfl,by simp,fun i x c hx hc=>by
  match i with
  | 0=>
   simp at hx hc;subst hx hc;exact⟨u1,rfl,h1⟩
  | 1=>
   simp at hx hc;subst hx hc;exact⟨u2,rfl,h2⟩
  | 2=>
   simp at hx hc;subst hx hc;exact⟨u3,rfl,h3⟩
  | i+3=>simp at hx⟩⟩
theorem run_bld{P:Program}{o:Oper}{a:Act}{w:World}(t:TypeId)(parts:Array (Nat × Operand))(ho:o.op=.build t parts)(cells:Array Value)
  (hc:P.built t (parts.map fun(i,x)=>(i,a.eval x)).toList=some cells):(execOp a.eval o).run P w=.ok (.value (.agg cells)) w:=by
 unfold execOp;simp only [ho,Sem.run_bind,run_build w t _ cells hc,Result.andThen_ok];rfl
def WmRel(w:World)(mb:Nat)(cs:Array Value)(l:List (List UInt8))(v4 v17:Value)(wr:World):Prop:=
 ∃i:Nat,i<=l.length/\v17=.int .i64 (i:Int)/\IntsOwn wr (mb+1) v4 (natI ((l.take i).map List.length))/\Blk wr mb 97 cs/\Mod (fun _=>False) w wr
theorem sgWriteMedia(w:World)(a b:Int)(v:Value)(l:List (List UInt8))(hin:SampsIn w v l)(hl:l.length<=9223372036854775807)(hs:sumLen l<=4611686018427387904):
  Calls Tryz.prog 63 #[.agg #[.int .i64 a,.int .i64 b,v]] w fun e w'=>Mod (fun _=>False) w w'/\((mediaB a b l=false/\e=.returned (.tuple #[.slice none 0 0,.int .i64 171])) \/
   (∃p q:Nat,a=(p:Int)/\b=(q:Int)/\mediaB a b l=true/\∃u,e=.returned (.tuple #[u,.int .i64 0])/\Bytes w' w.heap.size u (mediaFile p q l))):=by
 obtain⟨A,c,rfl,hlc⟩:=ListIn.shape hin;have hb:=Blk.new w 97 #[.int .i64 a,.int .i64 b,.slice A l.length c];have hm:Mod (fun _=>False) w (w.alloc (.cells #[.int .i64 a,.int .i64 b,.slice A l.length c] 97)):=(Mod.refl _ w).alloc _;obtain⟨bc,bf⟩:=hb.both;have bl:=hb.lt;have HM:=Lib.hid (And.intro hm (And.intro hin (And.intro hl (And.intro hs hb))));clear hm hb hin;go_enter Tryz.func63,Tryz.ntmps63;go_upto_region 1 with(fail)
 obtain⟨mb,hmb⟩:∃mb,mb=w.heap.size:=⟨_,rfl⟩
 rw [<-hmb]at HM bc bf bl ⊢;have HMB:=Lib.hid hmb;clear hmb;generalize w.alloc (.cells #[.int .i64 a,.int .i64 b,.slice A l.length c] 97)=w1 at *;have x0:w1.cell? ⟨mb,0,none⟩=some (.int .i64 a):=bc 0;have x1:w1.cell? ⟨mb,1,none⟩=some (.int .i64 b):=bc 1;have x2:w1.cell? ⟨mb,2,none⟩=some (.slice A l.length c):=bc 2;clear bc;go_wp2_with (refine wpList_load_row rfl 97 (.tmp 1) rfl mb rfl 97 #[.int .i64 a,.int .i64 b,.slice A l.length c] (0,0) _ HM.out.2.2.2.2 Tryz.underlying97 rfl (by kernel_rfl) ?_)
 refine(sgRightMedia w1 a b (.slice A l.length c) l (HM.out.2.1.quiet HM.out.1) hl hs).mono ?_;rintro e w2 ⟨rfl,hm2⟩;clear x0 x1 x2 bf bl;have hb2:=HM.out.2.2.2.2.keep hm2 (fun h=>h);have H2:=Lib.hid (And.intro (HM.out.1.trans hm2) hb2);clear hm2;obtain⟨bc,bf⟩:=hb2.both;have bl:=hb2.lt;have x2:w2.cell? ⟨mb,2,none⟩=some (.slice A l.length c):=bc 2;clear bc hb2;cases hmd:mediaB a b l with
 | false=>
  go_wp2_with fail;go_ret2;exact⟨H2.out.1,.inl ⟨hmd,rfl⟩⟩
 | true=>
  obtain⟨⟨p,q,rfl,rfl,hp,hq⟩,hl1,hsum⟩:=mediaB_yes hmd;have HB:=Lib.hid (And.intro hp (And.intro hq (And.intro hl1 (And.intro hsum HMB.out))));have HMD:=Lib.hid hmd;clear hmd hp hq;go_wp2_with (at_make;refine Hid.out ?_)
  refine Lib.hid ?_;obtain⟨i0,hi0,hz0,hz1,hz2⟩:=info_parts int_info;have hsz2:=bl;refine wpList_make_own w2 rfl (.const (.int .i64 0)) (.tmp 12) 23 rfl (mb+1) 3 i0 _ 1 Tryz.underlying23 hi0 hz0 hz1 .i64 .i64 (l.length:Int) l.length rfl rfl rfl (by rw [hz2];omega) (by unfold maxLen;omega) (by omega) ?_;intro w3 hown hgr;have hm3:Mod (fun _=>False) w2 w3:=(Mod.refl _ _).grown hgr (fun _ h=>by cases h);have hb3:=H2.out.2.keep hm3 (fun h=>h);have H3:=Lib.hid (And.intro (show IntsOwn w3 (mb+1) _ []from hown) (And.intro hb3 (H2.out.1.trans hm3)));clear hown hgr hi0 hz0 hz1 hz2 i0 hm3 x2 bf bl hsz2;obtain⟨bc,bf⟩:=hb3.both;have bl:=hb3.lt;have x2:w3.cell? ⟨mb,2,none⟩=some (.slice A l.length c):=bc 2;clear bc hb3;go_wp2_with fail;go_loopw [4,17] (WmRel w mb #[.int .i64 (p:Int),.int .i64 (q:Int),.slice A l.length c] l) (fun _ i _=>l.length-(intOf i).toNat)
  case atStart=>exact⟨0,Nat.zero_le _,rfl,H3.out.1,H3.out.2.1,H3.out.2.2⟩
  case round=>
   clear H3 x2 bf bl;obtain⟨i,hi,rfl,hB,hbk,hM⟩:=hrel;rename World=>wq
   obtain⟨Y,hY⟩:∃Y,Y=natI ((l.take i).map List.length):=⟨_,rfl⟩
   rw [<-hY]at hB;obtain⟨Ao,co,rfl⟩:=own_shape hB;by_cases hlt:i<l.length
   ·have d3:decide ((i:Int)<(l.length:Int))=true:=decide_eq_true (by omega);obtain⟨s,hs'⟩:∃s,l[i]?=some s:=⟨_,List.getElem?_eq_getElem hlt⟩
    obtain⟨g,o,cp,D,dc,hA,hkk,_,hdc⟩:=HM.out.2.1.atM hs';injection hA with hA _ hc;subst hA hc;have k0:=hkk wq hM;have hYs:natI ((l.take (i+1)).map List.length)=Y++[(s.length:Int)]:=by
     rw [List.take_add_one,hs',hY];simp [natI]
    have hYl:Y.length=i:=by
     rw [hY];simp [natI];omega
    have hlow:=fun j hj=>(hB.lt j hj).1;have hbl:=hbk.lt;have HK:=Lib.hid (And.intro hB (And.intro hbk (And.intro hM (And.intro hYs (And.intro hYl (And.intro hlow hbl))))));clear hkk hs' hB hbk hM hYs hYl hY hlow hbl;go_wp2_with (at_builtin;refine Hid.out ?_)
    refine Lib.hid ?_;refine wpList_app_int wq rfl (.tmp 21) (.tmp 24) rfl (mb+1) (.slice Ao Y.length co) Y (s.length:Int) rfl rfl HK.out.1 (by have:=HK.out.2.2.2.2.2.2;omega) (by have:=HK.out.2.2.2.2.1;have:=HB.out.2.2.1;omega) ?_;intro v8 w8 hv8 hm8 _ _;rw [<-HK.out.2.2.2.1]at hv8;have H8:=Lib.hid (And.intro hv8 (And.intro (HK.out.2.1.keep hm8 (fun h=>by have:=HK.out.2.2.2.2.2.1 _ h;omega)) (HK.out.2.2.1.into hm8 (fun j h=>.inr (by have:=HK.out.2.2.2.2.2.1 _ h;have:=HB.out.2.2.2.2;omega)))));clear hv8 hm8 k0;go_wp2_with fail;go_roundw
    case rel=>exact⟨i+1,by omega,by go_num,H8.out.1,H8.out.2.1,H8.out.2.2⟩
    case measure=>simp [intOf];omega
   ·obtain rfl:i=l.length:=by omega
    rw [List.take_length]at hY;subst hY;obtain⟨nY,hnY⟩:∃nY,nY=(natI (l.map List.length)).length:=⟨_,rfl⟩
    rw [<-hnY]at hB ⊢;have hnl:nY=l.length:=by rw [hnY];simp [natI]
    have HK:=Lib.hid (And.intro hB (And.intro hbk (And.intro hM hnl)));clear hB hbk hM hnY hnl;go_upto_region 9 with(fail)
    have hdr:=(Mod.refl (fun _=>False) wq).drew;refine wp_region_planT [7,8,11,15,17,18] [10,13,14,9,12] [0,1,2,3,4,5,6,10,13,14,7,8,9,11,12,15,16,17,18,19,20,21,22] (fun w'=>Blk w' mb 97 #[.int .i64 (p:Int),.int .i64 (q:Int),.slice A l.length c]) (by kernel_rfl) (by kernel_rfl) (fun _ _ _ d _ h=>by cases d<;>exact h) (HK.out.2.1.keep hdr (fun h=>h)) ?_;have H4:=Lib.hid (And.intro (own_mod HK.out.1 hdr (fun _ _ h=>h)) (And.intro (HK.out.2.1.keep hdr (fun h=>h)) (HK.out.2.2.1.trans hdr)));generalize wq.drew=w4 at H4 ⊢;clear hdr;obtain⟨bc,bf⟩:=H4.out.2.1.both;have bl:=H4.out.2.1.lt;have k0:w4.cell? ⟨mb,0,none⟩=some (.int .i64 (p:Int)):=bc 0;have k1:w4.cell? ⟨mb,1,none⟩=some (.int .i64 (q:Int)):=bc 1;have k2:w4.cell? ⟨mb,2,none⟩=some (.slice A l.length c):=bc 2;iterate 7 (refine planT_still rfl rfl (fun K hK=>?_);go_simp;refine hK _ ?_;clear hK K)
    clear bc bf bl k0 k1 k2;refine planT_read (v:=.slice Ao nY co) rfl rfl rfl (fun _ _=>rfl) (fun K hK=>?_);go_simp;refine hK _ ?_;clear hK K;refine planT_read (v:=.pointer (some ⟨mb,2,none⟩)) rfl rfl rfl (fun _ _=>rfl) (fun K hK=>?_);go_simp;refine hK _ ?_;clear hK K;refine planT_one rfl rfl _ _ rfl rfl mb 2 rfl (.slice A l.length c) _ (fun w' hS=>hS.cell 2) Tryz.underlying78 rfl (fun K hK=>?_);go_simp;refine hK _ ?_;clear hK K;refine planT_loud rfl rfl (fun K hK=>?_);go_simp;have hb5:=Blk.new w4 3 #[.int .i64 (p:Int),.int .i64 (q:Int),.int .i64 (l.length:Int)];have hm5:=(Mod.refl (fun _=>False) w4).alloc (.cells #[.int .i64 (p:Int),.int .i64 (q:Int),.int .i64 (l.length:Int)] 3);obtain⟨sb,hsb⟩:∃sb,sb=w4.heap.size:=⟨_,rfl⟩
    rw [<-hsb]at hb5 ⊢;have H5:=Lib.hid (And.intro (own_mod H4.out.1 hm5 (fun _ _ h=>h)) (And.intro (H4.out.2.1.keep hm5 (fun h=>h)) (And.intro (H4.out.2.2.trans hm5) (ints_three hb5))));generalize w4.alloc (.cells #[.int .i64 (p:Int),.int .i64 (q:Int),.int .i64 (l.length:Int)] 3)=w5 at H5 ⊢;clear hb5 hm5 hsb;refine hK _ _ H5.out.2.1 ?_;clear hK K;refine planT_loud rfl rfl (fun K hK=>?_);go_simp;have hlb:=H5.out.2.1.lt
    refine(sgFields w5 (mb+1) (.slice none 0 0) [] (.inl (World.ownsRow_nil _ _ _ _)) (by omega) (some ⟨sb,0,none⟩) 3 3 [p,q,l.length] H5.out.2.2.2 (fun ad e h=>by cases h) (fun x hx=>by
     simp only [List.mem_cons,List.not_mem_nil,or_false]at hx;have h1:=HB.out.1;have h2:=HB.out.2.1;have h3:=HB.out.2.2.1;rcases hx with rfl|rfl|rfl<;>omega) (by decide)).mono ?_
    rintro e w6 ⟨u6,rfl,hu6,hm6,_⟩;have hm6':Mod (fun _=>False) w5 w6:=(Mod.refl _ _).into hm6 (fun j h=>by cases h);obtain⟨A6,c6,rfl⟩:=hu6.shape;rw [List.nil_append]at hu6 ⊢;obtain⟨n6,hn6⟩:∃n6,n6=(nums32 [p,q,l.length]).length:=⟨_,rfl⟩
    rw [<-hn6]at hu6 ⊢;have H6:=Lib.hid (And.intro (own_mod H5.out.1 hm6' (fun _ _ h=>h)) (And.intro (H5.out.2.1.keep hm6' (fun h=>h)) (And.intro (H5.out.2.2.1.trans hm6') hu6)));clear hm6 hm6' hu6 hn6 hlb;dsimp only [];refine hK _ _ H6.out.2.1 ?_;clear hK K;refine planT_read (v:=.agg #[.string { data:=#[104,101,97,100] },.slice A6 n6 c6]) rfl rfl rfl (fun _ _=>run_bld _ _ rfl _ (by kernel_rfl)) (fun K hK=>?_);go_simp;refine hK _ ?_;clear hK K;refine planT_loud rfl rfl (fun K hK=>?_);go_simp;have hlb:=H6.out.2.1.lt
    refine(sgFields w6 (mb+1) (.slice none 0 0) [] (.inl (World.ownsRow_nil _ _ _ _)) (by omega) Ao nY co (l.map List.length) (show IntsOwn w6 (mb+1) (.slice Ao nY co) (natI (l.map List.length))from H6.out.1).in_ (fun ad e h=>by cases h) (fun x hx=>by
     obtain⟨b,hb,rfl⟩:=List.mem_map.1 hx;have:=len_le_sum hb;have:=HB.out.2.2.2.1;omega) (by rw [HK.out.2.2.2];have:=HB.out.2.2.1;simp;omega)).mono ?_
    rintro e w7 ⟨u7,rfl,hu7,hm7,_⟩;have hm7':Mod (fun _=>False) w6 w7:=(Mod.refl _ _).into hm7 (fun j h=>by cases h);obtain⟨A7,c7,rfl⟩:=hu7.shape;rw [List.nil_append]at hu7 ⊢;obtain⟨n7,hn7⟩:∃n7,n7=(nums32 (l.map List.length)).length:=⟨_,rfl⟩
    rw [<-hn7]at hu7 ⊢;have H7:=Lib.hid (And.intro (H6.out.2.2.2.mod hm7' (fun _ _ h=>h)) (And.intro (H6.out.2.1.keep hm7' (fun h=>h)) (And.intro (H6.out.2.2.1.trans hm7') hu7)));clear hm7 hm7' hu7 hn7 hlb;dsimp only [];refine hK _ _ H7.out.2.1 ?_;clear hK K;refine planT_read (v:=.agg #[.string { data:=#[116,97,98,108] },.slice A7 n7 c7]) rfl rfl rfl (fun _ _=>run_bld _ _ rfl _ (by kernel_rfl)) (fun K hK=>?_);go_simp;refine hK _ ?_;clear hK K;refine planT_loud rfl rfl (fun K hK=>?_);go_simp;refine(bConcat w7 (.slice A l.length c) l (HM.out.2.1.quiet H7.out.2.2.1) (by have:=HB.out.2.2.1;omega) (by have:=HB.out.2.2.2.1;omega)).mono ?_;rintro e w8 ⟨u8,rfl,hu8,hm8⟩;obtain⟨A8,c8,rfl⟩:=own_shape hu8;obtain⟨n8,hn8⟩:∃n8,n8=l.flatten.length:=⟨_,rfl⟩
    rw [<-hn8]at hu8 ⊢;have H8:=Lib.hid (And.intro (H7.out.1.mod hm8 (fun _ _ h=>h)) (And.intro (H7.out.2.1.keep hm8 (fun h=>h)) (And.intro (H7.out.2.2.1.trans hm8) (And.intro (H7.out.2.2.2.mod hm8 (fun _ _ h=>h)) hu8))));clear hm8 hu8 hn8;dsimp only [];refine hK _ _ H8.out.2.1 ?_;clear hK K;refine planT_still rfl rfl (fun K hK=>?_);go_simp;refine hK _ ?_;clear hK K;refine planT_last rfl rfl (fun K hK=>?_);go_simp;have hbr:=Blk.new w8 151 #[.string (strOf tHead),.slice A6 n6 c6,.string (strOf tTabl),.slice A7 n7 c7,.string (strOf tData),.slice A8 n8 c8];have hmr:=(Mod.refl (fun _=>False) w8).alloc (.cells #[.string (strOf tHead),.slice A6 n6 c6,.string (strOf tTabl),.slice A7 n7 c7,.string (strOf tData),.slice A8 n8 c8] 151)
    have hbx:BoxesIn (w8.alloc (.cells #[.string (strOf tHead),.slice A6 n6 c6,.string (strOf tTabl),.slice A7 n7 c7,.string (strOf tData),.slice A8 n8 c8] 151)) (.slice (some ⟨w8.heap.size,0,none⟩) 3 3) (mediaBx p q l):=
     BoxesIn.three (b1:=⟨tHead,nums32 [p,q,l.length]⟩) (b2:=⟨tTabl,nums32 (l.map List.length)⟩) (b3:=⟨tData,l.flatten⟩) hbr
      ((H8.out.1.mod hmr (fun _ _ h=>h)).toF) ((H8.out.2.2.2.1.mod hmr (fun _ _ h=>h)).toF) (BytesF.of_own (B:=w7.heap.size) (own_mod H8.out.2.2.2.2 hmr (fun _ _ h=>h)) (fun _ _=>trivial))
    obtain⟨rb,hrb⟩:∃rb,rb=w8.heap.size:=⟨_,rfl⟩
    rw [<-hrb]at hbx ⊢;have H9:=Lib.hid (And.intro (H8.out.2.2.1.trans hmr) hbx);clear hbr hmr hbx hrb;refine hK _ _ ?_;clear hK K;refine planT_last rfl rfl (fun K hK=>?_);go_simp;refine(sgSeal _ (.slice (some ⟨rb,0,none⟩) 3 3) (mediaBx p q l) H9.out.2 (show 3<=1000000 by decide) (by rw [mediaBx_size];have:=HB.out.2.2.1;have:=HB.out.2.2.2.1;omega)).mono ?_;rintro e wA ⟨hmA,⟨hno,rfl⟩|⟨_,uA,rfl,huA⟩⟩
    ·rw [mediaBx_ok HB.out.2.2.1.2 HB.out.2.2.2.1]at hno;cases hno
    ·have HA:=Lib.hid (And.intro (H9.out.1.trans hmA) (own_base huA H9.out.1.size));clear hmA huA;dsimp only [];refine hK _ _ ?_;clear hK K;iterate 4 (refine planT_still rfl rfl (fun K hK=>?_);go_simp;refine hK _ ?_;clear hK K)
     refine planT_done ?_;go_wp2_with fail;go_ret2;exact⟨HA.out.1,.inr ⟨p,q,rfl,rfl,HMD.out,_,rfl,HA.out.2⟩⟩
end Go.Proofs.YtnnpoodcdibpiaaGreatDoor
