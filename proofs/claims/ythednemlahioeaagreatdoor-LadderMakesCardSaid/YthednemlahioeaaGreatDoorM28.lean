/-
  A row of ints of one's own: its block, stores into it.
-/
import Derived.Test.YthednemlahioeaaGreatDoorM15
namespace Go.Proofs.YthednemlahioeaaGreatDoor
open Go.RowKit
open Value renaming ownBlock→YQ
open Option.some renaming injEq→X3
open List renaming map_set→WU,length_set→V7,getD_eq_getElem?_getD→Z6,replicate→ZM,length_replicate→XH,getElem?_eq_getElem→ZP,getElem_mem→Xo,mem_of_mem_take→VH
open Nat renaming le_trans→ZQ,zero_le→XI,le_refl→ZY,sub_self→XY,pow_le_pow_right→Xx,lt_of_lt_of_le→ZB
open Lib renaming hid→Z7
open And renaming intro→Z9
open IntWalk renaming i64_in→Z4,u64_in→Ub
open Go.Proofs.Tryz
set_option maxRecDepth 100000
set_option maxHeartbeats 8000000
theorem Zx.SL{w:World}{B b n c:Nat}{l:List Int}(h:Zx w B ↑(ZZ b n c) l){g:Nat}{t:TypeId}{cs:Array Value}(hb:ZI w g t cs)(ht:t≠3):b≠g:=by
 rintro rfl;rcases h.2 with⟨h',_⟩|⟨g',cap',cur,h',_,hg,_⟩
 ·cases h'
 ·injection h' with e1 e2 e3;injection e1 with e1;injection e1 with e1 _ _;subst e1;have h2:w.heap[b]?=some (.cells cs t (0,0)):=hb;rw [hg]at h2;injection h2 with h2;injection h2 with _ h3 _;exact ht h3.symm
theorem Zx.far{w:World}{B b n c:Nat}{l:List Int}(h:Zx w B ↑(ZZ b n c) l){p:Addr}(hp:b≠p.block)(u:Value):Zx (w.setCell p u) B ↑(ZZ b n c) l:=
 h.mod ((Mod.refl (·=p.block) w).setCell (.inl rfl) u) (fun g e=>by simp only [YQ,X3]at e;subst e;exact hp)
theorem Zx.put{w:World}{B b n c:Nat}{l:List Int}(h:Zx w B ↑(ZZ b n c) l)(i:Nat)(x:Int):Zx (w.setCell ⟨b,i,none⟩ ↑x) B ↑(ZZ b n c) (l.set i x):=by
 have hn:n=l.length:=by
  rcases h.2 with⟨h',_⟩|⟨g',cap',cur,h',_⟩
  ·cases h'
  ·injection h'
 subst hn;have h1:=(World.ownsRow.stored h i ↑x).1;have e:Y4 (l.set i x)=(Y4 l).set i ↑x:=by simp [Y4,WU]
 unfold Zx;rw [e,V7];exact h1
theorem Zx.low{w:World}{B b n c:Nat}{l:List Int}(h:Zx w B ↑(ZZ b n c) l):B<=b/\b<w.heap.size:=World.ownsRow.lt h b rfl
theorem Zx.frozen{w:World}{B b n c:Nat}{l:List Int}(h:Zx w B ↑(ZZ b n c) l)(j:Nat):w.frozen? ⟨b,j,none⟩=false:=by
 have hn:n=l.length:=by
  rcases h.2 with⟨h',_⟩|⟨g',cap',cur,h',_⟩
  ·cases h'
  ·injection h'
 subst hn;exact World.ownsRow.frozenAt h j
theorem Zx.apart{w:World}{B:Nat}{v:Value}{l:List Int}(h:Zx w B v l){g:Nat}{t:TypeId}{cs:Array Value}(hb:ZI w g t cs)(ht:t≠3):¬v.ownBlock=some g:=by
 intro e;rcases h.2 with⟨h',_⟩|⟨g',cap',cur,h',_,hg,_⟩
 ·rw [h']at e;cases e
 ·rw [h']at e;simp only [YQ,X3]at e;subst e;have h2:w.heap[g']?=some (.cells cs t (0,0)):=hb;rw [hg]at h2;injection h2 with h2;injection h2 with _ h3 _;exact ht h3.symm
theorem Zx.down{w:World}{B B':Nat}{v:Value}{l:List Int}(h:Zx w B v l)(hB:B'<=B):Zx w B' v l:=
 ⟨h.1,h.2.imp id fun⟨g,cap,cur,h1,h2,h3⟩=>⟨g,cap,cur,h1,ZQ hB h2,h3⟩⟩
theorem Zx.cell{w:World}{B r n c:Nat}{l:List Int}(h:Zx w B ↑(ZZ r n c) l)(i:Nat)(hi:i<l.length):w.cell? ⟨r,i,none⟩=some (.int .i64 (l.getD i 0)):=by
 have:=World.ownsRow.cells h (g:=r) rfl i (.int .i64 (l.getD i 0)) (by simp [Y4,Z6,hi]);rwa [addr_add]at this
theorem Zx.some_{w:World}{B n c:Nat}{A:Option Addr}{l:List Int}(h:Zx w B (.slice A n c) l)(h0:0<l.length):∃r,A=some ⟨r,0,none⟩/\l.length<=c:=by
 rcases h.2 with⟨_,h1⟩|⟨r,cap,cur,hv,_,_,hc,_⟩
 ·omega
 ·injection hv with e1 _ e3;exact⟨r,e1,Z8⟩
def bI(l:List UInt8):List Int:=l.map fun b=>(b.toNat:Int)
theorem Qp(l:List UInt8):(bI l).length=l.length:=by simp [bI]
theorem rE(l:List UInt8)(i:Nat):(bI l).getD i 0=((l.getD i 0).toNat:Int):=by
 unfold bI;rw [Z6,List.getElem?_map,Z6];cases l[i]?<;>rfl
theorem ag1(l:List UInt8)(i x:Nat)(hx:x<256):bI (l.set i (UInt8.ofNat x))=(bI l).set i (x:Int):=by
 unfold bI;rw [WU,UInt8.toNat_ofNat',Nat.mod_eq_of_lt hx]
theorem ag2(l:List UInt8):bI (l++[0])=bI l++[0]:=by simp [bI]
theorem aeR(w:World)(c:Int):Calls prog 369 #[↑c] w fun e w'=>e=.returned (.bool (decide (31<=c/\c<=2017)))/\w=w':=by
 by_cases h1:31<=c
 ·by_cases h2:c<=2017
  ·have d1:decide (31<=c)=true:=decide_eq_true h1;have d2:decide (c<=2017)=true:=decide_eq_true h2;have d3:decide (31<=c/\c<=2017)=true:=decide_eq_true ⟨h1,h2⟩;rw [d3];go_enter func369,ntmps369;go_wp2_with fail;go_ret;exact⟨rfl,rfl⟩
  ·have d1:decide (31<=c)=true:=decide_eq_true h1;have d2:decide (c<=2017)=false:=decide_eq_false h2;have d3:decide (31<=c/\c<=2017)=false:=decide_eq_false (fun h=>h2 h.2);rw [d3];go_enter func369,ntmps369;go_wp2_with fail;go_ret;exact⟨rfl,rfl⟩
 ·have d1:decide (31<=c)=false:=decide_eq_false h1;have d3:decide (31<=c/\c<=2017)=false:=decide_eq_false (fun h=>h1 h.1);rw [d3];go_enter func369,ntmps369;go_wp2_with fail;go_ret;exact⟨rfl,rfl⟩
structure EO(w:World)(g:Nat)(v:Value)(code:List UInt8)(wide:Nat):Prop where
 blk:ZI w g 267 #[v,↑wide]
 own:Zx w 0 v (bI code)
 four:4<=code.length
 lo:16777216<=wide
 hi:wide<4294967296
theorem EO.quiet{w w':World}{g:Nat}{v:Value}{code:List UInt8}{wide:Nat}(h:EO w g v code wide)(hm:Mod ↑ZW w w'):EO w' g v code wide:=⟨h.blk.keep hm (fun h=>h),h.own.quiet hm,h.four,h.lo,h.hi⟩
theorem EO.shape{w:World}{g:Nat}{v:Value}{code:List UInt8}{wide:Nat}(h:EO w g v code wide):∃r k,v=↑(ZZ r code.length k)/\r≠g:=by
 obtain⟨A,k,rfl⟩:=ZG h.own;obtain⟨r,rfl,_⟩:=h.own.some_ (by rw [Qp];have:=h.four;omega);have ho:=h.own;rw [Qp];exact⟨r,k,rfl,ho.SL h.blk ZU⟩
theorem ahP(w:World):Calls prog 102 #[] w fun e w'=>∃g v,e=.returned ↑(ZC g 0)/\EO w' g v [0,0,0,0] 4294967295/\w.heap.size<=g/\(∀j,v.ownBlock=some j->w.heap.size<=j)/\Mod ↑ZW w w':=by
 have hr:=ZI.new w 3 #[↑Z0,↑Z0,↑Z0,↑Z0];have H:=Z7 hr;clear hr;go_enter func102,ntmps102;go_wp2_with fail;go_ret;have hr:=H.out.alloc (.cells #[↑(ZZ w.heap.size 4 4),.int .i64 4294967295] 267);have hb:=ZI.new (w.alloc (.cells #[↑Z0,↑Z0,↑Z0,↑Z0] 3)) 267 #[↑(ZZ w.heap.size 4 4),.int .i64 4294967295];refine⟨_,↑(ZZ w.heap.size 4 4),rfl,⟨by simpa using hb,Zx.whole (l:=bI [0,0,0,0]) (XI _) hr ZU,ZU,Z8,Z8⟩,Ze,fun j e=>?_,((Mod.refl ↑ZW w).alloc _).alloc _⟩;simp only [YQ,X3]at e;omega
def afs(w:World)(g r n k:Nat)(wide:Nat)(R:List UInt8)(v4 v5:Value)(wr:World):Prop:=
 ∃(m c:Nat) (L:List UInt8),m<=n/\v4=↑c/\v5=.int .i64 ((m:Int)-1)/\L.length=n/\c<4294967296/\Nj m L c=R/\Zx wr 0 ↑(ZZ r n k) (bI L)/\ZI wr g 267 #[↑(ZZ r n k),↑wide]/\Mod (·=r) w wr
theorem ahQ(w:World)(g r k:Nat)(code:List UInt8)(wide:Nat)(h:EO w g ↑(ZZ r code.length k) code wide)(hl:code.length<=1048576)(c:Nat)(hc:c<4294967296):
  Calls prog 370 #[↑(ZC g 0),↑c] w fun e w'=>e=.returned (.tuple #[])/\EO w' g ↑(ZZ r code.length k) (za code c) wide/\Mod (·=r) w w':=by
 obtain⟨n,hn⟩:=ZL (code.length);rw [<-hn]at h hl ⊢;obtain⟨bc,bf⟩:=h.blk.both;have H:=Z5 h hn;clear h hn;go_enter func370,ntmps370;go_wp2_with fail;go_loopw [4,5] (afs w g r n k wide (za code c)) (fun _ v _=>(intOf v+1).toNat)
 case atStart=>exact⟨n,c,code,ZY _,rfl,rfl,H.out.2.symm,hc,by rw [H.out.2];rfl,H.out.1.own,H.out.1.blk,Mod.refl _ _⟩
 case round=>
  clear bc bf;obtain⟨m,cc,L,hm,rfl,rfl,hL,hcc,hR,ho,hb,hM⟩:=hrel;rename World=>wr
  obtain⟨bc,bf⟩:=hb.both;by_cases QN:m=0
  ·subst QN;have HE:=Z5 hR (Z9 ho (Z9 hb (Z9 hM hL)));clear hR ho hb hM hL;go_wp2_with fail;go_end0
   refine⟨rfl,⟨HE.out.2.2.1,?_,?_,H.out.1.lo,H.out.1.hi⟩,HE.out.2.2.2.1⟩
   ·rw [<-HE.out.1];exact HE.out.2.1
   ·rw [Sy];exact H.out.1.four
  ·obtain⟨m,rfl⟩:∃m',m=m'+1:=⟨m-1,Z8⟩
   have e1:(((m+1:Nat):Int)-1)=(m:Int):=Z8;rw [e1];by_cases hc0:cc=0
   ·subst hc0;rw [wK]at hR;have HE:=Z5 hR (Z9 ho (Z9 hb (Z9 hM hL)));clear hR ho hb hM hL e1;go_wp2_with fail;go_end0
    refine⟨rfl,⟨HE.out.2.2.1,?_,?_,H.out.1.lo,H.out.1.hi⟩,HE.out.2.2.2.1⟩
    ·rw [<-HE.out.1];exact HE.out.2.1
    ·rw [Sy];exact H.out.1.four
   ·have xy:m<L.length:=Z8;have CU:=ho.cell m (by rw [Qp];exact xy);rw [rE]at CU;have bfr:=ho.frozen m;have brl:=ho.low.2;obtain⟨x,hx⟩:=ZL ((L.getD m 0).toNat);have fD:x<256:=by rw [hx];exact UInt8.toNat_lt _
    rw [<-hx]at CU;have d1:=Zb (0<(cc:Int));unfold Nj at hR;rw [if_neg hc0,<-hx]at hR;have hne:=ho.SL hb ZU;have HX:=Z7 hx;clear hx;have HE:=Z5 hR (Z9 ho (Z9 hb (Z9 hM hL)));clear hR ho hb hM hL e1;go_wp2_with fail;rw [show(cc:Int)/256+((x:Int)+(cc:Int) % 256)/256=(((cc+x)/256:Nat):Int)by omega,show((x:Int)+(cc:Int)) % 256=(((cc+x) % 256:Nat):Int)by omega];refine⟨⟨m,(cc+x)/256,L.set m (UInt8.ofNat ((cc+x) % 256)),Z8,rfl,rfl,by rw [V7];exact HE.out.2.2.2.2,Z8,HE.out.1,?_,HE.out.2.2.1.far (p:=⟨r,m,none⟩) (Ne.symm hne) _,HE.out.2.2.2.1.setCell (p:=⟨r,m,none⟩) (.inl rfl) _⟩,?_⟩
    ·rw [ag1 L m _ (Nat.mod_lt _ Z8)];exact HE.out.2.1.put m _
    ·simp only [intOf];omega
def kK(w:World)(g:Nat)(v:Value)(x:List UInt8 × Nat)(e:Ending)(w':World):Prop:=
 ∃v',e=.returned ↑Z0/\EO w' g v' x.1 x.2/\(∀j,v'.ownBlock=some j->v.ownBlock=some j\/w.heap.size<=j)/\Mod (fun j=>j=g\/v.ownBlock=some j) w w'
def kJ(w:World)(g:Nat)(v:Value)(x:List UInt8 × Nat)(wr:World):Prop:=
 ∃v1 Ui w1,ZI wr g 267 #[v1,↑(w1:Nat)]/\Zx wr 0 v1 (bI Ui)/\4<=Ui.length/\(w1<16777216->Ui.length<=1048575)/\65536<=w1/\w1<4294967296/\Ky Ui w1=x/\(∀j,v1.ownBlock=some j->v.ownBlock=some j\/w.heap.size<=j)/\Mod (fun j=>j=g\/v.ownBlock=some j) w wr
def uW(g:Nat)(w:World):Nat:=match w.cell? ⟨g,1,none⟩with|some (.int _ n)=>4294967296-n.toNat|_=>0
theorem BS{w:World}{g:Nat}{v:Value}{x:Nat}(h:ZI w g 267 #[v,↑x]):uW g w=4294967296-x:=by
 unfold uW;rw [show w.cell? ⟨g,1,none⟩=some ↑x from h.cell 1];simp
theorem fU(w:World)(g:Nat)(v:Value)(code:List UInt8)(wide c bit:Nat)(h:EO w g v code wide)(hl:code.length<=1048575)(hc:WJ c=true)(hb:bit<=1):
  Calls prog 307 #[↑(ZC g 0),↑c,↑bit] w (kK w g v (Nk code wide c bit)):=by
 obtain⟨r,k,rfl,hrg⟩:=h.shape;have hcb:31<=c/\c<=2017:=by unfold WJ at hc;rwa [decide_eq_true_eq]at hc
 have LG:=AO hcb ⟨h.lo,h.hi⟩;have IZ:=h.lo;have Fv:=h.hi;obtain⟨bd,si⟩:=ZL (wide/2048*c);rw [<-si]at LG;obtain⟨hb1,hb2⟩:=LG;have e1:(wide:Int)/2048*(c:Int)=(bd:Int):=by rw [si];simp
 have dc:=Zb (31<=(c:Int)/\(c:Int)<=2017);obtain⟨bc,bf⟩:=h.blk.both;have bl:=h.blk.lt;obtain⟨hc1,hc2⟩:=hcb;have H:=Z5 h (Z9 dc (Z9 e1 si));clear h hc e1 si dc;have Sk:bit=0\/bit=1:=Z8;refine Calls.mono (R:=kK w g ↑(ZZ r code.length k) (Nk code wide c bit)) ?_ (fun _ _ h=>h);go_enter func307,ntmps307;go_wp2_with fail;refine YH (aeR _ (c:Int)) ?_;rw [H.out.2.1];go_upto_region 2 with(fail)
 go_cut [20] (fun v20 wx=>v20=.bool false/\wx=w)
 case first=>
  rcases Sk with rfl|rfl
  ·go_wp2_with fail;go_meet;exact⟨rfl,rfl⟩
  ·go_wp2_with fail;go_meet;exact⟨rfl,rfl⟩
 case rest=>
  obtain⟨rfl,rfl⟩:=hcut;go_upto_region 5 with(fail)
  rw [H.out.2.2.1,IntWalk.wrap64_in (bd:Int) ⟨Z8,Z8⟩];rename World=>w
  go_cut [29] (fun v29 wx=>v29=.bool ((bit:Int) == 0)/\wx=w)
  case first=>
   go_wp2_with fail;go_meet;exact⟨rfl,rfl⟩
  case rest=>
   obtain⟨rfl,rfl⟩:=hcut;rename World=>w
   go_upto_if 29 with(fail)
   go_cut [] (fun wx=>kJ w g ↑(ZZ r code.length k) (Nk code wide c bit) wx)
   case first=>
    rcases Sk with rfl|rfl
    ·go_wp2_with fail;go_meet;exact⟨_,code,bd,H.out.1.blk.put (i:=1) rfl,H.out.1.own.far (p:=⟨g,1,none⟩) hrg _,H.out.1.four,fun _=>hl,Z8,Z8,by rw [H.out.2.2.2];rfl,fun j e=>.inl e,(Mod.refl _ w).setCell (p:=⟨g,1,none⟩) (.inl (.inl rfl)) _⟩
    ·go_wp2_with fail;refine(ahQ w g r k code wide H.out.1 Z8 bd Z8).mono ?_;rintro e w2 ⟨rfl,uq,Y3⟩;clear bc bf bl;obtain⟨bc,bf⟩:=uq.blk.both;have bl:=uq.blk.lt;have H2:=Z5 uq Y3;clear uq Y3;go_wp2_with fail;go_meet;rw [show(wide:Int)-(bd:Int)=((wide-bd:Nat):Int)by omega];exact⟨_,za code bd,wide-bd,H2.out.1.blk.put (i:=1) rfl,H2.out.1.own.far (p:=⟨g,1,none⟩) hrg _,H2.out.1.four,fun _=>by rw [Sy];exact hl,Z8,Z8,by rw [H.out.2.2.2];rfl,fun j e=>.inl e,(H2.out.2.mono (fun j e=>.inr (by subst e;rfl))).setCell (p:=⟨g,1,none⟩) (.inl (.inl rfl)) _⟩
   case rest=>
    have HN:=Z7 hcut;clear hcut bc bf bl;rename World=>w9
    go_wp2_with fail;go_loopw [] (kJ w g ↑(ZZ r code.length k) (Nk code wide c bit)) (fun wr=>uW g wr)
    case atStart=>exact HN.out
    case round=>
     clear HN;obtain⟨v1,Ui,x1,hb1,Gp,h41,KR,hlo1,hhi1,hx1,Jd,Y6⟩:=hrel;rename World=>wr
     obtain⟨bc,bf⟩:=hb1.both;have bl:=hb1.lt;by_cases hn:x1<16777216
     ·have dZ:=BS hb1;obtain⟨A1,k1,rfl⟩:=ZG Gp;obtain⟨r1,rfl,_⟩:=Gp.some_ (by rw [Qp];omega);rw [Qp]at Gp hb1 bc Jd;have hr1:=Gp.SL hb1 ZU;have hl2:=KR hn;clear KR;have d9:=Zb ((x1:Int)<16777216);obtain⟨y,hy⟩:=ZL (x1*256);have aY:256*(x1:Int)=(y:Int):=Z8;have Bt:16777216<=y:=Z8;have sM:y<4294967296:=Z8;have hb2:=hb1.put (i:=1) (u:=↑y) rfl;have mP:=Gp.far (p:=⟨g,1,none⟩) hr1 ↑y;have Y3:=Y6.setCell (p:=⟨g,1,none⟩) (.inl (.inl rfl)) ↑y;rw [Jb hn,<-hy]at hx1;have HA:=Z5 mP (Z9 hb2 (Z9 Y3 (Z9 Jd (Z9 hx1 (Z9 dZ hy)))));have HW8:=Z7 aY;clear hy Gp mP hb1 hb2 Y6 Y3 Jd hx1 dZ aY;go_upto_region 11 with(fail)
      rw [HW8.out];clear bc bf bl;have vJ:ZI (wr.setCell ⟨g,1,none⟩ ↑y) g 267 #[↑(ZZ r1 Ui.length k1),↑y]:=HA.out.2.1;generalize wr.setCell ⟨g,1,none⟩ ↑y=wz at *;obtain⟨bc,bf⟩:=vJ.both;have bl:=vJ.lt;have HZ:=Z7 vJ;clear vJ;go_wp2_with (at_builtin;have _t:=HA;refine Vg _ rfl (.tmp 63) (.tmp 64) rfl 0 ↑(ZZ r1 Ui.length k1) (bI Ui) 0 rfl rfl HA.out.1 (XI _) (by rw [Qp];omega) ?_;intro v5 w5 PV RO jF Jz;clear jF;have HO:=Z5 PV (Z9 RO Jz);have Ut:=HZ.out.keep RO (HA.out.1.apart HZ.out ZU);obtain⟨bc5,bf5⟩:=Ut.both;have bl5:=Ut.lt;have H5:=Z7 Ut;clear Ut PV RO Jz;refine Hid.out ?_)
      refine Z7 ?_;clear bc bf bl d9;obtain⟨A5,k5,hv5⟩:=ZG HO.out.1;obtain⟨n5,Cr⟩:=ZL ((bI Ui++[0]).length);rw [<-Cr]at hv5;subst hv5;have HN5:=Z7 Cr;clear Cr;go_wp2_with fail;have ET:=H5.out.put (i:=0) (u:=.slice A5 n5 k5) rfl;have jd:=HA.out.2.2.1.size;have ho6:=HO.out.1.mod ((Mod.refl (fun j=>j=g) w5).setCell (p:=↑g) (.inl rfl) (.slice A5 n5 k5)) (fun j e hj=>HO.out.1.apart H5.out ZU (hj▸e));rw [<-ag2]at ho6;refine⟨⟨_,Ui++[0],y,ET,ho6,by simp;omega,fun h=>by omega,Z8,sM,(Qw Bt).trans HA.out.2.2.2.2.1,fun j e=>?_,(HA.out.2.2.1.into HO.out.2.1 (fun j e=>?_)).setCell (p:=↑g) (.inl (.inl rfl)) _⟩,?_⟩
      ·rcases HO.out.2.2 j e with h1|h1
       ·exact HA.out.2.2.2.1 j h1
       ·exact .inr (ZQ jd h1)
      ·rcases HA.out.2.2.2.1 j e with h1|h1
       ·exact .inl (.inr h1)
       ·exact .inr h1
      ·rw [BS ET,HA.out.2.2.2.2.2.1];omega
     ·have d9:=Za ((x1:Int)<16777216);rw [Qw Z8]at hx1;have HX:=Z5 hx1 (Z9 hb1 (Z9 Gp (Z9 Jd Y6)));clear hx1 hb1 Gp Jd Y6;go_wp2_with fail;go_ret;rw [<-HX.out.1];exact⟨v1,rfl,⟨HX.out.2.1,HX.out.2.2.1,h41,Z8,hhi1⟩,HX.out.2.2.2.1,HX.out.2.2.2.2⟩
def Ob(l:List Nat):List Value:=l.map fun x=>↑(x:Nat)
theorem ajj(w:World)(c bit:Nat)(hb:bit<=1)(h:WJ c=true):Calls prog 308 #[↑c,↑bit] w fun e w'=>e=.returned ↑(Q7 c bit:Nat)/\w=w':=by
 have hc:31<=c/\c<=2017:=by unfold WJ at h;rwa [decide_eq_true_eq]at h
 obtain⟨h1,h2⟩:=hc;have m0:=Za ((c:Int)<31);have m1:=Za ((2017:Int)<(c:Int));clear h;have hb2:bit=0\/bit=1:=Z8;have e0:((Q7 c 0:Nat):Int)=(c:Int)+(2048-(c:Int))/32:=by unfold Q7;rw [if_pos rfl];omega
 have e1:((Q7 c 1:Nat):Int)=(c:Int)-(c:Int)/32:=by unfold Q7;rw [if_neg ZU];omega
 have HE:=Z5 e0 e1;clear e0 e1
 cases d1:decide ((31:Int)<(c:Int))<;>cases d2:decide ((c:Int)<2017)<;>rcases hb2 with rfl|rfl<;>(
  go_enter func308,ntmps308;go_wp2_with fail;go_ret
  first
  | exact⟨by rw [HE.out.1];rfl,rfl⟩
  | exact⟨by rw [HE.out.2];rfl,rfl⟩)
theorem agJ(w:World)(i ahead:Nat)(hi:i<4)(ha:ahead<1048576):Calls prog 228 #[↑i,↑ahead] w fun e w'=>e=.returned ↑(atIdx i ahead:Nat)/\w=w':=by
 have h4:i=0\/i=1\/i=2\/i=3:=Z8;clear hi;rcases h4 with rfl|rfl|rfl|rfl
 ·have e1:((atIdx 0 ahead:Nat):Int)=20+(ahead:Int):=by unfold atIdx;omega
  have HE:=Z7 e1;clear e1;go_enter func228,ntmps228;go_wp2_with fail;go_ret;exact⟨by rw [HE.out];rfl,rfl⟩
 ·have e1:((atIdx 1 ahead:Nat):Int)=21+(ahead:Int):=by unfold atIdx;omega
  have HE:=Z7 e1;clear e1;go_enter func228,ntmps228;go_wp2_with fail;go_ret;exact⟨by rw [HE.out];rfl,rfl⟩
 ·have e1:((atIdx 2 ahead:Nat):Int)=23+(ahead:Int):=by unfold atIdx;omega
  have HE:=Z7 e1;clear e1;go_enter func228,ntmps228;go_wp2_with fail;go_ret;exact⟨by rw [HE.out];rfl,rfl⟩
 ·have e1:((atIdx 3 ahead:Nat):Int)=27+(ahead:Int):=by unfold atIdx;omega
  have HE:=Z7 e1;clear e1;go_enter func228,ntmps228;go_wp2_with fail;go_ret;exact⟨by rw [HE.out];rfl,rfl⟩
theorem aeZ(w:World)(i ahead:Nat)(hi:4<=i)(h2:i<1048576):Calls prog 228 #[↑i,↑ahead] w fun e w'=>e=.returned (.int .i64 (-1))/\w=w':=by
 have d1:=Zb ((4:Int)<=(i:Int));go_enter func228,ntmps228;go_wp2_with fail;go_ret;exact⟨rfl,rfl⟩
def Pn(m:Nat):List Nat:=ZM m 1024++ZM (592-m) 0
theorem acp(m:Nat)(h:m<592):(Ob (Pn m)).set m ↑(1024:Nat)=Ob (Pn (m+1)):=by
 apply List.ext_getElem
 ·simp [Ob,Pn];omega
 ·intro i h1 h2;have hi:i<592:=by simp [Ob,Pn]at h2;omega
  rw [List.getElem_set];by_cases e:m=i
  ·subst e;simp [Ob,Pn]
  ·rw [if_neg e];simp only [Ob,List.getElem_map,Pn,List.getElem_append,XH,List.getElem_replicate];split<;>split<;>first|rfl|omega
theorem abI(m:Nat)(h:m<592):(Ob (Pn m)).toArray[m]?=some ↑Z0:=by
 have h1:(Pn m)[m]?=some 0:=by
  unfold Pn;rw [List.getElem?_append_right Ze,XH,XY,List.getElem?_replicate,VI]
 simp [Ob,h1]
def adX(w:World)(v:Value)(wr:World):Prop:=∃t:Nat,t<=16/\v=↑t/\ZI wr w.heap.size 271 (Ob (Pn (t*37))).toArray/\Mod ↑ZW w wr
def adW(w:World)(t:Nat)(v:Value)(wr:World):Prop:=∃i:Nat,i<=37/\v=↑i/\ZI wr w.heap.size 271 (Ob (Pn (t*37+i))).toArray/\Mod ↑ZW w wr
theorem adE(w:World):Calls prog 103 #[] w fun e w'=>∃b,e=.returned ↑(ZC b 0)/\ZI w' b 271 (Ob (RG 16)).toArray/\w.heap.size<=b/\Mod ↑ZW w w':=by
 have hz:zeroCells271=(Ob (Pn 0)).toArray:=ZR;have HZ:=Z7 hz;clear hz;have hb0:ZI (w.alloc (.cells (Ob (Pn 0)).toArray 271)) w.heap.size 271 (Ob (Pn 0)).toArray:=ZI.new _ _ _;have m0:Mod ↑ZW w (w.alloc (.cells (Ob (Pn 0)).toArray 271)):=(Mod.refl _ _).alloc _;have HM:=Z5 hb0 m0;clear hb0 m0;go_enter func103,ntmps103;go_upto_region 2 with(fail)
 rw [HZ.out];generalize sK:w.alloc (.cells (Ob (Pn 0)).toArray 271)=w1 at *;clear sK;go_wp2_with fail;go_loopw [2,3] (fun v _ wr=>adX w v wr) (fun i _ _=>16-(intOf i).toNat)
 case atStart=>exact⟨0,Z8,rfl,HM.out.1,HM.out.2⟩
 case round=>
  clear HM;obtain⟨t,ht,rfl,hb,hM⟩:=hrel;have HB:=Z5 hb hM;clear hb hM;by_cases hlt:t<16
  ·have d1:=Zb ((t:Int)<16);go_wp2_with fail;go_loopw [3] (adW w t) (fun i _=>37-(intOf i).toNat)
   case atStart=>exact⟨0,Z8,rfl,HB.out.1,HB.out.2⟩
   case round=>
    clear HB;rename World=>w6
    obtain⟨i,hi,rfl,hb,hM⟩:=hrel;by_cases Pq:i<37
    ·have d2:=Zb ((i:Int)<37);have p0:(0:Int)<=(t:Int):=Z8;have p1:(t:Int)<16:=Z8;have p2:(0:Int)<=(i:Int):=Z8;have p3:(i:Int)<37:=Z8;have ck:w6.cell? ⟨w.heap.size,t*37+i,none⟩=some ↑Z0:=(hb.cell _).trans (abI (t*37+i) Z8);have fk:=hb.frozen (t*37+i);have hl:=hb.lt;have HB:=Z5 hb hM;clear hb hM;go_wp2_with fail;go_roundw
     case rel=>exact⟨i+1,Z8,Zr,HB.out.1.put (by rw [<-Nat.add_assoc];simpa using acp (t*37+i) Z8),HB.out.2.setCell (.inr (ZY _)) _⟩
     case measure=>exact YD
    ·obtain rfl:i=37:=Z8;have HB:=Z5 hb hM;clear hb hM;go_wp2_with fail;go_roundw
     case rel=>exact⟨t+1,Z8,Zr,by rw [Nat.add_mul];exact HB.out.1,HB.out.2⟩
     case measure=>exact YD
  ·obtain rfl:t=16:=Z8;go_wp2_with fail;go_ret;exact⟨_,rfl,HB.out.1,ZY _,HB.out.2⟩
structure IY(w:World)(bk g:Nat)(v:Value)(s:Es):Prop where
 Ju:ZI w bk 271 (Ob s.ch).toArray
 len:s.ch.length=592
 ok:∀i,i<592->WJ (s.ch.getD i 0)=true
 enc:EO w g v s.code s.wide
theorem IY.quiet{w w':World}{bk g:Nat}{v:Value}{s:Es}(h:IY w bk g v s)(hm:Mod ↑ZW w w'):IY w' bk g v s:=⟨h.Ju.keep hm (fun h=>h),h.len,h.ok,h.enc.quiet hm⟩
def Sa(w:World)(bk g:Nat)(v:Value)(s':Es)(w':World):Prop:=
 ∃v',IY w' bk g v' s'/\(∀j,v'.ownBlock=some j->v.ownBlock=some j\/w.heap.size<=j)/\Mod (fun j=>j=g\/j=bk\/v.ownBlock=some j) w w'
theorem IY.apart{w:World}{bk g:Nat}{v:Value}{s:Es}(h:IY w bk g v s):g≠bk/\¬v.ownBlock=some bk:=
 ⟨h.enc.blk.SL h.Ju ZU,h.enc.own.apart h.Ju ZU⟩
theorem Sa.refl{w w':World}{bk g:Nat}{v:Value}{s:Es}(h:IY w bk g v s)(hm:Mod ↑ZW w w'):Sa w bk g v s w':=⟨v,h.quiet hm,fun _ e=>.inl e,hm.mono (fun _ h=>h.elim)⟩
theorem Sa.trans{w w1 w2:World}{bk g:Nat}{v v1:Value}{s2:Es}(hF:∀j,v1.ownBlock=some j->v.ownBlock=some j\/w.heap.size<=j)(hM:Mod (fun j=>j=g\/j=bk\/v.ownBlock=some j) w w1)(k:Sa w1 bk g v1 s2 w2):Sa w bk g v s2 w2:=by
 obtain⟨v2,h2,hF2,RZ⟩:=k;refine⟨v2,h2,fun j e=>?_,hM.into RZ (fun j e=>?_)⟩
 ·rcases hF2 j e with e|e
  ·exact hF j e
  ·exact .inr (ZQ hM.size e)
 ·rcases e with e|e|e
  ·exact .inl (.inl e)
  ·exact .inl (.inr (.inl e))
  ·rcases hF j e with e|e
   ·exact .inl (.inr (.inr e))
   ·exact .inr e
theorem xQ{s:List Nat}{i:Nat}(hi:i<s.length):(Ob s).toArray[i]?=some ↑(s.getD i 0:Nat):=by
 simp [Ob,Z6,hi]
theorem aeD(s:List Nat)(i x:Nat):(Ob s).toArray.setIfInBounds i ↑x=(Ob (s.set i x)).toArray:=by
 simp [Ob,WU]
theorem K8(w:World)(bk g:Nat)(v:Value)(s:Es)(t i bit:Nat)(ht:t<16)(hi:i<37)(Sk:bit<=1)(h:IY w bk g v s)(hl:s.code.length<=1048575):
  Calls prog 227 #[↑(ZC bk 0),↑(ZC g 0),↑t,↑i,.int .u8 (bit:Int)] w fun e w'=>e=.returned (.tuple #[])/\Sa w bk g v (UU s (t*37+i) bit) w':=by
 obtain⟨k,hk⟩:=ZL (t*37+i);have hkl:k<592:=Z8;rw [<-hk];have hgb:=h.apart;obtain⟨c,hc⟩:=ZL (s.ch.getD k 0);have O1:=h.ok k hkl;rw [<-hc]at O1;have hcell:w.cell? ⟨bk,k,none⟩=some ↑c:=by rw [h.Ju.cell,xQ (by rw [h.len];exact hkl),hc]
 rw [hk]at hcell;have HPT:=Z7 (fU w g v s.code s.wide c bit h.enc hl O1 Sk);have H:=Z5 h (Z9 hk (Z9 hc (Z9 O1 hgb)));have p1:(t:Int)<16:=Z8;have p2:(i:Int)<37:=Z8;have alP:c<=2017:=by unfold WJ at O1;rw [decide_eq_true_eq]at O1;exact O1.2
 clear h hk hgb hc O1;go_enter func227,ntmps227;go_wp2_with fail;refine HPT.out.mono ?_;rintro e w1 ⟨v1,rfl,hE,hF,hM⟩;have hne:¬(bk=g\/v.ownBlock=some bk):=by
  rintro(e|e)
  ·exact H.out.2.2.2.2.1 e.symm
  ·exact H.out.2.2.2.2.2 e
 have hb1:=H.out.1.Ju.keep hM hne;have hc1:w1.cell? ⟨bk,t*37+i,none⟩=some ↑c:=by
  rw [hb1.cell,<-H.out.2.1,xQ (by rw [H.out.1.len];exact hkl),H.out.2.2.1]
 have vK:=hb1.frozen (t*37+i);have KR:=hb1.lt;have H1:=Z5 hE (Z9 hF (Z9 hM hb1));clear hE hF hM hne hb1 hcell;have N1:=fun w=>ajj w c bit Sk H.out.2.2.2.1;have ew:IntKind.i64.wrap (bit:Int)=(bit:Int):=Z4 _ ⟨Z8,Z8⟩;have N1:∀w,Calls prog 308 #[↑c,.int .i64 (IntKind.i64.wrap (bit:Int))] w fun e w'=>e=.returned ↑(Q7 c bit:Nat)/\w=w':=by rw [ew];exact N1
 have N0:=Z7 N1;clear N1 ew;have q1:w1.drew.cell? ⟨bk,t*37+i,none⟩=some ↑c:=hc1;have gf:w1.drew.frozen? ⟨bk,t*37+i,none⟩=false:=vK;have gl:bk<w1.drew.heap.size:=KR;clear hc1 vK KR;go_upto_region 3 with(fail)
 refine YY [18] [] (0 :: 1 :: 2 :: 3 :: 4 :: 5 :: 6 :: 7 :: 8 :: 9 :: 10 :: 11 :: 12 :: 13 :: 14 :: 15 :: 16 :: 17 :: 18 :: []) (fun _=>True) ZR ZR Xc trivial ?_;iterate 13 (refine Zc ?_)
 refine Vm rfl rfl (fun K hK=>?_);go_simp;refine⟨_,(N0.out _).mono (fun _ _ ⟨a,b⟩=>⟨a,b.symm⟩),hK _ ?_⟩;clear hK K;iterate 4 (refine Zc ?_)
 refine Zf rfl rfl (fun K hK=>?_);go_simp;refine hK _ _ trivial ?_;clear hK K;refine Yg ?_;go_wp2_with fail;go_end0
 have aiw:=AQ (bit:=bit) H.out.1.len H.out.1.ok hkl;have Y3:Mod (·=bk) w1 (w1.drew.setCell ⟨bk,t*37+i,none⟩ ↑(Q7 c bit:Nat)):=(Mod.refl (fun j=>j=bk) w1).drew.setCell (p:=⟨bk,t*37+i,none⟩) (.inl rfl) _;have hb2:=H1.out.2.2.2.drew.put (i:=t*37+i) (u:=↑(Q7 c bit:Nat)) rfl;rw [aeD,<-H.out.2.1]at hb2;rw [<-H.out.2.1]at Y3 ⊢;have eH:g≠bk:=H.out.2.2.2.2.1;refine⟨rfl,v1,⟨?_,aiw.1,aiw.2,?_⟩,H1.out.2.1,?_⟩
 ·unfold UU;rw [<-H.out.2.2.1];exact hb2
 ·have hE:=H1.out.1;have e1:(UU s k bit).code=(Nk s.code s.wide c bit).1:=by rw [H.out.2.2.1];rfl
  have e2:(UU s k bit).wide=(Nk s.code s.wide c bit).2:=by rw [H.out.2.2.1];rfl
  rw [e1,e2];exact⟨hE.blk.keep Y3 eH,hE.own.mod Y3 (fun j e e2=>hE.own.apart H1.out.2.2.2 ZU (e2▸e)),hE.four,hE.lo,hE.hi⟩
 ·exact(H1.out.2.2.1.mono (fun j e=>e.imp id .inr)).into Y3 (fun j e=>.inl (.inr (.inl e)))
theorem abk(w:World)(bk g:Nat)(v:Value)(s:Es)(t:Int)(bit:Nat)(Sk:bit<=1)(h:IY w bk g v s)(hl:s.code.length<=1048575):
  Calls prog 227 #[↑(ZC bk 0),↑(ZC g 0),↑t,.int .i64 (-1),.int .u8 (bit:Int)] w fun e w'=>e=.returned (.tuple #[])/\Sa w bk g v (Kz s bit) w':=by
 have hgb:=h.apart;have HPT:=Z7 (fU w g v s.code s.wide 1024 bit h.enc hl ZU Sk);have H:=Z5 h hgb;clear h hgb;go_enter func227,ntmps227;go_wp2_with fail;refine HPT.out.mono ?_;rintro e w1 ⟨v1,rfl,hE,hF,hM⟩;have hne:¬(bk=g\/v.ownBlock=some bk):=by
  rintro(e|e)
  ·exact H.out.2.1 e.symm
  ·exact H.out.2.2 e
 have H1:=Z5 hE (Z9 hF (Z9 hM (H.out.1.Ju.keep hM hne)));clear hE hF hM hne;go_wp2_with fail;refine bodyPost_ret (v:=.tuple #[]) (by simp [results,results227,go_sem]) rfl ?_;exact⟨rfl,v1,⟨H1.out.2.2.2,H.out.1.len,H.out.1.ok,H1.out.1⟩,H1.out.2.1,H1.out.2.2.1.mono (fun j e=>e.imp id .inr)⟩
def K3(l:List UInt8):Nat:=l.foldl (fun v b=>2*v+b.toNat) 0
theorem Gv(l:List UInt8)(k:Nat)(hk:k<l.length):K3 (l.take (k+1))=2*K3 (l.take k)+(l.getD k 0).toNat:=by
 rw [List.take_succ_eq_append_getElem hk,Z6,ZP hk];simp only [K3,List.foldl_append,List.foldl_cons,List.foldl_nil,Option.getD_some]
theorem zY(l:List UInt8)(h1:∀b∈l,b.toNat<=1):∀k,k<=l.length->K3 (l.take k)<2 ^ k:=by
 intro k
 induction k with
 | zero=>intro _;simp [K3]
 | succ k ih=>
  intro hk;rw [Gv l k Z8,Nat.pow_succ];have h2:=ih Z8;have h3:(l.getD k 0).toNat<=1:=by
   rw [Z6,ZP (show k<l.length by omega)];exact h1 _ (Xo _)
  omega
def af6(l:List UInt8)(v i:Value):Prop:=∃k:Nat,k<=l.length/\i=↑k/\v=.int .u64 (K3 (l.take k):Int)
theorem BV(w:World)(A:Option Addr)(n c:Nat)(l:List UInt8)(YZ:BytesIn w A n c l)(hn:n<=64)(h1:∀b∈l,b.toNat<=1):Calls prog 229 #[.slice A n c] w fun e w'=>e=.returned (.int .u64 (K3 l:Int))/\w=w':=by
 obtain rfl:l.length=n:=YZ.1;go_enter func229,ntmps229;go_wp2_with fail;go_loop [3,4] (af6 l) (fun _ i=>l.length-(intOf i).toNat)
 case atStart=>exact⟨0,Z8,rfl,by simp [K3]⟩
 case round=>
  obtain⟨k,hk,rfl,rfl⟩:=hrel;by_cases hlt:k<l.length
  ·obtain⟨b,off,hA,hb,hcell⟩:=YZ.place Z8;subst hA;have c1:w.cell? ⟨b,off+k,none⟩=some (.int .u8 ((l.getD k 0).toNat:Int)):=hcell k hlt;clear hcell YZ;have hx:(l.getD k 0).toNat<=1:=by
    rw [Z6,ZP (show k<l.length by omega)];exact h1 _ (Xo _)
   have fo:=Gv l k hlt;have hlen:=zY l h1 k hk;have h63:2 ^ k<=2 ^ 63:=Xx Z8 Z8;have hy:K3 (l.take k)<9223372036854775808:=by simp only [Nat.reducePow]at h63;omega
   generalize (l.getD k 0).toNat=x at *;generalize K3 (l.take k)=y at *;have d1:=Zb ((k:Int)<(l.length:Int));have HH:=Z7 fo;clear fo hlen h63;go_wp2_with fail;exact⟨⟨k+1,Z8,Zr,by rw [HH.out];simp⟩,by simp [intOf];omega⟩
  ·obtain rfl:k=l.length:=Z8;rw [List.take_length];go_wp2_with fail;go_ret;exact⟨rfl,rfl⟩
def Gw(i a:Nat):Int:=if i<4 then((atIdx i a:Nat):Int)else -1
theorem rQ(w:World)(i a:Nat)(hi:i<1048576)(ha:a<1048576):Calls prog 228 #[↑i,↑a] w fun e w'=>e=.returned (.int .i64 (Gw i a))/\w=w':=by
 unfold Gw;by_cases h:i<4
 ·rw [if_pos h];exact agJ w i a h ha
 ·rw [if_neg h];exact aeZ w i a Z8 hi
theorem tC(w:World)(t:Nat)(ht:t<16):Calls prog 225 #[↑t] w fun e w'=>e=.returned (.bool true)/\w=w':=by
 have d1:=Zb ((t:Int)<16);go_enter func225,ntmps225;go_wp2_with fail;go_ret;exact⟨rfl,rfl⟩
theorem oH(w:World)(bk g:Nat)(v:Value)(s:Es)(t i a bit:Nat)(ht:t<16)(ha:a<2 ^ i)(Sk:bit<=1)(h:IY w bk g v s)(hl:s.code.length<=1048575):
  Calls prog 227 #[↑(ZC bk 0),↑(ZC g 0),↑t,.int .i64 (Gw i a),.int .u8 (bit:Int)] w fun e w'=>e=.returned (.tuple #[])/\Sa w bk g v (NF s t i a bit) w':=by
 unfold Gw NF;by_cases hi:i<4
 ·rw [if_pos hi,if_pos hi];have h4:i=0\/i=1\/i=2\/i=3:=Z8;have hx:atIdx i a<37:=by
   unfold atIdx;rcases h4 with rfl|rfl|rfl|rfl<;>simp only [Nat.reducePow]at ha ⊢ <;>omega
  exact K8 w bk g v s t _ bit ht hx Sk h hl
 ·rw [if_neg hi,if_neg hi];exact abk w bk g v s t bit Sk h hl
theorem OY(x:Nat):∀(n i:Nat),i<n->((XV x n).getD i 0).toNat=x/2 ^ (n-1-i) % 2:=by
 intro n
 induction n with
 | zero=>intro i h;omega
 | succ n ih=>
  intro i hi;unfold XV;cases i with
  | zero=>
   rw [List.getD_cons_zero,UInt8.toNat_ofNat',show n+1-1-0=n by omega];omega
  | succ i=>
   rw [List.getD_cons_succ,ih i Z8,show n+1-1-(i+1)=n-1-i by omega]
theorem OX(x n:Nat):∀b∈XV x n,b.toNat<=1:=by
 intro b hb;obtain⟨i,hi,rfl⟩:=List.mem_iff_getElem.1 hb;have h:=OY x n i (by rw [YR]at hi;exact hi);rw [Z6,ZP hi]at h;simp only [Option.getD_some]at h;omega
theorem Fg(x n i:Nat)(hi:i<n):K3 ((XV x n).take (i+1))=2*K3 ((XV x n).take i)+x/2 ^ (n-1-i) % 2:=by
 rw [Gv _ i (by rw [YR];exact hi),OY x n i hi]
def ru(w:World)(bk g:Nat)(v:Value)(t x n:Nat)(tg:Es)(B r c:Nat)(v14:Value)(wr:World):Prop:=
 ∃(i:Nat) (s:Es) (v1:Value),i<=n/\v14=↑i/\IY wr bk g v1 s/\Qv t x (n-i) i (K3 ((XV x n).take i)) s=tg/\s.code.length+(n-i)<=1048576/\(0<n->Bytes wr B ↑(ZZ r n c) (XV x n))/\w.heap.size<=B /\
  (∀j,v1.ownBlock=some j->(v.ownBlock=some j\/w.heap.size<=j)/\j≠r)/\Mod (fun j=>j=g\/j=bk\/v.ownBlock=some j) w wr
def ak2(v3 v4:Value):Prop:=(v3=↑Z0/\(v4=.int .i64 2\/v4=.int .i64 3))\/(v3=.int .i64 1/\v4=.int .i64 1)\/(v3=.int .i64 2/\v4=↑Z0)
theorem aet(w:World)(n:Nat)(hn:n=3\/n=4):Calls prog 226 #[↑n] w fun e w'=>e=.returned (.int .i64 2)/\w=w':=by
 rcases hn with rfl|rfl
 all_goals
  go_enter func226,ntmps226;go_wp2_with fail;go_loop [3,4] ak2 (fun _ v=>(intOf v).toNat)
  case atStart=>exact .inl ⟨rfl,by first|exact .inl rfl|exact .inr rfl⟩
  case round=>
   rcases hrel with⟨rfl,rfl|rfl⟩|⟨rfl,rfl⟩|⟨rfl,rfl⟩
   ·go_wp2_with fail;exact⟨.inr (.inl ⟨rfl,rfl⟩),ZU⟩
   ·go_wp2_with fail;exact⟨.inr (.inl ⟨rfl,rfl⟩),ZU⟩
   ·go_wp2_with fail;exact⟨.inr (.inr ⟨rfl,rfl⟩),ZU⟩
   ·go_wp2_with fail;go_ret;exact⟨rfl,rfl⟩
theorem Sa.ok{w:World}{bk g:Nat}{v:Value}{s:Es}{w':World}(h:Sa w bk g v s w'):∃v',IY w' bk g v' s/\(∀j,v'.ownBlock=some j->v.ownBlock=some j\/w.heap.size<=j)/\Mod (fun j=>j=g\/j=bk\/v.ownBlock=some j) w w':=h
theorem fT(w:World)(bk g:Nat)(v:Value)(s:Es)(t n x:Nat)(ht:t<16)(hn:n=3\/n=4)(hx:x<n)(h:IY w bk g v s)(hl:s.code.length+43<=1048576):
  Calls prog 166 #[↑(ZC bk 0),↑(ZC g 0),↑t,↑n,↑x] w fun e w'=>e=.returned ↑Z0/\Sa w bk g v (Qv t x 2 0 0 s) w':=by
 have p0:=Za ((x:Int)<0);have p1:=Za ((n:Int)<=(x:Int));have p2:=Za ((n:Int)<1);have p3:=Za (16<(n:Int));have xw:IntKind.u64.wrap (x:Int)=(x:Int):=Ub _ ⟨Z8,Z8⟩;have HW:=Z7 (fun w=>aet w n hn);have HD:=Z7 (fun w=>MP w x 2 Z8 Z8);have H:=Z7 h;have hx4:x<=3:=Z8;have eT:n<=4:=Z8;obtain⟨tg,PX⟩:=ZL (Qv t x 2 0 0 s);rw [<-PX];have HTG:=Z7 PX;clear h PX hn;go_enter func166,ntmps166;go_wp2_with fail;refine YH (tC _ t ht) ?_;go_wp2_with fail;refine YH (HW.out _) ?_;go_wp2_with fail;refine(HD.out _).mono ?_;rintro e w2 ⟨sl,rfl,hB,Y3⟩;obtain⟨A,c,rfl⟩:=ZG hB;obtain⟨r,rfl,jO⟩:=hB.some_ (by rw [YR];omega);rw [YR]at hB jO ⊢;have hwr:=hB.low;have H2:=Z5 hB Y3;clear hB Y3;go_wp2_with fail;go_loopw [13] (ru w bk g v t x 2 tg w.heap.size r c) (fun i _=>2-(intOf i).toNat)
 case atStart=>exact⟨0,s,v,Z8,rfl,H.out.quiet H2.out.2,by rw [HTG.out];rfl,Z8,fun _=>H2.out.1,ZY _,fun j hj=>⟨.inl hj,fun e=>by have:=(H.out.enc.own.lt j hj).2;omega⟩,H2.out.2.mono (fun _ h=>h.elim)⟩
 case round=>
  rename World=>wr
  obtain⟨i,s1,v1,hi,rfl,hE,PX,hlen,vE,hwB,hF,hM⟩:=hrel;by_cases hlt:i<2
  ·have d1:=Zb ((i:Int)<(2:Int));have hB:=vE Z8;obtain⟨bit,Sk⟩:=ZL (x/2 ^ (2-1-i) % 2);have hb1:bit<=1:=Z8;obtain⟨a,ha⟩:=ZL (K3 ((XV x 2).take i));have Dj:a<2 ^ i:=by rw [ha];exact zY _ (OX x 2) i (by rw [YR];omega)
   have ha2:a<1048576:=ZB Dj (by have:=Xx (show 0<2 by omega) (show i<=20 by omega);omega);have SB:wr.drew.cell? ⟨r,i,none⟩=some (.int .u8 (bit:Int)):=by
    have:=hB.cell i (by rw [YR];omega);rw [OY x 2 i Z8,<-Sk]at this;exact this
   have hgr:g≠r:=fun e=>hB.SL hE.enc.blk ZU e.symm;have hbr:bk≠r:=fun e=>hB.SL hE.Ju ZU e.symm;have Lr:=hB.low.2;have N0:=BV wr.drew (some ↑r) i c ((XV x 2).take i) ((hB.quiet ((Mod.refl _ wr).drew)).take i (by rw [YR];omega)).RU Z8 (fun b hb=>OX x 2 b (VH hb));rw [<-ha]at N0;have P0:Calls prog 228 #[↑i,.int .i64 (IntKind.i64.wrap (a:Int))] wr.drew fun e w'=>e=.returned (.int .i64 (Gw i a))/\wr.drew=w':=by
    rw [Z4 (a:Int) ⟨Z8,Z8⟩];exact rQ _ i a Z8 ha2
   have S0:=oH wr.drew bk g v1 s1 t i a bit ht Dj hb1 (hE.quiet ((Mod.refl _ wr).drew)) Z8;rw [show 2-i=(2-1-i)+1 by omega]at PX hlen;unfold Qv at PX;rw [<-Sk,<-ha]at PX;have qB:K3 ((XV x 2).take (i+1))=2*a+bit:=by rw [Fg x 2 i Z8,<-ha,<-Sk]
   have hic:(i:Int)<=(c:Int):=Z8;have p9:(i:Int)<(2:Int):=Z8;have HR:=Z5 hE (Z9 PX (Z9 hlen (Z9 hB (Z9 hwB (Z9 hF (Z9 hM (Z9 qB (Z9 N0 (Z9 P0 S0)))))))));clear hE PX hlen hB vE hwB hF hM qB N0 P0 S0 ha Sk Dj ha2;go_upto_region 8 with(fail)
   refine YY [14] [] (0 :: 1 :: 2 :: 3 :: 4 :: 5 :: 6 :: 7 :: 8 :: 9 :: 10 :: 11 :: 12 :: 13 :: 14 :: []) (fun _=>True) ZR ZR Xc trivial ?_;iterate 7 (refine Zc ?_)
   refine Vm rfl rfl (fun K hK=>?_);go_simp;refine⟨_,(HR.out.2.2.2.2.2.2.2.2.1).mono (fun _ _ ⟨a,b⟩=>⟨a,b.symm⟩),hK _ ?_⟩;clear hK K;refine Zc ?_;refine Vm rfl rfl (fun K hK=>?_);go_simp;refine⟨_,(HR.out.2.2.2.2.2.2.2.2.2.1).mono (fun _ _ ⟨a,b⟩=>⟨a,b.symm⟩),hK _ ?_⟩;clear hK K;iterate 4 (refine Zc ?_)
   refine Zf rfl rfl (fun K hK=>?_);go_simp;refine(HR.out.2.2.2.2.2.2.2.2.2.2).mono ?_;rintro e w5 ⟨rfl,v5,qg,Jz,RO⟩;have H5:=Z5 qg (Z9 Jz RO);clear qg Jz RO;dsimp only [];refine hK _ _ trivial ?_;clear hK K;refine Yg ?_;clear SB;go_wp2_with fail;go_roundw
   case rel=>
    have Rc:Mod (fun j=>j=g\/j=bk\/v1.ownBlock=some j) wr w5:=((Mod.refl _ wr).drew).trans H5.out.2.2;have hsz:=HR.out.2.2.2.2.2.2.1.size;have ib:=J3 s1 t i a bit;refine⟨i+1,NF s1 t i a bit,v5,Z8,Zr,H5.out.1,?_,by have:=HR.out.2.2.1;omega,fun _=>HR.out.2.2.2.1.mod Rc (fun j hj=>?_),HR.out.2.2.2.2.1,fun j hj=>?_,HR.out.2.2.2.2.2.2.1.into Rc (fun j hj=>?_)⟩
    ·rw [HR.out.2.2.2.2.2.2.2.1,show 2-(i+1)=2-1-i by omega];exact HR.out.2.1
    ·simp only [YQ,X3]at hj;subst hj;rintro(h|h|h)
     ·exact hgr h.symm
     ·exact hbr h.symm
     ·exact(HR.out.2.2.2.2.2.1 _ h).2 rfl
    ·rcases H5.out.2.1 j hj with h|h
     ·exact HR.out.2.2.2.2.2.1 j h
     ·have h2:wr.heap.size<=j:=h;exact⟨.inr (ZQ hsz h2),Z8⟩
    ·rcases hj with h|h|h
     ·exact .inl (.inl h)
     ·exact .inl (.inr (.inl h))
     ·rcases(HR.out.2.2.2.2.2.1 j h).1 with h|h
      ·exact .inl (.inr (.inr h))
      ·exact .inr h
   case measure=>exact YD
  ·obtain rfl:i=2:=Z8;have d1:=Za ((2:Int)<(2:Int));have Hx:=Z5 hE (Z9 PX (Z9 hF hM));clear hE PX hF hM vE;go_wp2_with fail;go_ret;refine⟨rfl,v1,?_,fun j hj=>(Hx.out.2.2.1 j hj).1,Hx.out.2.2.2⟩;have h1:=Hx.out.2.1;have h2:=Hx.out.1;rw [<-h1];exact h2
theorem acB:Wj 0=0:=rfl
def afp(N:Nat)(v10 v11:Value):Prop:=∃n k:Nat,n+Wj k=N/\k<=1048577/\n<=21/\v10=↑n/\v11=↑k
def afq(w:World)(bk g:Nat)(v:Value)(t n:Nat)(tg:Es)(v12:Value)(wr:World):Prop:=
 ∃(i:Nat) (s:Es) (v1:Value),i<=n/\v12=↑i/\IY wr bk g v1 s/\Oo t (n-i) i s=tg/\s.code.length+(n-i)+22<=1048576 /\
  (∀j,v1.ownBlock=some j->v.ownBlock=some j\/w.heap.size<=j)/\Mod (fun j=>j=g\/j=bk\/v.ownBlock=some j) w wr
def ajJ(w:World)(bk g:Nat)(v:Value)(s':Es)(wr:World):Prop:=s'.code.length+20<=1048576/\Sa w bk g v s' wr
theorem fQ(w:World)(bk g:Nat)(v:Value)(s:Es)(t x:Nat)(ht:t<16)(hx:x<=1048576)(h:IY w bk g v s)(hl:s.code.length+43<=1048576):
  Calls prog 230 #[↑(ZC bk 0),↑(ZC g 0),↑t,↑x] w fun e w'=>e=.returned ↑Z0/\Sa w bk g v (enum t x s) w':=by
 have p0:=Za ((x:Int)<0);have p1:=Za (1048576<(x:Int));have hN1:1<=Wj (x+1):=G8 Z8;have hN2:Wj (x+1)<=21:=OU Z8;have HG:Hid (enum t x s=Qv t (x+1) (Wj (x+1)-1) 0 0 (MK t (Wj (x+1)) (Oo t (Wj (x+1)-1) 0 s))):=rfl;obtain⟨tg,PX⟩:=ZL (enum t x s);rw [<-PX]at HG ⊢;clear PX;obtain⟨N,hN⟩:=ZL (Wj (x+1));have bZ:=Z7 hN;rw [<-hN]at HG hN1 hN2;clear hN;have H:=Z7 h;clear h;go_enter func230,ntmps230;go_wp2_with fail;refine YH (tC _ t ht) ?_;go_wp2_with fail;rename World=>w
 go_loop [10,11] (afp N) (fun _ k=>(intOf k).toNat)
 case atStart=>exact⟨0,x+1,by rw [Nat.zero_add];exact bZ.out.symm,Z8,Z8,rfl,Zr⟩
 case round=>
  obtain⟨n,k,hnk,hk,hn,rfl,rfl⟩:=hrel;by_cases KQ:0<k
  ·have d1:=Zb (0<(k:Int));have hh:=F6 k KQ;have hp:=G8 KQ;obtain⟨k2,hk2⟩:=ZL (k/2);rw [<-hk2]at hh;have t1:(k:Int)/2=(k2:Int):=Z8;have HH:=Z5 hh (Z9 hnk t1);clear hh hnk t1;go_wp2_with fail;refine⟨⟨n+1,k2,by have:=HH.out.1;have:=HH.out.2.1;omega,Z8,by have:=HH.out.2.1;omega,Zr,by rw [HH.out.2.2]⟩,?_⟩;simp only [intOf];omega
  ·obtain rfl:k=0:=Z8;rw [acB]at hnk;obtain rfl:n=N:=Z8;have d1:decide (0<((0:Nat):Int))=false:=ZU;clear hnk hk KQ;obtain⟨m,hm⟩:∃m,n=m+1:=⟨n-1,Z8⟩
   have en:(n:Int)-1=(m:Int):=Z8;have xy:m<=20:=Z8;have HMM:=Z7 hm;rw [show n-1=m by omega]at HG;obtain⟨t2,DJ⟩:=ZL (Oo t m 0 s);rw [<-DJ]at HG;have HT2:=Z7 DJ;have hl2:=Gb t m 0 s;rw [<-DJ]at hl2;obtain⟨yB,hl4⟩:=hl2;clear hm DJ;go_wp2_with fail;go_loopw [12] (afq w bk g v t m t2) (fun i _=>m-(intOf i).toNat)
   case atStart=>exact⟨0,s,v,Z8,rfl,H.out,by rw [HT2.out];rfl,Z8,fun _ e=>.inl e,Mod.refl _ _⟩
   case round=>
    rename World=>wr
    obtain⟨i,s1,v1,hi,rfl,hE,PX,hlen,hF,hM⟩:=hrel;by_cases hlt:i<m
    ·have d2:=Zb ((i:Int)<(m:Int));rw [show m-i=(m-(i+1))+1 by omega]at PX;unfold Oo at PX;have P0:=K8 wr bk g v1 s1 t i 1 ht Z8 Z8 hE Z8;have HR:=Z5 PX (Z9 hF (Z9 hM P0));clear PX hF hM P0 hE;go_wp2_with fail;refine HR.out.2.2.2.mono ?_;rintro e w5 ⟨rfl,o9⟩;have H5:=Z7 (Sa.trans HR.out.2.1 HR.out.2.2.1 o9);clear o9;go_wp2_with fail;go_roundw
     case rel=>
      obtain⟨v5,qg,Jz,RO⟩:=H5.out;have ib:=Ri s1 (t*37+i) 1;exact⟨i+1,_,v5,Z8,Zr,qg,HR.out.1,Z8,Jz,RO⟩
     case measure=>exact YD
    ·obtain rfl:i=m:=Z8;have d2:=Za ((i:Int)<(i:Int));rw [XY]at PX;have nG:s1=t2:=PX;subst nG;have HR:=Z5 hE (Z9 hF hM);clear PX hF hM hE;go_upto_if 47 with(fail)
     go_cut [] (fun wx=>ajJ w bk g v (MK t n s1) wx)
     case first=>
      have ib:=AU t n s1;by_cases h21:n<21
      ·have d3:=Zb ((n:Int)<21);have P0:=Z7 (K8 wr bk g v1 s1 t i 0 ht Z8 Z8 HR.out.1 Z8);go_wp2_with fail;refine P0.out.mono ?_;rintro e w5 ⟨rfl,o9⟩;have H5:=Z7 (Sa.trans HR.out.2.1 HR.out.2.2 o9);clear o9;go_wp2_with fail;go_meet;refine⟨Z8,?_⟩;have:=H5.out;unfold MK;rw [if_pos h21,show n-1=i by omega];exact this
      ·have d3:=Za ((n:Int)<21);go_wp2_with fail;go_meet;refine⟨Z8,?_⟩;unfold MK;rw [if_neg h21];exact⟨v1,HR.out.1,HR.out.2.1,HR.out.2.2⟩
     case rest=>
      obtain⟨hsl,hgo⟩:=hcut;rename World=>w6
      obtain⟨m,hmi⟩:=ZL (i);subst hmi;obtain⟨v2,uq,hF2,RZ⟩:=hgo;obtain⟨s2,hs2⟩:=ZL (MK t n s1);rw [<-hs2]at uq hsl HG;have HD:Hid (Calls prog 163 #[.int .u64 ((x:Int)+1),↑m] w6 fun e w'=>∃s,e=.returned s/\Bytes w' w6.heap.size s (XV (x+1) m)/\Mod ↑ZW w6 w'):=MP w6 (x+1) m Z8 Z8;have xw:IntKind.u64.wrap ((x:Int)+1)=(x:Int)+1:=Ub _ ⟨Z8,Z8⟩;have H6:=Z5 uq (Z9 hF2 RZ);clear hs2 uq hF2 RZ HR;go_wp2_with fail;refine HD.out.mono ?_;rintro e w7 ⟨sl,rfl,hB,Sn⟩;obtain⟨A,c,rfl⟩:=ZG hB;rw [YR]at hB ⊢;have H7:=Z5 hB (Z9 Sn hsl);clear hB Sn HD;by_cases QN:m=0
      ·have d4:=Za ((0:Int)<(m:Int));have hme:(m:Int)<=0:=Z8;have HM0:=Z7 QN;clear QN;go_wp2_with fail;go_loopw [14] (fun v14 wr=>v14=↑Z0/\wr=w7) (fun _ _=>0)
       case atStart=>exact⟨rfl,rfl⟩
       case round=>
        obtain⟨rfl,rfl⟩:=hrel;go_wp2_with fail;go_ret;have hg:=HG.out;rw [HM0.out]at hg;exact⟨rfl,v2,by rw [hg];exact H6.out.1.quiet H7.out.2.1,H6.out.2.1,H6.out.2.2.trans (H7.out.2.1.mono (fun _ h=>h.elim))⟩
      ·obtain⟨r,rfl,jO⟩:=H7.out.1.some_ (by rw [YR];omega);rw [YR]at jO;have hwr:=H7.out.1.low;go_wp2_with fail;go_loopw [14] (ru w bk g v t (x+1) m tg w6.heap.size r c) (fun i _=>m-(intOf i).toNat)
       case atStart=>exact⟨0,s2,v2,Z8,rfl,H6.out.1.quiet H7.out.2.1,by rw [HG.out];rfl,by have:=H7.out.2.2;omega,fun _=>H7.out.1,H6.out.2.2.size,fun j hj=>⟨H6.out.2.1 j hj,fun e=>by have:=(H6.out.1.enc.own.lt j hj).2;omega⟩,H6.out.2.2.trans (H7.out.2.1.mono (fun _ h=>h.elim))⟩
       case round=>
        rename World=>wr
        obtain⟨i,s1,v1,hi,rfl,hE,PX,hlen,vE,hwB,hF,hM⟩:=hrel;by_cases hlt:i<m
        ·have d1:=Zb ((i:Int)<(m:Int));have hB:=vE Z8;obtain⟨bit,Sk⟩:=ZL ((x+1)/2 ^ (m-1-i) % 2);have hb1:bit<=1:=Z8;obtain⟨a,ha⟩:=ZL (K3 ((XV (x+1) m).take i));have Dj:a<2 ^ i:=by rw [ha];exact zY _ (OX (x+1) m) i (by rw [YR];omega)
         have ha2:a<1048576:=ZB Dj (by have:=Xx (show 0<2 by omega) (show i<=20 by omega);omega);have SB:wr.drew.cell? ⟨r,i,none⟩=some (.int .u8 (bit:Int)):=by
          have:=hB.cell i (by rw [YR];omega);rw [OY (x+1) m i Z8,<-Sk]at this;exact this
         have hgr:g≠r:=fun e=>hB.SL hE.enc.blk ZU e.symm;have hbr:bk≠r:=fun e=>hB.SL hE.Ju ZU e.symm;have Lr:=hB.low.2;have N0:=BV wr.drew (some ↑r) i c ((XV (x+1) m).take i) ((hB.quiet ((Mod.refl _ wr).drew)).take i (by rw [YR];omega)).RU Z8 (fun b hb=>OX (x+1) m b (VH hb));rw [<-ha]at N0;have P0:Calls prog 228 #[↑i,.int .i64 (IntKind.i64.wrap (a:Int))] wr.drew fun e w'=>e=.returned (.int .i64 (Gw i a))/\wr.drew=w':=by
          rw [Z4 (a:Int) ⟨Z8,Z8⟩];exact rQ _ i a Z8 ha2
         have S0:=oH wr.drew bk g v1 s1 t i a bit ht Dj hb1 (hE.quiet ((Mod.refl _ wr).drew)) Z8;rw [show m-i=(m-1-i)+1 by omega]at PX hlen;unfold Qv at PX;rw [<-Sk,<-ha]at PX;have qB:K3 ((XV (x+1) m).take (i+1))=2*a+bit:=by rw [Fg (x+1) m i Z8,<-ha,<-Sk]
         have hic:(i:Int)<=(c:Int):=Z8;have p9:(i:Int)<(m:Int):=Z8;have HR:=Z5 hE (Z9 PX (Z9 hlen (Z9 hB (Z9 hwB (Z9 hF (Z9 hM (Z9 qB (Z9 N0 (Z9 P0 S0)))))))));clear hE PX hlen hB vE hwB hF hM qB N0 P0 S0 ha Sk Dj ha2;go_upto_region 19 with(fail)
         refine YY [14] [] (0 :: 1 :: 2 :: 3 :: 4 :: 5 :: 6 :: 7 :: 8 :: 9 :: 10 :: 11 :: 12 :: 13 :: 14 :: []) (fun _=>True) ZR ZR Xc trivial ?_;iterate 7 (refine Zc ?_)
         refine Vm rfl rfl (fun K hK=>?_);go_simp;refine⟨_,(HR.out.2.2.2.2.2.2.2.2.1).mono (fun _ _ ⟨a,b⟩=>⟨a,b.symm⟩),hK _ ?_⟩;clear hK K;refine Zc ?_;refine Vm rfl rfl (fun K hK=>?_);go_simp;refine⟨_,(HR.out.2.2.2.2.2.2.2.2.2.1).mono (fun _ _ ⟨a,b⟩=>⟨a,b.symm⟩),hK _ ?_⟩;clear hK K;iterate 4 (refine Zc ?_)
         refine Zf rfl rfl (fun K hK=>?_);go_simp;refine(HR.out.2.2.2.2.2.2.2.2.2.2).mono ?_;rintro e w5 ⟨rfl,v5,qg,Jz,RO⟩;have H5:=Z5 qg (Z9 Jz RO);clear qg Jz RO;dsimp only [];refine hK _ _ trivial ?_;clear hK K;refine Yg ?_;clear SB;go_wp2_with fail;go_roundw
         case rel=>
          have Rc:Mod (fun j=>j=g\/j=bk\/v1.ownBlock=some j) wr w5:=((Mod.refl _ wr).drew).trans H5.out.2.2;have hsz:=HR.out.2.2.2.2.2.2.1.size;have ib:=J3 s1 t i a bit;refine⟨i+1,NF s1 t i a bit,v5,Z8,Zr,H5.out.1,?_,by have:=HR.out.2.2.1;omega,fun _=>HR.out.2.2.2.1.mod Rc (fun j hj=>?_),HR.out.2.2.2.2.1,fun j hj=>?_,HR.out.2.2.2.2.2.2.1.into Rc (fun j hj=>?_)⟩
          ·rw [HR.out.2.2.2.2.2.2.2.1,show m-(i+1)=m-1-i by omega];exact HR.out.2.1
          ·simp only [YQ,X3]at hj;subst hj;rintro(h|h|h)
           ·exact hgr h.symm
           ·exact hbr h.symm
           ·exact(HR.out.2.2.2.2.2.1 _ h).2 rfl
          ·rcases H5.out.2.1 j hj with h|h
           ·exact HR.out.2.2.2.2.2.1 j h
           ·have h2:wr.heap.size<=j:=h;exact⟨.inr (ZQ hsz h2),Z8⟩
          ·rcases hj with h|h|h
           ·exact .inl (.inl h)
           ·exact .inl (.inr (.inl h))
           ·rcases(HR.out.2.2.2.2.2.1 j h).1 with h|h
            ·exact .inl (.inr (.inr h))
            ·exact .inr h
         case measure=>exact YD
        ·obtain rfl:i=m:=Z8;have d1:=Za ((i:Int)<(i:Int));have HX:=Z5 hE (Z9 PX (Z9 hF hM));clear hE PX hF hM vE;go_wp2_with fail;go_ret;refine⟨rfl,v1,?_,fun j hj=>(HX.out.2.2.1 j hj).1,HX.out.2.2.2⟩;have h1:=HX.out.2.1;have h2:=HX.out.1;rw [XY]at h1;rw [<-h1];exact h2
theorem Ed(w:World)(bk g:Nat)(v:Value)(s:Es)(t:Nat)(x:Int)(ht:t<16)(hx:-1048576<=x/\x<=1048576)(h:IY w bk g v s)(hl:s.code.length+43<=1048576):
  Calls prog 167 #[↑(ZC bk 0),↑(ZC g 0),↑t,↑x] w fun e w'=>e=.returned ↑Z0/\Sa w bk g v (VD t x s) w':=by
 obtain⟨hx1,hx2⟩:=hx;have p0:=Za (x < -1048576);have p1:=Za (1048576<x);obtain⟨y,hy⟩:=ZL (x.natAbs);have hyl:y<=1048576:=Z8;have HP:=Z7 (fQ w bk g v s t y ht hyl h hl);have hlen:=MJ (t:=t) hyl s;have HX:Hid (VD t x s=if x=0 then enum t y s else UU (enum t y s) (t*37+36) (if x<0 then 1 else 0)):=by rw [hy];rfl
 obtain⟨tg,PX⟩:=ZL (VD t x s);rw [<-PX]at HX ⊢;clear PX h;by_cases h0:x=0
 ·subst h0;obtain rfl:y=0:=Z8;have hX:tg=enum t 0 s:=HX.out;have HX2:=Z7 hX;clear hX hy;go_enter func167,ntmps167;go_wp2_with fail;refine HP.out.mono ?_;rintro e w1 ⟨rfl,hg⟩;have H1:=Z7 hg;clear hg;go_wp2_with fail;go_ret;exact⟨rfl,by rw [HX2.out];exact H1.out⟩
 ·have hX:=HX.out;rw [if_neg h0]at hX;by_cases hn:x<0
  ·rw [if_pos hn]at hX;have e1:x = -(y:Int):=Z8;subst e1;have HX2:=Z7 hX;have d1:decide (-(y:Int)<0)=true:=decide_eq_true hn;have d2:=Za (0 < -(y:Int));have d3:=Zb (-(y:Int)<(y:Int));have d4:=Za ((y:Int) < -(y:Int));have fE:0<y:=Z8;clear hX hy HX h0;go_enter func167,ntmps167;go_wp2_with fail;refine HP.out.mono ?_;rintro e w1 ⟨rfl,v1,yw,rZ,Ck⟩;have S0:=Z7 (K8 w1 bk g v1 (enum t y s) t 36 1 ht Z8 Z8 yw Z8);have H1:=Z5 rZ Ck;clear yw rZ Ck;go_wp2_with fail;refine S0.out.mono ?_;rintro e w2 ⟨rfl,hg⟩;have H2:=Z7 (Sa.trans H1.out.1 H1.out.2 hg);clear hg;go_wp2_with fail;go_ret;exact⟨rfl,by rw [HX2.out];exact H2.out⟩
  ·rw [if_neg hn]at hX;have e1:x=(y:Int):=Z8;subst e1;have HX2:=Z7 hX;have fE:0<y:=Z8;have d1:decide ((y:Int)<0)=false:=decide_eq_false hn;have d2:=Zb (0<(y:Int));have d3:=Zb (-(y:Int)<(y:Int));have d4:=Za ((y:Int) < -(y:Int));clear hX hy HX h0 hn;go_enter func167,ntmps167;go_wp2_with fail;refine HP.out.mono ?_;rintro e w1 ⟨rfl,v1,yw,rZ,Ck⟩;have S0:=Z7 (K8 w1 bk g v1 (enum t y s) t 36 0 ht Z8 Z8 yw Z8);have H1:=Z5 rZ Ck;clear yw rZ Ck;go_wp2_with fail;refine S0.out.mono ?_;rintro e w2 ⟨rfl,hg⟩;have H2:=Z7 (Sa.trans H1.out.1 H1.out.2 hg);clear hg;go_wp2_with fail;go_ret;exact⟨rfl,by rw [HX2.out];exact H2.out⟩
end Go.Proofs.YthednemlahioeaaGreatDoor
