/-
  encoder: a block is coded and built, walked.
-/
import Derived.Test.YtnnpoodcdibpiaaGreatDoorB17
namespace Go.Proofs.YtnnpoodcdibpiaaGreatDoor
open Go.RowKit
set_option maxRecDepth 100000
set_option maxHeartbeats 8000000
def okT(t:TypeId):Prop:=t≠361/\t≠363/\t≠5
def KV(w w':World):Prop:=∀k t cs,okT t->Blk w k t cs->Blk w' k t cs
theorem KV.of_mod{w w':World}(hm:Mod (fun _=>False) w w'):KV w w':=fun _ _ _ _ hb=>hb.keep hm (fun h=>h)
theorem KV.quiet{w w1 w2:World}(h:KV w w1)(hm:Mod (fun _=>False) w1 w2):KV w w2:=fun k t cs ht hb=>(h k t cs ht hb).keep hm (fun h=>h)
theorem KV.puts{w w1 w2:World}{bk g:Nat}{v:Value}{s:Es}(h:KV w w1)(he:EbAt w1 bk g v s)(hm:Mod (fun j=>j=g\/j=bk\/v.ownBlock=some j) w1 w2):KV w w2:=fun k t cs ht hb=>(h k t cs ht hb).keep hm (by
 rintro(e|e|e)
 ·exact(h k t cs ht hb).ne_ he.enc.blk ht.2.1 e
 ·exact(h k t cs ht hb).ne_ he.bk_ ht.1 e
 ·exact own_ne_blk he.enc.own (h k t cs ht hb) (fun e=>ht.2.2 e.symm) e)
theorem KV.lay{w w1 w2:World}{q:Nat}{cq:Array Value}(h:KV w w1)(hq:Blk w1 q 5 cq)(hm:Mod (·=q) w1 w2):KV w w2:=fun k t cs ht hb=>(h k t cs ht hb).keep hm (fun e=>(h k t cs ht hb).ne_ hq ht.2.2 e)
theorem KV.trans{w w1 w2:World}(h:KV w w1)(h2:KV w1 w2):KV w w2:=fun k t cs ht hb=>h2 k t cs ht (h k t cs ht hb)
def EbkPost(w0 wi:World)(cb bk g:Nat)(K:Bool)(Q:Int)(d:Dim)(fl al:List Value)(gy gu gv:Nat)(r:Pix × Es)(e:Ending)(w':World):Prop:=
 e=.returned (.tuple #[])/\(∃v',CW w0 w' cb bk g v' K Q d fl al gy gu gv r.1 r.2)/\KV wi w'
theorem ext3{C:Array Value}{o:Nat}{a b c:Value}(h1:C[o]?=some a)(h2:C[o+1]?=some b)(h3:C[o+2]?=some c):(C.extract o (o+[a,b,c].length)).toList=[a,b,c]:=by
 obtain⟨k1,rfl⟩:=Array.getElem?_eq_some_iff.1 h1;obtain⟨k2,rfl⟩:=Array.getElem?_eq_some_iff.1 h2;obtain⟨k3,rfl⟩:=Array.getElem?_eq_some_iff.1 h3;apply List.ext_getElem
 ·simp;omega
 ·intro i i1 i2;have h:i=0\/i=1\/i=2:=by simp at i2;omega
  rcases h with rfl|rfl|rfl<;>simp
theorem ix3(cb b pl o:Nat)(hp:pl<3)(ho:b+pl*3=o):∀w,(Instr.indexAt 284 (.pointer (some ⟨cb,b,none⟩)) (.int .i64 (pl:Int))).run Tryz.prog w=.ok (.pointer (some ⟨cb,o,none⟩)) w:=by
 subst ho;have h3:pl=0\/pl=1\/pl=2:=by omega
 rcases h3 with rfl|rfl|rfl<;>intro w<;>kernel_rfl
theorem own_addr{w:World}{B n c:Nat}{A:Option Addr}{l:List Int}(h:IntsOwn w B (.slice A n c) l)(h0:0<l.length):∃r,A=some ⟨r,0,none⟩/\B<=r:=by
 obtain⟨r,cap,tl,hv,_,_,hB,_⟩:=own_open h h0;injection hv with hv _ _;exact⟨r,hv,hB⟩
theorem CW.vec{w0 w w':World}{cb bk g:Nat}{v:Value}{K:Bool}{Q:Int}{d:Dim}{fl al:List Value}{gy gu gv:Nat}{f:Pix}{s:Es}{k:Nat}{cs:Array Value}(h:CW w0 w cb bk g v K Q d fl al gy gu gv f s)(hb:Blk w k 307 cs)(hk:w0.heap.size<=k)(hm:Mod (·=k) w w'):
  CW w0 w' cb bk g v K Q d fl al gy gu gv f s:=by
 have hy:=h.fa.by_.ne_ hb (by decide);have hu:=h.fa.bu.ne_ hb (by decide);have hv:=h.fa.bv.ne_ hb (by decide)
 exact⟨h.mod.into hm (fun j e=>.inr (e▸hk)),⟨h.eb.bk_.keep hm (h.eb.bk_.ne_ hb (by decide)),h.eb.len,h.eb.ok,h.eb.enc.blk.keep hm (h.eb.enc.blk.ne_ hb (by decide)),own_mod h.eb.enc.own hm (fun j e e2=>own_ne_blk h.eb.enc.own hb (by decide) (by rw [e];exact congrArg some e2)),h.eb.enc.four,h.eb.enc.lo,h.eb.enc.hi⟩,
  h.cod.keep hm (h.cod.ne_ hb (by decide)),h.fa.mod hm (fun e=>hy e) (fun e=>hu e) (fun e=>hv e),h.nc,h.nb,h.ng,h.ny,h.nu,h.nv,h.no⟩
def EbCut(w0 w:World)(vb cb bk g:Nat)(v:Value)(K:Bool)(Q:Int)(d:Dim)(fl al:List Value)(gy gu gv:Nat)(f:Pix)(s:Es)(tp:Nat)(hx hy:Int)(g1:Nat)(b:List UInt8)(v16:Value)(wx:World):Prop:=
 v16=.int .i64 (tp:Int)/\CW w0 wx cb bk g v K Q d fl al gy gu gv f s/\Sat (fun _=>False) w wx [⟨vb,307,#[.int .i64 hx,.int .i64 hy]⟩] []/\BytesIn wx (some ⟨g1,0,none⟩) 64 64 b
def EbMid(w0 wi w:World)(cb bk g:Nat)(v:Value)(K:Bool)(Q:Int)(d:Dim)(fl al:List Value)(gy gu gv:Nat)(f:Pix)(s5:Es)(gs:List UInt8)(g5 g1:Nat)(b:List UInt8)(s:Es)(r:Pix × Es)(pl W x y:Nat):Prop:=
 CW w0 w cb bk g v K Q d fl al gy gu gv f s5/\BytesIn w (some ⟨g5,0,none⟩) 64 64 gs/\BytesIn w (some ⟨g1,0,none⟩) 64 64 b/\gs.length=64/\(s5.code.length<=s.code.length+2/\¬(g5=g\/g5=bk\/v.ownBlock=some g5)) /\
 r=(f.set pl (layTo W x y (ebuilt gs (elev b gs Q) Q) (f.get pl) 8),eblk (if 0<pl then 4 else 2) (elev b gs Q) s5)/\KV wi w
theorem eBlock(w0 w:World)(cb bk g:Nat)(v:Value)(K:Bool)(Q:Int)(d:Dim)(fl:List Value)(fr:Pix)(al:List Value)(ahd:Pix)(gy gu gv:Nat)(f:Pix)(s:Es)(ho:Old w0 d K Q fl fr al ahd)(h:CW w0 w cb bk g v K Q d fl al gy gu gv f s)
  (i sx sy:Nat)(hi:i<6)(hsx:16*sx+16<=d.W)(hsy:16*sy+16<=d.H)(kind:Nat)(hk:kind<3)(hK:K=true->kind=2)(vx vy:Int)(hvx:-128<=vx/\vx<=128)(hvy:-128<=vy/\vy<=128)(hv0:kind=0->vx=0/\vy=0)(hl:s.code.length+2830<=1048575):
  Calls Tryz.prog 246 #[.pointer (some ⟨cb,0,none⟩),.int .i64 (i:Int),.int .i64 (sx:Int),.int .i64 (sy:Int),.int .i64 (kind:Int),.agg #[.int .i64 vx,.int .i64 vy]] w (EbkPost w0 w cb bk g K Q d fl al gy gu gv (eblkS d fr ahd kind Q (pcP i) (pcX (16*sx) i) (pcY (16*sy) i) vx vy f s)):=by
 obtain⟨_,_,hW,_,hH,_⟩:=area_le ho.ok.sides;obtain⟨p1,p2,p3⟩:=pc_in ho.ok hi hsx hsy;have hS1:=eSpot (w.alloc (.cells #[.int .i64 vx,.int .i64 vy] 307)) (ho.env.quiet (h.mod.alloc _)) i sx sy hi (by omega) (by omega);have hv:=(Sat.nil (fun _=>False) w).alloc 307 #[.int .i64 vx,.int .i64 vy] rfl;generalize pcP i=pl at *;generalize pcX (16*sx) i=x at *;generalize pcY (16*sy) i=y at *;obtain⟨W,hWe⟩:∃W,W=d.wOf pl:=⟨_,rfl⟩
 obtain⟨H,hHe⟩:∃H,H=d.hOf pl:=⟨_,rfl⟩
 obtain⟨n,hne⟩:∃n,n=d.nOf pl:=⟨_,rfl⟩
 obtain⟨hsd,hnn⟩:=ho.ok.nOf pl;rw [<-hWe]at p2;rw [<-hHe]at p3;rw [<-hWe,<-hHe]at hsd hnn;rw [<-hne]at hnn;have H0:=Lib.hid (And.intro ho (And.intro (h.quiet hv.mod) (And.intro hWe (And.intro hHe (And.intro hne (And.intro hsd (And.intro hnn hv)))))));obtain⟨_,hW2,hW3,hH2,hH3,_⟩:=area_le hsd;have hw0:w0.heap.size<=w.heap.size:=h.mod.size;clear ho h hv hWe hHe hne hsd hnn;go_enter Tryz.func246,Tryz.ntmps246;go_wp2_with fail;refine hS1.mono ?_;clear hS1;rintro e w1 ⟨rfl,hm1⟩;have hv:=Sat.after hm1 H0.out.2.2.2.2.2.2.2;have hcw:=H0.out.2.1.quiet hm1;obtain⟨o2,eo2⟩:∃o2,2+pl*3=o2:=⟨_,rfl⟩
 obtain⟨A,c,c2,c3,c4,hin⟩:=hcw.frame H0.out.1 pl p1 o2 eo2;rw [<-H0.out.2.2.1]at c2;rw [<-H0.out.2.2.2.1]at c3;rw [<-H0.out.2.2.2.2.1]at c4 hin;have H1:=Lib.hid (And.intro hcw (And.intro hv hin));clear hm1 hv hcw hin;have j0:(0:Int)<=(pl:Int):=by omega
 have j1:(pl:Int)<3:=by omega
 go_upto_region 2 with(fail)
 go_wp2_with fail;refine(pBlock _ W H A n c (fr.get pl) H0.out.2.2.2.2.2.1 H0.out.2.2.2.2.2.2.1 (by have:=H1.out.2.2;rwa [H0.out.2.2.2.2.2.2.1]at this) x y 8 (by omega) (by omega) (by omega) 64 rfl).mono ?_;rintro e w2 ⟨g1,rfl,hb1,hg1,hm2⟩;obtain⟨b,hb⟩:∃b,b=sqL W (fr.get pl) x y 8:=⟨_,rfl⟩
 rw [<-hb]at hb1;have hbl:b.length=64:=by rw [hb,sqL_length]
 have hbi:=blkIn hb1 hbl (by omega);have H2:=Lib.hid (And.intro (H1.out.1.quiet hm2) (And.intro (Sat.after hm2 H1.out.2.1) (And.intro hbi (And.intro hb hbl))));have hgw:w.heap.size<g1:=by
  have:=(H1.out.2.1.own_ 0 rfl).lt;dsimp only at this;omega
 clear hb1 hg1 hm2 hb hbl hbi H1 c2 c3 c4;obtain⟨tp,htp⟩:∃tp,tp=if 0<pl then 4 else 2:=⟨_,rfl⟩
 obtain⟨hx,hhx⟩:∃hx,hx=if 0<pl then vx/2 else vx:=⟨_,rfl⟩
 obtain⟨hy,hhy⟩:∃hy,hy=if 0<pl then vy/2 else vy:=⟨_,rfl⟩
 have HT:=Lib.hid (And.intro htp (And.intro hhx hhy));clear htp hhx hhy;go_upto_if 45 with(fail)
 go_cut [16] (fun v16 wx=>EbCut w0 w w.heap.size cb bk g v K Q d fl al gy gu gv f s tp hx hy g1 b v16 wx)
 case first=>
  by_cases h0:pl=0
  ·have d1:((pl:Int) != 0)=false:=by simp;omega
   go_wp2_with fail;go_meet;obtain⟨t1,t2,t3⟩:=HT.out;rw [if_neg (by omega)]at t1 t2 t3;exact⟨by rw [t1];rfl,H2.out.1,by rw [t2,t3];exact H2.out.2.1,H2.out.2.2.1⟩
  ·have d1:((pl:Int) != 0)=true:=by simp;omega
   obtain⟨vc,vf⟩:=(H2.out.2.1.own_ 0 rfl).both;have vl:=(H2.out.2.1.own_ 0 rfl).lt;dsimp only at vc vf vl;go_wp2_with fail;refine(mChroma w2 vx vy ⟨by omega,by omega⟩ ⟨by omega,by omega⟩).mono ?_;rintro e w3 ⟨rfl,hm3⟩;have hs3:=Sat.after hm3 H2.out.2.1;obtain⟨vc3,vf3⟩:=(hs3.own_ 0 rfl).both;have vl3:=(hs3.own_ 0 rfl).lt;dsimp only at vc3 vf3 vl3;have H3:=Lib.hid (And.intro (H2.out.1.quiet hm3) (And.intro hs3 (H2.out.2.2.1.quiet hm3)));clear hm3 hs3 vc vf vl;go_wp2_with fail;go_meet;obtain⟨t1,t2,t3⟩:=HT.out;rw [if_pos (by omega)]at t1 t2 t3;have hm4:Mod (·=w.heap.size) w3 ((w3.setCell ⟨w.heap.size,0,none⟩ (.int .i64 (vx/2))).setCell ⟨w.heap.size,1,none⟩ (.int .i64 (vy/2))):=((Mod.refl (·=w.heap.size) w3).setCell (.inl rfl) _).setCell (.inl rfl) _;refine⟨by rw [t1];rfl,H3.out.1.vec (H3.out.2.1.own_ 0 rfl) hw0 hm4,?_,H3.out.2.2.mod hm4 (by intro _ ad e;injection e with e;subst e;dsimp only;omega)⟩;rw [t2,t3];exact(H3.out.2.1.put (.here rfl)).put (.here rfl)
 case rest=>
  have HB:=Lib.hid (And.intro H2.out.2.2.2.1 H2.out.2.2.2.2);clear H2;obtain⟨rfl,hcw,hsv,hbi⟩:=hcut;rename World=>w3
  have HKV:=Lib.hid (KV.of_mod hsv.mod);have hk3:kind=0\/kind=1\/kind=2:=by omega
  have hw3:w.heap.size<w3.heap.size:=(hsv.own_ 0 rfl).lt;have hfr1:=H0.out.2.1.eb.free (ob:=g1) (by simp;omega);have HFR:=Lib.hid hfr1;clear hfr1;rcases hk3 with rfl|hk3
  ·have hKf:K=false:=by
    cases K
    ·rfl
    ·exact absurd (hK rfl) (by decide)
   have HV0:Hid (vx=0/\vy=0):=hv0 rfl;clear hv0 hK hk;subst hKf;obtain⟨o3,eo3⟩:∃o3,11+pl*3=o3:=⟨_,rfl⟩
   obtain⟨o4,eo4⟩:∃o4,20+pl*3=o4:=⟨_,rfl⟩
   obtain⟨A3,cc3,a1,a2,a3,ain⟩:=hcw.ahead H0.out.1 pl p1 o3 eo3;obtain⟨b1,b2,b3,bq,bql⟩:=hcw.built H0.out.1 pl p1 o4 eo4;rw [<-H0.out.2.2.1]at a1 b1;rw [<-H0.out.2.2.2.1]at a2 b2;rw [<-H0.out.2.2.2.2.1]at a3 b3 ain bql;obtain⟨gq,hgq⟩:∃gq,gq=gOf gy gu gv pl:=⟨_,rfl⟩
   rw [<-hgq]at b3 bq;have hR3:∀w':World,Blk w' cb 291 (codV false Q fl al (frameV d gy gu gv) bk g)->w'.rangeAt cb o3 [.int .i64 (W:Int),.int .i64 (H:Int),.slice A3 n cc3]:=fun w' hb=>hb.range o3 _ (ext3 ((hcw.cod.cell o3).symm.trans a1) ((hcw.cod.cell (o3+1)).symm.trans a2) ((hcw.cod.cell (o3+2)).symm.trans a3));have hR4:∀w':World,Blk w' cb 291 (codV false Q fl al (frameV d gy gu gv) bk g)->w'.rangeAt cb o4 [.int .i64 (W:Int),.int .i64 (H:Int),.slice (some ⟨gq,0,none⟩) n n]:=fun w' hb=>hb.range o4 _ (ext3 ((hcw.cod.cell o4).symm.trans b1) ((hcw.cod.cell (o4+1)).symm.trans b2) ((hcw.cod.cell (o4+2)).symm.trans b3));have HR:=Lib.hid (And.intro hR3 hR4);have HG:=Lib.hid hgq;have HAN:=Lib.hid (And.intro ain (And.intro bq bql));have HC:=Lib.hid (And.intro hcw hsv);have hS0:Hid (Blk w3.drew cb 291 (codV false Q fl al (frameV d gy gu gv) bk g)):=hcw.cod.drew;clear hR3 hR4 ain bq bql hgq hcw hsv hbi a1 a2 a3 b1 b2 b3;go_upto_region 13 with(fail)
   refine wp_region_planT [17,18] [0,1,2,3,4,5,6,7,8,9,10,11,12,13,14,15] (0 :: 1 :: 2 :: 3 :: 4 :: 5 :: 6 :: 7 :: 8 :: 9 :: 10 :: 11 :: 12 :: 13 :: 14 :: 15 :: 16 :: 17 :: 18 :: []) (fun w'=>Blk w' cb 291 (codV false Q fl al (frameV d gy gu gv) bk g)) (by kernel_rfl) (by kernel_rfl) (fun _ _ _ d _ h=>by cases d<;>exact h) hS0.out ?_;refine planT_read (v:=.pointer (some ⟨cb,0,none⟩)) rfl rfl rfl (fun _ _=>rfl) (fun K hK=>?_);go_simp;refine hK _ ?_;clear hK K;refine planT_read (v:=.int .i64 (pl:Int)) rfl rfl rfl (fun _ _=>rfl) (fun K hK=>?_);go_simp;refine hK _ ?_;clear hK K;refine planT_read (v:=.pointer (some ⟨cb,0,none⟩)) rfl rfl rfl (fun _ _=>rfl) (fun K hK=>?_);go_simp;refine hK _ ?_;clear hK K;refine planT_read (v:=.pointer (some ⟨cb,20,none⟩)) rfl rfl rfl (fun _ _=>rfl) (fun K hK=>?_);go_simp;refine hK _ ?_;clear hK K;refine planT_idx rfl rfl _ _ _ rfl rfl (.pointer (some ⟨cb,20,none⟩)) (.int .i64 (pl:Int)) (.pointer (some ⟨cb,o4,none⟩)) rfl rfl (ix3 cb 20 pl o4 p1 eo4) (fun K hK=>?_);go_simp;refine hK _ ?_;clear hK K;refine planT_load rfl rfl _ _ rfl rfl cb o4 rfl [.int .i64 (W:Int),.int .i64 (H:Int),.slice (some ⟨gq,0,none⟩) n n] _ (fun w' hS=>HR.out.2 w' hS) Tryz.underlying108 rfl (by kernel_rfl) (fun K hK=>?_);go_simp;refine hK _ ?_;clear hK K;refine planT_read (v:=.int .i64 (x:Int)) rfl rfl rfl (fun _ _=>rfl) (fun K hK=>?_);go_simp;refine hK _ ?_;clear hK K;refine planT_read (v:=.int .i64 (y:Int)) rfl rfl rfl (fun _ _=>rfl) (fun K hK=>?_);go_simp;refine hK _ ?_;clear hK K;refine planT_read (v:=.pointer (some ⟨cb,0,none⟩)) rfl rfl rfl (fun _ _=>rfl) (fun K hK=>?_);go_simp;refine hK _ ?_;clear hK K;refine planT_read (v:=.int .i64 (pl:Int)) rfl rfl rfl (fun _ _=>rfl) (fun K hK=>?_);go_simp;refine hK _ ?_;clear hK K;refine planT_read (v:=.pointer (some ⟨cb,0,none⟩)) rfl rfl rfl (fun _ _=>rfl) (fun K hK=>?_);go_simp;refine hK _ ?_;clear hK K;refine planT_read (v:=.pointer (some ⟨cb,11,none⟩)) rfl rfl rfl (fun _ _=>rfl) (fun K hK=>?_);go_simp;refine hK _ ?_;clear hK K;refine planT_idx rfl rfl _ _ _ rfl rfl (.pointer (some ⟨cb,11,none⟩)) (.int .i64 (pl:Int)) (.pointer (some ⟨cb,o3,none⟩)) rfl rfl (ix3 cb 11 pl o3 p1 eo3) (fun K hK=>?_);go_simp;refine hK _ ?_;clear hK K;refine planT_load rfl rfl _ _ rfl rfl cb o3 rfl [.int .i64 (W:Int),.int .i64 (H:Int),.slice A3 n cc3] _ (fun w' hS=>HR.out.1 w' hS) Tryz.underlying108 rfl (by kernel_rfl) (fun K hK=>?_);go_simp;refine hK _ ?_;clear hK K;refine planT_read (v:=.int .i64 (x:Int)) rfl rfl rfl (fun _ _=>rfl) (fun K hK=>?_);go_simp;refine hK _ ?_;clear hK K;refine planT_read (v:=.int .i64 (y:Int)) rfl rfl rfl (fun _ _=>rfl) (fun K hK=>?_);go_simp;refine hK _ ?_;clear hK K;refine planT_still rfl rfl (fun K hK=>?_);go_simp;refine hK _ ?_;clear hK K;refine planT_loud rfl rfl (fun K hK=>?_);go_simp;have hmd:Mod (fun _=>False) w3 w3.drew:=(Mod.refl _ w3).drew;refine(mBlock _ W H A3 n cc3 (ahd.get pl) H0.out.2.2.2.2.2.1 H0.out.2.2.2.2.2.2.1 (by have:=HAN.out.1.quiet hmd;rwa [H0.out.2.2.2.2.2.2.1]at this) x y 0 0 8 ⟨by omega,by omega⟩ ⟨by omega,by omega⟩ ⟨by omega,by omega⟩ ⟨by omega,by omega⟩ ⟨by omega,by omega⟩).mono ?_;rintro e w4 ⟨g4,N,hN,rfl,hb4,hg4,hm4⟩;obtain rfl:N=64:=hN;have hm34:=hmd.trans hm4;have hcw4:=HC.out.1.quiet hm34;have hgl:=HAN.out.2.1.lt;have HH4:=Lib.hid (And.intro hcw4 (And.intro (HAN.out.2.1.keep hm34 (fun h=>h)) (blkIn hb4 (mvL_length _ _ _ _ _ _ _ _) (by omega))));have hne4:g4≠gq:=by
    have h3:w3.heap.size<=g4:=hg4;omega
   have HKV4:=Lib.hid (HKV.out.quiet hm34);clear hb4 hg4 hm4 hmd hm34;dsimp only [];refine hK _ _ hcw4.cod ?_;clear hK K hcw4;refine planT_last rfl rfl (fun K hK=>?_);go_simp;refine(eLay _ W H n gq (f.get pl) H0.out.2.2.2.2.2.1 H0.out.2.2.2.2.2.2.1 HH4.out.2.1 HAN.out.2.2 x y p2 p3 (some ⟨g4,0,none⟩) 64 _ HH4.out.2.2 (by omega) (by intro ad e;injection e with e;subst e;exact hne4)).mono ?_;rintro e w5 ⟨rfl,hb5,hm5⟩;have hlen:(layTo W x y (mvL W H (ahd.get pl) (x:Int) (y:Int) 8 0 0) (f.get pl) 8).length=n:=(layTo_length p2 p3 (HAN.out.2.2.trans H0.out.2.2.2.2.2.2.1) (mvL_length _ _ _ _ _ _ _ _) 8 (Nat.le_refl _)).trans H0.out.2.2.2.2.2.2.1.symm;have HKV5:=Lib.hid (HKV4.out.lay HH4.out.2.1 hm5);rw [HG.out]at hb5 hm5;have HF:=Lib.hid (HH4.out.1.lay p1 hb5 (by rw [hlen];exact H0.out.2.2.2.2.1) hm5);clear hb5 hm5 hlen;dsimp only [];refine hK _ _ ?_;clear hK K;refine planT_done ?_;go_wp2_with fail;go_end0
   refine⟨rfl,⟨v,?_⟩,HKV5.out⟩;have hR:eblkS d fr ahd 0 Q pl x y vx vy f s=(f.set pl (layTo W x y (mvL W H (ahd.get pl) (x:Int) (y:Int) 8 0 0) (f.get pl) 8),s):=by
    obtain⟨v1,v2⟩:=HV0.out;unfold eblkS egof smoved;rw [H0.out.2.2.1,H0.out.2.2.2.1,v1,v2];simp
   rw [hR];exact HF.out
  ·have HK:=Lib.hid (And.intro hK hv0);clear hK hv0 hk;rcases hk3 with rfl|rfl
   case' inl=>
    have hKf:K=false:=by
     cases K
     ·rfl
     ·exact absurd (HK.out.1 rfl) (by decide)
    subst hKf;obtain⟨o3,eo3⟩:∃o3,11+pl*3=o3:=⟨_,rfl⟩
    obtain⟨A3,cc3,a1,a2,a3,ain⟩:=hcw.ahead H0.out.1 pl p1 o3 eo3;rw [<-H0.out.2.2.1]at a1;rw [<-H0.out.2.2.2.1]at a2;rw [<-H0.out.2.2.2.2.1]at a3 ain;obtain⟨vc,vf⟩:=(hsv.own_ 0 rfl).both;dsimp only at vc;have hxb:-1048576<=hx/\hx<=1048576:=by rw [HT.out.2.1];split<;>omega
    have hyb:-1048576<=hy/\hy<=1048576:=by rw [HT.out.2.2];split<;>omega
    have HC:=Lib.hid (And.intro hcw (And.intro hbi ain));clear hcw hsv hbi ain;go_upto_region 15 with(fail)
    refine wp_region_plan [9] [] [0,1,2,3,4,5,6,7,8,9,10] (by kernel_rfl) (by kernel_rfl) (fun _ _ _ d _ h=>by cases d<;>exact h) ?_;iterate 9 (refine plan_still rfl rfl (fun K hK=>?_);go_simp;refine hK _ ?_;clear hK K)
    refine plan_loud rfl rfl (fun K hK=>?_);go_simp;have hmd:Mod (fun _=>False) w3 w3.drew:=(Mod.refl _ w3).drew;refine(mBlock _ W H A3 n cc3 (ahd.get pl) H0.out.2.2.2.2.2.1 H0.out.2.2.2.2.2.2.1 (by have:=HC.out.2.2.quiet hmd;rwa [H0.out.2.2.2.2.2.2.1]at this) x y hx hy 8 ⟨by omega,by omega⟩ ⟨by omega,by omega⟩ hxb hyb ⟨by omega,by omega⟩).mono ?_;rintro e w5 ⟨g5,N,hN,rfl,hb4,hg4,hm4⟩;obtain rfl:N=64:=hN;have hm34:=hmd.trans hm4;obtain⟨gs,hgs⟩:∃gs,gs=mvL W H (ahd.get pl) (x:Int) (y:Int) 8 hx hy:=⟨_,rfl⟩
    rw [<-hgs]at hb4;have hgl:gs.length=64:=by rw [hgs,mvL_length]
    have hX5:EbMid w0 w w5 cb bk g v false Q d fl al gy gu gv f s gs g5 g1 b s (eblkS d fr ahd 1 Q pl x y vx vy f s) pl W x y:=by
     refine⟨HC.out.1.quiet hm34,blkIn hb4 hgl (by omega),HC.out.2.1.quiet hm34,hgl,⟨by omega,H0.out.2.1.eb.free (ob:=g5) (by have h3:w3.heap.size<=g5:=hg4;simp;omega)⟩,?_,HKV.out.quiet hm34⟩;unfold eblkS egof smoved;rw [<-H0.out.2.2.1,<-H0.out.2.2.2.1,<-HB.out.1,hgs,HT.out.2.1,HT.out.2.2];rfl
    obtain⟨s5,hs5⟩:∃s5,s5=s:=⟨_,rfl⟩
    have hX6:EbMid w0 w w5 cb bk g v false Q d fl al gy gu gv f s5 gs g5 g1 b s (eblkS d fr ahd 1 Q pl x y vx vy f s) pl W x y:=by rw [hs5];exact hX5
    have HX:=Lib.hid hX6;clear hX5 hX6 hs5 hb4 hg4 hm4 hm34 hmd a1 a2 a3 vc vf;dsimp only [];refine hK _ _ ?_;clear hK K;refine plan_still rfl rfl (fun K hK=>?_);go_simp;refine hK _ ?_;clear hK K;refine plan_done ?_
   case' inr=>
    obtain⟨o4,eo4⟩:∃o4,20+pl*3=o4:=⟨_,rfl⟩
    obtain⟨b1,b2,b3,bq,bql⟩:=hcw.built H0.out.1 pl p1 o4 eo4;rw [<-H0.out.2.2.1]at b1;rw [<-H0.out.2.2.2.1]at b2;rw [<-H0.out.2.2.2.2.1]at b3 bql;obtain⟨gq,hgq⟩:∃gq,gq=gOf gy gu gv pl:=⟨_,rfl⟩
    rw [<-hgq]at b3 bq;have hnle:n<=16777216:=by rw [H0.out.2.2.2.2.2.2.1];exact(area_le H0.out.2.2.2.2.2.1).1
    have HC:=Lib.hid (And.intro hcw (And.intro hbi (blkIn bq bql hnle)));clear hcw hsv hbi bq bql hgq;go_wp2_with fail;refine(iChoose _ W H (some ⟨gq,0,none⟩) n n (f.get pl) H0.out.2.2.2.2.2.1 H0.out.2.2.2.2.2.2.1 HC.out.2.2 (Nat.le_refl _) x y p2 p3 (some ⟨g1,0,none⟩) 64 b HC.out.2.1).mono ?_;rintro e w4 ⟨g5,rfl,hb4,hg4,hm4⟩;have hg5:w.heap.size<g5:=by omega
    have hml:=chMode_lt W (f.get pl) x y b;obtain⟨m,hm⟩:∃m,m=chMode W (f.get pl) x y b:=⟨_,rfl⟩
    rw [<-hm]at hb4 hml ⊢;obtain⟨gs,hgs⟩:∃gs,gs=guessL W (f.get pl) x y m:=⟨_,rfl⟩
    rw [<-hgs]at hb4;have hgl:gs.length=64:=by rw [hgs,guessL_length]
    have HM:=Lib.hid (And.intro hm hgs);have hc4:=HC.out.1.quiet hm4;have q9:=codV_29 (K:=K) (Q:=Q) (fl:=fl) (al:=al) (bl:=frameV d gy gu gv) (bk:=bk) (g:=g) H0.out.1.frm.len H0.out.1.alen rfl;have d9:w4.cell? ⟨cb,29,none⟩=some (.pointer (some ⟨bk,0,none⟩)):=(hc4.cod.cell 29).trans q9.1;have d10:w4.cell? ⟨cb,30,none⟩=some (.pointer (some ⟨g,0,none⟩)):=(hc4.cod.cell 30).trans q9.2;have HC4:=Lib.hid (And.intro hc4 (And.intro (HC.out.2.1.quiet hm4) (blkIn hb4 hgl (by omega))));have HKV4:=Lib.hid (HKV.out.quiet hm4);clear hm hgs hb4 hg4 hm4 hc4 q9 HC b1 b2 b3 eo4;go_upto_region 10 with(fail)
    refine wp_region_plan [9] [] [0,1,2,3,4,5,6,7,8,9] (by kernel_rfl) (by kernel_rfl) (fun _ _ _ d _ h=>by cases d<;>exact h) ?_;iterate 9 (refine plan_still rfl rfl (fun K hK=>?_);go_simp;refine hK _ ?_;clear hK K)
    refine plan_loud rfl rfl (fun K1 hK1=>?_);go_simp;have hmd:Mod (fun _=>False) w4 w4.drew:=(Mod.refl _ w4).drew;have hcd:=HC4.out.1.quiet hmd;refine(ebOne _ bk g v s 0 4 m (by omega) (.inr rfl) hml hcd.eb (by omega)).mono ?_;rintro e w5 hp;have hM5:Mod (fun j=>j=g\/j=bk\/v.ownBlock=some j) w4.drew w5:=by obtain⟨_,_,_,_,h⟩:=hp;exact h
    have hfr5:=H0.out.2.1.eb.free (ob:=g5) (by simp;omega);have hln:=elow_len 0 m 2 0 0 s;have hg4l:g5<w4.heap.size:=(HC4.out.2.2.2.2.2 (by omega) _ rfl)
    have hown:∃v5,e=.returned (.int .i64 0)/\CW w0 w5 cb bk g v5 K Q d fl al gy gu gv f (elow 0 m 2 0 0 s)/\¬v5.ownBlock=some g5:=by
     obtain⟨v5,h1,h2,h3,h4⟩:=hp;obtain⟨v6,_,h6⟩:=hcd.puts ⟨v5,h1,h2,h3,h4⟩;have hvv:v5=v6:=by
      have e1:=h2.enc.blk.cell 0;have e2:=h6.eb.enc.blk.cell 0;rw [e1]at e2;simpa using e2
     subst hvv;refine⟨v5,h1,h6,fun e2=>?_⟩;rcases h3 g5 e2 with h7|h7
     ·exact hfr5 (.inr (.inr h7))
     ·have:w4.heap.size<=g5:=h7;omega
    obtain⟨v5,rfl,hc5,hvo5⟩:=hown;have hX5:EbMid w0 w w5 cb bk g v5 K Q d fl al gy gu gv f (elow 0 m 2 0 0 s) gs g5 g1 b s (eblkS d fr ahd 2 Q pl x y vx vy f s) pl W x y:=by
     refine⟨hc5,(HC4.out.2.2.quiet hmd).mod hM5 (by intro _ ad e;injection e with e;subst e;exact hfr5),(HC4.out.2.1.quiet hmd).mod hM5 (by intro _ ad e;injection e with e;subst e;exact HFR.out),hgl,⟨by omega,fun h=>by rcases h with h|h|h;exact hfr5 (.inl h);exact hfr5 (.inr (.inl h));exact hvo5 h⟩,?_,(HKV4.out.quiet hmd).puts hcd.eb hM5⟩;unfold eblkS egof;rw [<-H0.out.2.2.1,<-H0.out.2.2.2.1,<-HB.out.1,HM.out.2,HM.out.1];rfl
    have HX:=Lib.hid hX5;clear hX5 hM5 hfr5 hln hc5 hvo5 hp hcd hmd d9 d10 HC4;generalize elow 0 m 2 0 0 s=s5 at *;generalize v5=v at *;dsimp only [];refine hK1 _ _ ?_;clear hK1 K1;refine plan_done ?_
   all_goals
    go_wp2_with fail;refine(iRest _ (some ⟨g1,0,none⟩) 64 64 b (some ⟨g5,0,none⟩) 64 gs HX.out.2.2.1 HX.out.2.1 (by omega) (by omega)).mono ?_;rintro e6 w6 ⟨ob,rfl,hbr,hor,hm6⟩;have hrl:(restL b gs).length=64:=by rw [restL_length];exact HB.out.2
    have hF:=fwd_rest (gs:=gs) HB.out.2;have hE:=elev_all (gs:=gs) HB.out.2 H0.out.1.q;have hEl:=elev_length (gs:=gs) HB.out.2 Q;have hEq:elev b gs Q=coarseL (fwdL (restL b gs)) Q:=rfl;have hBs:=ebuilt_some (gs:=gs) HB.out.2 HX.out.2.2.2.1 H0.out.1.q;have hBl:=ebuilt_length (gs:=gs) HB.out.2 HX.out.2.2.2.1 H0.out.1.q;have hcs:=coarse_some hF.1 H0.out.1.q hF.2;have HE:=Lib.hid (And.intro hE (And.intro hEl (And.intro hEq (And.intro hBs (And.intro hBl (And.intro hcs (And.intro hF (allB_of_within (m:=1048576) (by rw [hrl];decide) (fun i=>by have:=restL_within b gs i;omega)))))))));have HK6:=Lib.hid (HX.out.2.2.2.2.2.2.quiet hm6);have H6:=Lib.hid (And.intro (HX.out.1.quiet hm6) (And.intro (HX.out.2.1.quiet hm6) (intsIn_blk hbr hrl)));clear hbr hor hm6 hrl hF hE hEl hEq hBs hBl hcs;go_wp2_with fail;refine(liftForward _ (some ⟨ob,0,none⟩) 64 (restL b gs) H6.out.2.2).mono ?_;rintro e7 w7 ⟨hm7,⟨h1,rfl⟩|⟨nv,h1,rfl,h2⟩⟩
    ·exact absurd h1 (by rw [HE.out.2.2.2.2.2.2.2];decide)
    obtain⟨A7,c7,hnv⟩:=own_shape h2;subst hnv;have hin7:=h2.in_;rw [HE.out.2.2.2.2.2.2.1.1]at hin7 ⊢;have H7:=Lib.hid (And.intro (H6.out.1.quiet hm7) (And.intro (H6.out.2.1.quiet hm7) hin7));have hq7:w7.cell? ⟨cb,0,none⟩=some (.int .i64 Q):=(H6.out.1.quiet hm7).cod.cell 0;have HK7:=Lib.hid (HK6.out.quiet hm7);clear hm7 h1 h2 hin7;go_wp2_with fail;refine(quantCoarse _ A7 64 c7 (fwdL (restL b gs)) Q H7.out.2.2 (by omega)).mono ?_;rintro e8 w8 ⟨hm8,⟨h1,rfl⟩|⟨lv,h1,rfl,h2⟩⟩
    ·exact absurd h1 (by rw [HE.out.2.2.2.2.2.1];intro h;cases h)
    obtain⟨A8,c8,hlv⟩:=own_shape h2;subst hlv;have hin8:=h2.in_;rw [<-HE.out.2.2.1]at hin8 ⊢;rw [HE.out.2.1]at hin8 ⊢;have hc8:=H7.out.1.quiet hm8;have d9:w8.cell? ⟨cb,29,none⟩=some (.pointer (some ⟨bk,0,none⟩)):=(hc8.cod.cell 29).trans (codV_29 H0.out.1.frm.len H0.out.1.alen rfl).1;have d10:w8.cell? ⟨cb,30,none⟩=some (.pointer (some ⟨g,0,none⟩)):=(hc8.cod.cell 30).trans (codV_29 H0.out.1.frm.len H0.out.1.alen rfl).2;have htp:=HT.out.1;have htp15:tp<15:=by rw [htp];split<;>omega
    have H8:=Lib.hid (And.intro hc8 (And.intro (H7.out.2.1.quiet hm8) (And.intro hin8 (And.intro h2 H7.out.1))));have HK8:=Lib.hid (HK7.out.quiet hm8);clear hc8 hm8 h1 h2 hin8 htp hq7;go_upto_region 18 with(fail)
    refine wp_region_plan [10] [] [0,1,2,3,4,5,6,7,8,9,10] (by kernel_rfl) (by kernel_rfl) (fun _ _ _ d _ h=>by cases d<;>exact h) ?_;iterate 10 (refine plan_still rfl rfl (fun K hK=>?_);go_simp;refine hK _ ?_;clear hK K)
    refine plan_loud rfl rfl (fun K1 hK1=>?_);go_simp;have hmd:Mod (fun _=>False) w8 w8.drew:=(Mod.refl _ w8).drew;have hcd:=H8.out.1.quiet hmd;refine(qPut _ bk g _ s5 tp htp15 A8 c8 (elev b gs Q) (H8.out.2.2.1.quiet hmd) HE.out.1 hcd.eb (by have:=HX.out.2.2.2.2.1.1;omega)).mono ?_;rintro e9 w9 hp;have hM9:Mod (fun j=>j=g\/j=bk\/v.ownBlock=some j) w8.drew w9:=by obtain⟨_,_,_,_,h⟩:=hp;exact h
    obtain⟨v9,rfl,hc9⟩:=hcd.puts hp;have hgs9:=(H8.out.2.1.quiet hmd).mod hM9 (by intro _ ad e;injection e with e;subst e;exact HX.out.2.2.2.2.1.2);have hlv9:IntsIn w9 A8 64 c8 (elev b gs Q):=by
     obtain⟨r,hv,hBr⟩:=own_addr H8.out.2.2.2.1 (by rw [<-HE.out.2.2.1,HE.out.2.1];omega);exact(H8.out.2.2.1.quiet hmd).mod hM9 (by intro _ ad e;rw [hv]at e;injection e with e;subst e;exact H8.out.2.2.2.2.eb.free hBr)
    have HK9:=Lib.hid ((HK8.out.quiet hmd).puts hcd.eb hM9);have H9:=Lib.hid (And.intro hc9 (And.intro hgs9 hlv9));have hq9:w9.cell? ⟨cb,0,none⟩=some (.int .i64 Q):=hc9.cod.cell 0;clear hp hM9 hc9 hgs9 hlv9 hcd hmd d9 d10 H8 H7;dsimp only [];refine hK1 _ _ ?_;clear hK1 K1;refine plan_done ?_;go_wp2_with fail;refine(decBuild _ (some ⟨g5,0,none⟩) 64 64 gs A8 64 c8 (elev b gs Q) Q H9.out.2.1 H9.out.2.2 (by omega) (by omega)).mono ?_;rintro e10 w10 ⟨hm10,⟨h1,rfl⟩|⟨bv,bs,h1,rfl,hbs⟩⟩
    ·exact absurd h1 (by rw [HE.out.2.2.2.1];intro h;cases h)
    obtain rfl:bs=ebuilt gs (elev b gs Q) Q:=by
     have h2:=HE.out.2.2.2.1;rw [h1]at h2;exact Option.some.inj h2
    obtain⟨g10,c10,rfl,hB10⟩:∃g4 c4,bv=.slice (some ⟨g4,0,none⟩) (ebuilt gs (elev b gs Q) Q).length c4/\w9.heap.size<=g4:=by
     rcases hbs.2 with⟨_,h0⟩|⟨g4,c4,cur,h1,h2,_⟩
     ·rw [HE.out.2.2.2.2.1]at h0;omega
     ·exact⟨g4,c4,h1,h2⟩
    have hcap:=Bytes.cap hbs;have hin10:=hbs.in_;rw [HE.out.2.2.2.2.1]at hcap hin10 ⊢;have hc10:=H9.out.1.quiet hm10;obtain⟨o5,eo5⟩:∃o5,20+pl*3=o5:=⟨_,rfl⟩
    obtain⟨f1,f2,f3,fq,fql⟩:=hc10.built H0.out.1 pl p1 o5 eo5;rw [<-H0.out.2.2.1]at f1;rw [<-H0.out.2.2.2.1]at f2;rw [<-H0.out.2.2.2.2.1]at f3 fql;obtain⟨gp,hgp⟩:∃gp,gp=gOf gy gu gv pl:=⟨_,rfl⟩
    rw [<-hgp]at f3 fq;have hpl9:gp<w9.heap.size:=by
     rw [hgp];unfold gOf;split
     ·exact H9.out.1.fa.by_.lt
     ·split
      ·exact H9.out.1.fa.bu.lt
      ·exact H9.out.1.fa.bv.lt
    have hne10:g10≠gp:=by omega
    have HP:=Lib.hid (And.intro hgp (And.intro fq fql));have H10:=Lib.hid (And.intro hc10 hin10);have HK10:=Lib.hid (HK9.out.quiet hm10);clear hm10 h1 hbs hc10 hin10 hq9 fq fql hgp;go_wp2_with fail;refine(eLay _ W H n gp (f.get pl) H0.out.2.2.2.2.2.1 H0.out.2.2.2.2.2.2.1 HP.out.2.1 HP.out.2.2 x y p2 p3 (some ⟨g10,0,none⟩) c10 _ H10.out.2 hcap (by intro ad e;injection e with e;subst e;exact hne10)).mono ?_;rintro e11 w11 ⟨rfl,hb11,hm11⟩;have hlen:(layTo W x y (ebuilt gs (elev b gs Q) Q) (f.get pl) 8).length=n:=(layTo_length p2 p3 (HP.out.2.2.trans H0.out.2.2.2.2.2.2.1) HE.out.2.2.2.2.1 8 (Nat.le_refl _)).trans H0.out.2.2.2.2.2.2.1.symm;have HK11:=Lib.hid (HK10.out.lay HP.out.2.1 hm11);rw [HP.out.1]at hb11 hm11;have hlen2:(layTo W x y (ebuilt gs (elev b gs Q) Q) (f.get pl) 8).length=d.nOf pl:=hlen.trans H0.out.2.2.2.2.1;obtain⟨L,hL⟩:∃L,L=layTo W x y (ebuilt gs (elev b gs Q) Q) (f.get pl) 8:=⟨_,rfl⟩
    rw [<-hL]at hb11 hlen2;have hF:=H10.out.1.lay p1 hb11 hlen2 hm11;have HF:=Lib.hid (And.intro hL hF);clear hL hF hlen2;clear hb11 hm11 hlen f1 f2 f3;go_wp2_with fail;go_end0
    refine⟨rfl,⟨v9,?_⟩,HK11.out⟩;rw [HX.out.2.2.2.2.2.1];dsimp only;rw [<-HT.out.1,<-HF.out.1];exact HF.out.2
end Go.Proofs.YtnnpoodcdibpiaaGreatDoor
