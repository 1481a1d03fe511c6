/-
  The coder's encoder: a bit is put.
-/
import Derived.Test.YtnnpoodcdibpiaaGreatDoorB11
namespace Go.Proofs.YtnnpoodcdibpiaaGreatDoor
open Go.RowKit
set_option maxRecDepth 100000
set_option maxHeartbeats 8000000
def EPost(w:World)(g:Nat)(v:Value)(x:List UInt8 × Nat)(e:Ending)(w':World):Prop:=
 ∃v',e=.returned (.int .i64 0)/\EAt w' g v' x.1 x.2/\(∀j,v'.ownBlock=some j->v.ownBlock=some j\/w.heap.size<=j)/\Mod (fun j=>j=g\/v.ownBlock=some j) w w'
def ENorm(w:World)(g:Nat)(v:Value)(x:List UInt8 × Nat)(wr:World):Prop:=
 ∃v1 code1 w1,Blk wr g 363 #[v1,.int .u32 ((w1:Nat):Int)]/\Bytes wr 0 v1 code1/\4<=code1.length/\(w1<16777216->code1.length<=1048575)/\65536<=w1/\w1<4294967296/\enorm code1 w1=x/\(∀j,v1.ownBlock=some j->v.ownBlock=some j\/w.heap.size<=j)/\Mod (fun j=>j=g\/v.ownBlock=some j) w wr
def eWide(g:Nat)(w:World):Nat:=match w.cell? ⟨g,1,none⟩with|some (.int _ n)=>4294967296-n.toNat|_=>0
theorem eWide_of{w:World}{g:Nat}{v:Value}{x:Nat}(h:Blk w g 363 #[v,.int .u32 (x:Int)]):eWide g w=4294967296-x:=by
 unfold eWide;rw [show w.cell? ⟨g,1,none⟩=some (.int .u32 (x:Int))from h.cell 1];simp
theorem enorm_done{code:List UInt8}{w:Nat}(h:16777216<=w):enorm code w=(code,w):=by
 unfold enorm;rw [if_neg (by omega)]
theorem enorm_more{code:List UInt8}{w:Nat}(h:w<16777216):enorm code w=(code++[0],w*256):=by
 unfold enorm;rw [if_pos h]
theorem ePut(w:World)(g:Nat)(v:Value)(code:List UInt8)(wide c bit:Nat)(h:EAt w g v code wide)(hl:code.length<=1048575)(hc:chanceOk c=true)(hb:bit<=1):
  Calls Tryz.prog 348 #[.pointer (some ⟨g,0,none⟩),.int .u16 (c:Int),.int .i64 (bit:Int)] w (EPost w g v (eput code wide c bit)):=by
 obtain⟨r,k,rfl,hrg⟩:=h.shape;have hcb:31<=c/\c<=2017:=by unfold chanceOk at hc;rwa [decide_eq_true_eq]at hc
 have hbd:=ebound_lt hcb ⟨h.lo,h.hi⟩;have hlo:=h.lo;have hhi:=h.hi;obtain⟨bd,hbe⟩:∃bd,bd=wide/2048*c:=⟨_,rfl⟩
 rw [<-hbe]at hbd;obtain⟨hb1,hb2⟩:=hbd;have e1:(wide:Int)/2048*(c:Int) % 4294967296=(bd:Int):=by
  have:(wide:Int)/2048*(c:Int)=(bd:Int):=by rw [hbe];simp
  rw [this];omega
 have hEB:=eBegin w g _ code wide h;obtain⟨bc,bf⟩:=h.blk.both;have bl:=h.blk.lt;obtain⟨hc1,hc2⟩:=hcb;have H:=Lib.hid (And.intro h (And.intro hc (And.intro e1 (And.intro hbe hEB))));clear h hc e1 hbe hEB;have hbit:bit=0\/bit=1:=by omega
 refine Calls.mono (R:=EPost w g (.slice (some ⟨r,0,none⟩) code.length k) (eput code wide c bit)) ?_ (fun _ _ h=>h);have hmv:Mod (fun j=>j=g\/(Value.slice (some ⟨r,0,none⟩) code.length k).ownBlock=some j) w (w.setCell ⟨g,1,none⟩ (.int .u32 (bd:Int))):=(Mod.refl _ w).setCell (p:=⟨g,1,none⟩) (.inl (.inl rfl)) _;go_enter Tryz.func348,Tryz.ntmps348;rcases hbit with rfl|rfl
 ·go_wp2_with fail;refine(cRight _ c).mono ?_;rintro e w1 ⟨rfl,rfl⟩;rw [H.out.2.1];go_wp2_with fail;refine H.out.2.2.2.2.mono ?_;rintro e w1 ⟨rfl,rfl⟩;go_upto_region 5 with(fail)
  rw [H.out.2.2.1]
  have hN:ENorm w g (.slice (some ⟨r,0,none⟩) code.length k) (eput code wide c 0) (w.setCell ⟨g,1,none⟩ (.int .u32 (bd:Int))):=
   ⟨_,code,bd,H.out.1.blk.put (i:=1) rfl,H.out.1.own.far (p:=⟨g,1,none⟩) hrg _,H.out.1.four,fun _=>hl,by omega,by omega,by rw [H.out.2.2.2.1];rfl,fun j e=>.inl e,hmv⟩
  have HN:=Lib.hid hN;clear hN hmv;go_wp2_with fail;go_loopw [] (ENorm w g (.slice (some ⟨r,0,none⟩) code.length k) (eput code wide c 0)) (fun wr=>eWide g wr)
  case atStart=>exact HN.out
  case round=>
   clear HN;obtain⟨v1,code1,x1,hb1,ho1,h41,hl1,hlo1,hhi1,hx1,hap1,hm1⟩:=hrel;rename World=>wr
   clear bc bf bl;obtain⟨bc,bf⟩:=hb1.both;have bl:=hb1.lt;by_cases hn:x1<16777216
   ·have hew:=eWide_of hb1;obtain⟨A1,k1,rfl⟩:=own_shape ho1;obtain⟨r1,rfl,_⟩:=ho1.some_ (by omega);have hr1:=ho1.ne_ hb1 (by decide);have hl2:=hl1 hn;clear hl1;have d9:decide ((x1:Int)<16777216)=true:=decide_eq_true (by omega);obtain⟨y,hy⟩:∃y,y=x1*256:=⟨_,rfl⟩
    have hw8:IntKind.u32.wrap ((x1:Int)*256)=(y:Int):=by
     rw [show(x1:Int)*256=(y:Int)by omega];exact IntWalk.u32_in _ ⟨by omega,by omega⟩
    have hy1:16777216<=y:=by omega
    have hy2:y<4294967296:=by omega
    have hb2:=hb1.put (i:=1) (u:=.int .u32 (y:Int)) rfl;have ho2:=ho1.far (p:=⟨g,1,none⟩) hr1 (.int .u32 (y:Int));have hm2:=hm1.setCell (p:=⟨g,1,none⟩) (.inl (.inl rfl)) (.int .u32 (y:Int));rw [enorm_more hn,<-hy]at hx1;have HA:=Lib.hid (And.intro ho2 (And.intro hb2 (And.intro hm2 (And.intro hap1 (And.intro hx1 (And.intro hew hy))))));clear hy ho1 ho2 hb1 hb2 hm1 hm2 hap1 hx1 hew;go_upto_region 11 with(fail)
    clear bc bf bl;have hbz:Blk (wr.setCell ⟨g,1,none⟩ (.int .u32 (y:Int))) g 363 #[.slice (some ⟨r1,0,none⟩) code1.length k1,.int .u32 (y:Int)]:=HA.out.2.1;generalize wr.setCell ⟨g,1,none⟩ (.int .u32 (y:Int))=wz at *;obtain⟨bc,bf⟩:=hbz.both;have bl:=hbz.lt;have HZ:=Lib.hid hbz;clear hbz;go_wp2_with (at_builtin;have _t:=HA;refine wpList_app_u8 _ rfl (.tmp 66) (.tmp 67) rfl 0 (.slice (some ⟨r1,0,none⟩) code1.length k1) code1 0 rfl rfl HA.out.1 (Nat.zero_le _) (by omega) ?_;intro v5 w5 hown5 hM5 hJ5 hF5;clear hJ5;have HO:=Lib.hid (And.intro hown5 (And.intro hM5 hF5));have hb5:=HZ.out.keep hM5 (HA.out.1.apart HZ.out (by decide));obtain⟨bc5,bf5⟩:=hb5.both;have bl5:=hb5.lt;have H5:=Lib.hid hb5;clear hb5 hown5 hM5 hF5;refine Hid.out ?_)
    refine Lib.hid ?_;clear bc bf bl d9 hw8;obtain⟨A5,k5,hv5⟩:=own_shape HO.out.1;obtain⟨n5,hn5⟩:∃n5,n5=(code1++[0]).length:=⟨_,rfl⟩
    rw [<-hn5]at hv5;subst hv5;have HN5:=Lib.hid hn5;clear hn5;go_wp2_with fail;have hb6:=H5.out.put (i:=0) (u:=.slice A5 n5 k5) rfl;have hwz:=HA.out.2.2.1.size;refine⟨⟨_,code1++[0],y,hb6,HO.out.1.mod ((Mod.refl (fun j=>j=g) w5).setCell (p:=⟨g,0,none⟩) (.inl rfl) _) (fun j e hj=>HO.out.1.apart H5.out (by decide) (hj▸e)),by simp;omega,fun h=>by omega,by omega,hy2,(enorm_done hy1).trans HA.out.2.2.2.2.1,fun j e=>?_,(HA.out.2.2.1.into HO.out.2.1 (fun j e=>?_)).setCell (p:=⟨g,0,none⟩) (.inl (.inl rfl)) _⟩,?_⟩
    ·rcases HO.out.2.2 j e with h1|h1
     ·exact HA.out.2.2.2.1 j h1
     ·exact .inr (Nat.le_trans hwz h1)
    ·rcases HA.out.2.2.2.1 j e with h1|h1
     ·exact .inl (.inr h1)
     ·exact .inr h1
    ·rw [eWide_of hb6,HA.out.2.2.2.2.2.1];omega
   ·have d9:decide ((x1:Int)<16777216)=false:=decide_eq_false (by omega);rw [enorm_done (by omega)]at hx1;have HX:=Lib.hid (And.intro hx1 (And.intro hb1 (And.intro ho1 (And.intro hap1 hm1))));clear hx1 hb1 ho1 hap1 hm1;go_wp2_with fail;go_ret;rw [<-HX.out.1];exact⟨v1,rfl,⟨HX.out.2.1,HX.out.2.2.1,h41,by omega,hhi1⟩,HX.out.2.2.2.1,HX.out.2.2.2.2⟩
 ·go_wp2_with fail;refine(cRight _ c).mono ?_;rintro e w1 ⟨rfl,rfl⟩;rw [H.out.2.1];go_wp2_with fail;refine H.out.2.2.2.2.mono ?_;rintro e w1 ⟨rfl,rfl⟩;go_upto_region 5 with(fail)
  rw [H.out.2.2.1];go_wp2_with fail;refine(eAdd w g r k code wide H.out.1 (by omega) bd (by omega)).mono ?_;rintro e w2 ⟨rfl,hE2,hm2⟩;clear bc bf bl hmv;obtain⟨bc,bf⟩:=hE2.blk.both;have bl:=hE2.blk.lt;have hws:IntKind.u32.wrap ((wide:Int)-(bd:Int))=((wide-bd:Nat):Int):=by
   rw [show(wide:Int)-(bd:Int)=((wide-bd:Nat):Int)by omega];exact IntWalk.u32_in _ ⟨by omega,by omega⟩
  have hN:ENorm w g (.slice (some ⟨r,0,none⟩) code.length k) (eput code wide c 1) (w2.setCell ⟨g,1,none⟩ (.int .u32 ((wide-bd:Nat):Int))):=
   ⟨_,eadd code bd,wide-bd,hE2.blk.put (i:=1) rfl,hE2.own.far (p:=⟨g,1,none⟩) hrg _,hE2.four,fun _=>by rw [eadd_length];exact hl,by omega,by omega,by rw [H.out.2.2.2.1];rfl,fun j e=>.inl e,(hm2.mono (fun j e=>.inr (by subst e;rfl))).setCell (p:=⟨g,1,none⟩) (.inl (.inl rfl)) _⟩
  have HN:=Lib.hid hN;clear hN hE2 hm2;go_wp2_with fail;go_loopw [] (ENorm w g (.slice (some ⟨r,0,none⟩) code.length k) (eput code wide c 1)) (fun wr=>eWide g wr)
  case atStart=>exact HN.out
  case round=>
   clear HN;obtain⟨v1,code1,x1,hb1,ho1,h41,hl1,hlo1,hhi1,hx1,hap1,hm1⟩:=hrel;rename World=>wr
   clear bc bf bl;obtain⟨bc,bf⟩:=hb1.both;have bl:=hb1.lt;by_cases hn:x1<16777216
   ·have hew:=eWide_of hb1;obtain⟨A1,k1,rfl⟩:=own_shape ho1;obtain⟨r1,rfl,_⟩:=ho1.some_ (by omega);have hr1:=ho1.ne_ hb1 (by decide);have hl2:=hl1 hn;clear hl1;have d9:decide ((x1:Int)<16777216)=true:=decide_eq_true (by omega);obtain⟨y,hy⟩:∃y,y=x1*256:=⟨_,rfl⟩
    have hw8:IntKind.u32.wrap ((x1:Int)*256)=(y:Int):=by
     rw [show(x1:Int)*256=(y:Int)by omega];exact IntWalk.u32_in _ ⟨by omega,by omega⟩
    have hy1:16777216<=y:=by omega
    have hy2:y<4294967296:=by omega
    have hb2:=hb1.put (i:=1) (u:=.int .u32 (y:Int)) rfl;have ho2:=ho1.far (p:=⟨g,1,none⟩) hr1 (.int .u32 (y:Int));have hm2:=hm1.setCell (p:=⟨g,1,none⟩) (.inl (.inl rfl)) (.int .u32 (y:Int));rw [enorm_more hn,<-hy]at hx1;have HA:=Lib.hid (And.intro ho2 (And.intro hb2 (And.intro hm2 (And.intro hap1 (And.intro hx1 (And.intro hew hy))))));clear hy ho1 ho2 hb1 hb2 hm1 hm2 hap1 hx1 hew;go_upto_region 11 with(fail)
    clear bc bf bl;have hbz:Blk (wr.setCell ⟨g,1,none⟩ (.int .u32 (y:Int))) g 363 #[.slice (some ⟨r1,0,none⟩) code1.length k1,.int .u32 (y:Int)]:=HA.out.2.1;generalize wr.setCell ⟨g,1,none⟩ (.int .u32 (y:Int))=wz at *;obtain⟨bc,bf⟩:=hbz.both;have bl:=hbz.lt;have HZ:=Lib.hid hbz;clear hbz;go_wp2_with (at_builtin;have _t:=HA;refine wpList_app_u8 _ rfl (.tmp 66) (.tmp 67) rfl 0 (.slice (some ⟨r1,0,none⟩) code1.length k1) code1 0 rfl rfl HA.out.1 (Nat.zero_le _) (by omega) ?_;intro v5 w5 hown5 hM5 hJ5 hF5;clear hJ5;have HO:=Lib.hid (And.intro hown5 (And.intro hM5 hF5));have hb5:=HZ.out.keep hM5 (HA.out.1.apart HZ.out (by decide));obtain⟨bc5,bf5⟩:=hb5.both;have bl5:=hb5.lt;have H5:=Lib.hid hb5;clear hb5 hown5 hM5 hF5;refine Hid.out ?_)
    refine Lib.hid ?_;clear bc bf bl d9 hw8;obtain⟨A5,k5,hv5⟩:=own_shape HO.out.1;obtain⟨n5,hn5⟩:∃n5,n5=(code1++[0]).length:=⟨_,rfl⟩
    rw [<-hn5]at hv5;subst hv5;have HN5:=Lib.hid hn5;clear hn5;go_wp2_with fail;have hb6:=H5.out.put (i:=0) (u:=.slice A5 n5 k5) rfl;have hwz:=HA.out.2.2.1.size;refine⟨⟨_,code1++[0],y,hb6,HO.out.1.mod ((Mod.refl (fun j=>j=g) w5).setCell (p:=⟨g,0,none⟩) (.inl rfl) _) (fun j e hj=>HO.out.1.apart H5.out (by decide) (hj▸e)),by simp;omega,fun h=>by omega,by omega,hy2,(enorm_done hy1).trans HA.out.2.2.2.2.1,fun j e=>?_,(HA.out.2.2.1.into HO.out.2.1 (fun j e=>?_)).setCell (p:=⟨g,0,none⟩) (.inl (.inl rfl)) _⟩,?_⟩
    ·rcases HO.out.2.2 j e with h1|h1
     ·exact HA.out.2.2.2.1 j h1
     ·exact .inr (Nat.le_trans hwz h1)
    ·rcases HA.out.2.2.2.1 j e with h1|h1
     ·exact .inl (.inr h1)
     ·exact .inr h1
    ·rw [eWide_of hb6,HA.out.2.2.2.2.2.1];omega
   ·have d9:decide ((x1:Int)<16777216)=false:=decide_eq_false (by omega);rw [enorm_done (by omega)]at hx1;have HX:=Lib.hid (And.intro hx1 (And.intro hb1 (And.intro ho1 (And.intro hap1 hm1))));clear hx1 hb1 ho1 hap1 hm1;go_wp2_with fail;go_ret;rw [<-HX.out.1];exact⟨v1,rfl,⟨HX.out.2.1,HX.out.2.2.1,h41,by omega,hhi1⟩,HX.out.2.2.2.1,HX.out.2.2.2.2⟩
structure Es where
 ch:List Nat
 code:List UInt8
 wide:Nat
def eputAt(s:Es)(i bit:Nat):Es:=⟨s.ch.set i (cnext (s.ch.getD i 0) bit),(eput s.code s.wide (s.ch.getD i 0) bit).1,(eput s.code s.wide (s.ch.getD i 0) bit).2⟩
def eputEven(s:Es)(bit:Nat):Es:=⟨s.ch,(eput s.code s.wide 1024 bit).1,(eput s.code s.wide 1024 bit).2⟩
structure EbAt(w:World)(bk g:Nat)(v:Value)(s:Es):Prop where
 bk_:Blk w bk 361 (u16s s.ch).toArray
 len:s.ch.length=592
 ok:∀i,i<592->chanceOk (s.ch.getD i 0)=true
 enc:EAt w g v s.code s.wide
def EbPost(w:World)(bk g:Nat)(v:Value)(s':Es)(e:Ending)(w':World):Prop:=
 ∃v',e=.returned (.int .i64 0)/\EbAt w' bk g v' s'/\(∀j,v'.ownBlock=some j->v.ownBlock=some j\/w.heap.size<=j)/\Mod (fun j=>j=g\/j=bk\/v.ownBlock=some j) w w'
theorem EbAt.apart{w:World}{bk g:Nat}{v:Value}{s:Es}(h:EbAt w bk g v s):g≠bk/\¬v.ownBlock=some bk:=
 ⟨fun e=>by subst e;exact h.enc.blk.ne_ h.bk_ (by decide) rfl,h.enc.own.apart h.bk_ (by decide)⟩
theorem EbAt.quiet{w w':World}{bk g:Nat}{v:Value}{s:Es}(h:EbAt w bk g v s)(hm:Mod (fun _=>False) w w'):EbAt w' bk g v s:=⟨h.bk_.keep hm (fun h=>h),h.len,h.ok,h.enc.quiet hm⟩
theorem eputAt_ok{s:Es}{i bit:Nat}(hl:s.ch.length=592)(h:∀j,j<592->chanceOk (s.ch.getD j 0)=true)(hi:i<592):(eputAt s i bit).ch.length=592/\∀j,j<592->chanceOk ((eputAt s i bit).ch.getD j 0)=true:=by
 refine⟨by simp [eputAt,hl],fun j hj=>?_⟩;unfold eputAt;dsimp only;rw [List.getD_eq_getElem?_getD,List.getElem?_set];split
 ·rename_i e;subst e;rw [if_pos (by omega)];exact cnext_ok _ _ (h i hi)
 ·rw [<-List.getD_eq_getElem?_getD];exact h j hj
theorem ebPut(w:World)(g gb:Nat)(tb:TypeId)(cs:Array Value)(i p bit:Nat)(v:Value)(code:List UInt8)(wide:Nat)(h:EAt w g v code wide)(hl:code.length<=1048575)(hgb:g≠gb)(hgo:¬v.ownBlock=some gb)(hb:Blk w gb tb cs)(hi:cs[i]?=some (.int .u16 (p:Int)))(hp:chanceOk p=true)(hbit:bit<=1):
  Calls Tryz.prog 308 #[.pointer (some ⟨g,0,none⟩),.pointer (some ⟨gb,i,none⟩),.int .i64 (bit:Int)] w fun e w'=>
   ∃v',e=.returned (.int .i64 0)/\EAt w' g v' (eput code wide p bit).1 (eput code wide p bit).2/\(∀j,v'.ownBlock=some j->v.ownBlock=some j\/w.heap.size<=j)/\Blk w' gb tb (cs.setIfInBounds i (.int .u16 ((cnext p bit:Nat):Int)))/\Mod (fun j=>j=g\/j=gb\/v.ownBlock=some j) w w':=by
 have c0:w.cell? ⟨gb,i,none⟩=some (.int .u16 (p:Int)):=(hb.cell i).trans hi;have G1:=ePut w g v code wide p bit h hl hp hbit;have HH:=Lib.hid (And.intro hb (And.intro hi (And.intro G1 (And.intro hp hgo))));clear hb hi G1 hp h hgo;go_enter Tryz.func308,Tryz.ntmps308;go_wp2_with fail;refine HH.out.2.2.1.mono ?_;rintro e w1 ⟨v1,rfl,hE1,hF1,hm⟩
 have hap:¬(gb=g\/v.ownBlock=some gb):=fun h=>by
  rcases h with h|h
  ·exact hgb h.symm
  ·exact HH.out.2.2.2.2 h
 have hb1:=HH.out.1.keep hm hap;have k0:w1.cell? ⟨gb,i,none⟩=some (.int .u16 (p:Int)):=(hb1.cell i).trans HH.out.2.1;have f0:=hb1.frozen i;have hl1:=hb1.lt;have hgl:=HH.out.1.lt;have HR:=Lib.hid (And.intro hE1 (And.intro hF1 (And.intro hm hb1)));clear hE1 hF1 hm hb1 c0 hap;go_wp2_with fail;refine(cNext _ p bit hbit HH.out.2.2.2.1).mono ?_;rintro e w2 ⟨rfl,rfl⟩;go_wp2_with fail;go_ret;obtain⟨hE1,hF1,hm,hb1⟩:=HR.out;have hs:Mod (fun j=>j=gb) w1 (w1.setCell ⟨gb,i,none⟩ (.int .u16 ((cnext p bit:Nat):Int))):=(Mod.refl (fun j=>j=gb) w1).setCell (p:=⟨gb,i,none⟩) (.inl rfl) _;refine⟨v1,rfl,⟨hE1.blk.keep hs hgb,hE1.own.mod hs (fun j e hj=>?_),hE1.four,hE1.lo,hE1.hi⟩,hF1,hb1.set_ i _,?_⟩
 ·subst hj;rcases hF1 _ e with h|h
  ·exact HH.out.2.2.2.2 h
  ·omega
 ·exact(hm.mono (fun _ h=>by rcases h with h|h;exact .inl h;exact .inr (.inr h))).setCell (p:=⟨gb,i,none⟩) (.inl (.inr (.inl rfl))) _
theorem ebPut_at(w:World)(bk g:Nat)(v:Value)(s:Es)(i bit:Nat)(hi:i<592)(hbit:bit<=1)(h:EbAt w bk g v s)(hl:s.code.length<=1048575):
  Calls Tryz.prog 308 #[.pointer (some ⟨g,0,none⟩),.pointer (some ⟨bk,i,none⟩),.int .i64 (bit:Int)] w (EbPost w bk g v (eputAt s i bit)):=by
 obtain⟨a1,a2⟩:=h.apart;have hx:(u16s s.ch).toArray[i]?=some (.int .u16 ((s.ch.getD i 0:Nat):Int)):=by simp [u16s,List.getD_eq_getElem?_getD,h.len,hi]
 refine(ebPut w g bk _ _ i _ bit v _ _ h.enc hl a1 a2 h.bk_ hx (h.ok i hi) hbit).mono ?_;rintro e w1 ⟨v1,rfl,hE,hF,hb1,hm⟩;have e1:((u16s s.ch).toArray.setIfInBounds i (.int .u16 ((cnext (s.ch.getD i 0) bit:Nat):Int)))=(u16s (s.ch.set i (cnext (s.ch.getD i 0) bit))).toArray:=by simp [u16s,List.map_set]
 rw [e1]at hb1;obtain⟨k1,k2⟩:=eputAt_ok (bit:=bit) h.len h.ok hi;exact⟨v1,rfl,⟨hb1,k1,k2,hE⟩,hF,hm⟩
theorem ebPut_even(w:World)(bk g:Nat)(v:Value)(s:Es)(ge bit:Nat)(hbit:bit<=1)(hge:g≠ge)(hbe:bk≠ge)(hve:¬v.ownBlock=some ge)(h:EbAt w bk g v s)(hl:s.code.length<=1048575)(he:Blk w ge 354 #[.int .u16 1024]):
  Calls Tryz.prog 308 #[.pointer (some ⟨g,0,none⟩),.pointer (some ⟨ge,0,none⟩),.int .i64 (bit:Int)] w fun e w'=>
   ∃v',e=.returned (.int .i64 0)/\EbAt w' bk g v' (eputEven s bit)/\(∀j,v'.ownBlock=some j->v.ownBlock=some j\/w.heap.size<=j)/\Mod (fun j=>j=g\/j=ge\/v.ownBlock=some j) w w':=by
 obtain⟨a1,a2⟩:=h.apart;refine(ebPut w g ge _ _ 0 1024 bit v _ _ h.enc hl hge hve he rfl (by decide) hbit).mono ?_;rintro e w1 ⟨v1,rfl,hE,hF,_,hm⟩;exact⟨v1,rfl,⟨h.bk_.keep hm (fun h=>by rcases h with h|h|h;exact a1 h.symm;exact hbe h;exact a2 h),h.len,h.ok,hE⟩,hF,hm⟩
def eslow(s:Es)(t i ahead bit:Nat):Es:=if i<4 then eputAt s (t*37+atIdx i ahead) bit else eputEven s bit
def elow(t x:Nat):Nat->Nat->Nat->Es->Es
 | 0,_,_,s=>s
 | m+1,i,ahead,s=>elow t x m (i+1) (2*ahead+x/2 ^ m % 2) (eslow s t i ahead (x/2 ^ m % 2))
theorem eputAt_len(s:Es)(i bit:Nat):s.code.length<=(eputAt s i bit).code.length/\(eputAt s i bit).code.length<=s.code.length+1:=eput_length _ _ _ _
theorem eputEven_len(s:Es)(bit:Nat):s.code.length<=(eputEven s bit).code.length/\(eputEven s bit).code.length<=s.code.length+1:=eput_length _ _ _ _
theorem eslow_len(s:Es)(t i a bit:Nat):s.code.length<=(eslow s t i a bit).code.length/\(eslow s t i a bit).code.length<=s.code.length+1:=by
 unfold eslow;split
 ·exact eputAt_len _ _ _
 ·exact eputEven_len _ _
theorem elow_len(t x m:Nat):∀(i a:Nat) (s:Es),s.code.length<=(elow t x m i a s).code.length/\(elow t x m i a s).code.length<=s.code.length+m:=by
 induction m with
 | zero=>intro i a s;exact⟨Nat.le_refl _,Nat.le_refl _⟩
 | succ m ih=>
  intro i a s;have h1:=eslow_len s t i a (x/2 ^ m % 2);have h2:=ih (i+1) (2*a+x/2 ^ m % 2) (eslow s t i a (x/2 ^ m % 2));unfold elow;omega
theorem and64(y:Nat)(hy:y<1099511627776):bits BinOp.and IntKind.i64 (y:Int) 1=((y % 2:Nat):Int):=by
 have e1:(BitVec.ofInt 64 (y:Int)).toNat=y:=by rw [BitVec.toNat_ofInt];omega
 have e2:(BitVec.ofInt 64 1).toNat=1:=by rw [BitVec.toNat_ofInt];omega
 have key:(BitVec.ofInt 64 (y:Int) &&& BitVec.ofInt 64 1).toNat=y % 2:=by
  rw [BitVec.toNat_and,e1,e2,Nat.and_one_is_mod]
 show IntKind.i64.wrap ((BitVec.ofInt 64 (y:Int) &&& BitVec.ofInt 64 1).toNat:Nat)=_;rw [key];exact IntWalk.i64_in _ ⟨by omega,by omega⟩
def ELowRel(w:World)(bk g:Nat)(v:Value)(t x n:Nat)(tg:Es)(v9 v16:Value)(wr:World):Prop:=
 ∃(i ahead:Nat) (s:Es) (v1:Value),i<=n/\ahead<2 ^ i/\v9=.int .i64 (ahead:Int)/\v16=.int .i64 (i:Int)/\EbAt wr bk g v1 s/\elow t x (n-i) i ahead s=tg/\s.code.length+(n-i)<=1048575+1 /\
  (∀j,v1.ownBlock=some j->v.ownBlock=some j\/w.heap.size<=j)/\Mod (fun j=>j=g\/j=bk\/v.ownBlock=some j) w wr
theorem ebPutLow(w:World)(bk g:Nat)(v:Value)(s:Es)(t x n:Nat)(ht:t<16)(hn:n<=20)(hx:x<4294967296)(h:EbAt w bk g v s)(hl:s.code.length+n<=1048575+1):
  Calls Tryz.prog 306 #[.pointer (some ⟨bk,t*37,none⟩),.pointer (some ⟨g,0,none⟩),.int .i64 (x:Int),.int .i64 (n:Int)] w (EbPost w bk g v (elow t x n 0 0 s)):=by
 obtain⟨tg,htg⟩:∃tg,tg=elow t x n 0 0 s:=⟨_,rfl⟩
 rw [<-htg];have hbw:=h.bk_.lt;have hgw:=h.enc.blk.lt;have HH:=Lib.hid (And.intro h (And.intro htg hl));clear h htg hl;go_enter Tryz.func306,Tryz.ntmps306;go_wp2_with fail;go_loopw [9,16] (ELowRel w bk g v t x n tg) (fun _ i _=>n-(intOf i).toNat)
 case atStart=>exact⟨0,0,s,v,by omega,by simp,rfl,rfl,HH.out.1,HH.out.2.1.symm,HH.out.2.2,fun j e=>.inl e,Mod.refl _ _⟩
 case round=>
  obtain⟨i,ahead,s1,v1,hi,ha,rfl,rfl,hs,hg,hl1,hf1,hM⟩:=hrel;rename World=>wr
  have ha20:ahead<1048576:=Nat.lt_of_lt_of_le ha (Nat.pow_le_pow_right (n:=2) (by omega) (show i<=20 by omega));by_cases hlt:i<n
  ·have hsz:=hM.size;obtain⟨m,hm⟩:∃m,n-i=m+1:=⟨n-i-1,by omega⟩
   have em:((n:Int)-1-(i:Int))=(m:Int):=by omega
   obtain⟨bt,hbt⟩:∃bt,bt=x/2 ^ m % 2:=⟨_,rfl⟩
   have hb1:bt<=1:=by omega
   have eb:bits BinOp.and IntKind.i64 ((x:Int)/2 ^ m) 1=(bt:Int):=by
    have h1:x/2 ^ m<=x:=Nat.div_le_self _ _;have:=and64 (x/2 ^ m) (by omega);rw [hbt,<-this];congr 1
   have hge:elow t x (n-i) i ahead s1=elow t x (n-(i+1)) (i+1) (2*ahead+bt) (eslow s1 t i ahead bt):=by
    rw [hbt,hm,show n-(i+1)=m by omega];rfl
   rw [hg]at hge;have hs2:=hs.quiet ((Mod.refl (fun _=>False) wr).alloc (.cells #[.int .u16 1024] 354));have hbe:Blk (wr.alloc (.cells #[.int .u16 1024] 354)) wr.heap.size 354 #[.int .u16 1024]:=Blk.new _ _ _;have hM2:=hM.alloc (.cells #[.int .u16 1024] 354);have hlen:=eslow_len s1 t i ahead bt;have hvl:∀j,v1.ownBlock=some j->j<wr.heap.size:=fun j e=>(World.ownsRow.lt hs.enc.own j e).2;have HB:=Lib.hid (And.intro hs2 (And.intro hge (And.intro hl1 (And.intro hf1 (And.intro hM2 (And.intro ha (And.intro hbe (And.intro hbt (And.intro hlen hvl)))))))));clear hs2 hs hg hge hl1 hf1 hM hM2 ha hbe hbt hlen hvl;by_cases h4:i<4
   ·have d4:decide ((i:Int)<4)=true:=decide_eq_true (by omega);have hia:t*37+atIdx i ahead<592:=by
     have:ahead<2 ^ i:=HB.out.2.2.2.2.2.1;have h3:2 ^ i<=8:=Nat.pow_le_pow_right (n:=2) (j:=3) (by omega) (by omega);unfold atIdx;omega
    have HA:=Lib.hid hia;clear hia;go_wp2_with fail;refine(bAt _ bk (t*37) i ahead h4 HB.out.2.2.2.2.2.1).mono ?_;rintro e w2 ⟨rfl,hm2⟩;have G2:=ebPut_at w2 bk g v1 s1 (t*37+atIdx i ahead) bt HA.out hb1 (HB.out.1.quiet hm2) (by have:=HB.out.2.2.1;omega);have HM2:=Lib.hid (And.intro G2 hm2);clear hm2 G2;go_wp2_with fail;refine HM2.out.1.mono ?_;rintro e w3 ⟨v3,rfl,hs3,hf3,hm3⟩;have H3:=Lib.hid (And.intro hs3 (And.intro hf3 (HM2.out.2.mono (S':=fun j=>j=g\/j=bk\/v1.ownBlock=some j) (fun _ h=>h.elim) |>.trans hm3)));have hsz3:=HM2.out.2.size;have HO:=Lib.hid (or64 ahead bt (by omega) hb1);clear hs3 hf3 hm3;go_wp2_with fail;go_roundw
    case rel=>
     have hE:=H3.out.1;refine⟨i+1,2*ahead+bt,eslow s1 t i ahead bt,v3,by omega,by have:=HB.out.2.2.2.2.2.1;rw [Nat.pow_succ];omega,?_,by go_num,by unfold eslow;rw [if_pos h4];exact hE,HB.out.2.1.symm,by have:=HB.out.2.2.1;have:=HB.out.2.2.2.2.2.2.2.2.1;omega,fun j e=>?_,HB.out.2.2.2.2.1.into H3.out.2.2 (fun j e=>?_)⟩
     ·rw [HO.out]
     ·rcases H3.out.2.1 j e with h1|h1
      ·exact HB.out.2.2.2.1 j h1
      ·exact .inr (by first|(simp at hsz3;omega)|(simp at h1;omega))
     ·rcases e with e|e|e
      ·exact .inl (.inl e)
      ·exact .inl (.inr (.inl e))
      ·rcases HB.out.2.2.2.1 j e with h1|h1
       ·exact .inl (.inr (.inr h1))
       ·exact .inr h1
    case measure=>simp [intOf];omega
   ·have d4:decide ((i:Int)<4)=false:=decide_eq_false (by omega);have G2:=ebPut_even (wr.alloc (.cells #[.int .u16 1024] 354)) bk g v1 s1 wr.heap.size bt hb1 (by omega) (by omega) (fun e=>by have:=HB.out.2.2.2.2.2.2.2.2.2 _ e;omega) HB.out.1 (by have:=HB.out.2.2.1;omega) HB.out.2.2.2.2.2.2.1;have HG2:=Lib.hid G2;clear G2;go_wp2_with fail;refine HG2.out.mono ?_;rintro e w3 ⟨v3,rfl,hs3,hf3,hm3⟩;have H3:=Lib.hid (And.intro hs3 (And.intro hf3 hm3));have hsz3:wr.heap.size<=(wr.alloc (.cells #[.int .u16 1024] 354)).heap.size:=by simp
    have HO:=Lib.hid (or64 ahead bt (by omega) hb1);clear hs3 hf3 hm3;go_wp2_with fail;go_roundw
    case rel=>
     have hE:=H3.out.1;refine⟨i+1,2*ahead+bt,eslow s1 t i ahead bt,v3,by omega,by have:=HB.out.2.2.2.2.2.1;rw [Nat.pow_succ];omega,?_,by go_num,by unfold eslow;rw [if_neg h4];exact hE,HB.out.2.1.symm,by have:=HB.out.2.2.1;have:=HB.out.2.2.2.2.2.2.2.2.1;omega,fun j e=>?_,HB.out.2.2.2.2.1.into H3.out.2.2 (fun j e=>?_)⟩
     ·rw [HO.out]
     ·rcases H3.out.2.1 j e with h1|h1
      ·exact HB.out.2.2.2.1 j h1
      ·exact .inr (by first|(simp at hsz3;omega)|(simp at h1;omega))
     ·rcases e with e|e|e
      ·exact .inl (.inl e)
      ·exact .inr (by omega)
      ·rcases HB.out.2.2.2.1 j e with h1|h1
       ·exact .inl (.inr (.inr h1))
       ·exact .inr h1
    case measure=>simp [intOf];omega
  ·obtain rfl:i=n:=by omega
   have HB:=Lib.hid (And.intro hs (And.intro hg (And.intro hf1 hM)));clear hs hg hl1 hf1 hM;go_wp2_with fail;go_ret;refine⟨v1,rfl,?_,HB.out.2.2.1,HB.out.2.2.2⟩;have:=HB.out.2.1;rw [Nat.sub_self]at this;rw [<-this];exact HB.out.1
end Go.Proofs.YtnnpoodcdibpiaaGreatDoor
