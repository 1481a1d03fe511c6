/-
  syntax.Header, syntax.Sequence.
-/
import Derived.Test.YthednemlahioeaaGreatDoorM14
import Derived.Test.YthednemlahioeaaGreatDoorM13
import Derived.Great.BuildSlice
namespace Go.Proofs.YthednemlahioeaaGreatDoor
open Go.RowKit
open List renaming mem_cons→WH,not_mem_nil→Xp,replicate→ZM,length_replicate→XH,getElem?_replicate→Ud,take_of_length_le→Zt,range→Zz
open Nat renaming div_eq_of_lt→VU,le_trans→ZQ,le_refl→ZY,add_mul→Y5,mul_le_mul→Yt,mul_comm→YA
open And renaming intro→Z9
open Lib renaming hid→Z7
open ZI renaming new→Zn
open Int renaming natCast_ediv→Xz
open Go.Proofs.Tryz
set_option maxRecDepth 100000
set_option maxHeartbeats 8000000
def KN(K:Bool)(N Q:Nat):List (Nat × Nat):=[(if K then 1 else 0,1),(N,0),(Q,5)]
def Je(K:Bool)(N Q:Nat):List UInt8:=TA (Hw (KN K N Q))
theorem adv(K:Bool){N Q:Nat}(hN:N<=64)(hQ:Q<=31):∀p∈KN K N Q,jV p:=by
 intro p hp;simp only [KN,WH,Xp,or_false]at hp;rcases hp with rfl|rfl|rfl
 ·cases K<;>exact⟨ZU,ZU,fun _=>by decide⟩
 ·exact⟨show N<=60000 by omega,show 0<=32 by decide,fun h=>absurd (show 0<0 from h) ZU⟩
 ·exact⟨show Q<=60000 by omega,show 5<=32 by decide,fun _=>VU (show Q<2 ^ 5 by omega)⟩
def afm(w:World)(l:List UInt8)(e:Ending)(w':World):Prop:=∃g,e=.returned (.tuple #[↑(ZZ g l.length l.length),↑Z0])/\ZI w' g 5 (Yw l).toArray/\w.heap.size<=g/\Mod ↑ZW w w'
theorem abU(w:World)(K:Bool)(N Q:Nat)(W H G:Int)(hf:Hz K (N:Int) (Q:Int) W H G=true)(hN:N<=64)(hQ:Q<=31):
  Calls prog 149 #[.agg #[.bool K,↑N,↑Q],.agg #[↑W,↑H,↑G]] w (afm w (Je K N Q)):=by
 have M8:=((Sat.nil ↑ZW w).alloc 195 #[.bool K,↑N,↑Q] rfl).alloc (g:=w.heap.size+1) 40 #[↑W,↑H,↑G] Ze;have hw:=fun K' (_:K'=K) (w':World) (fb:Nat) (hb:ZI w' fb 326 (Gh (KN K' N Q)).toArray)=>acK w' fb 326 3 (KN K' N Q) rfl Z8 (adv K' hN hQ) hb;have H0:=Z5 M8 (Z9 (aaG ((w.alloc (.cells #[.bool K,↑N,↑Q] 195)).alloc (.cells #[↑W,↑H,↑G] 40)) K N Q W H G hf) hw);clear M8 hw hf;go_enter func149,ntmps149;go_upto_region 1 with(fail)
 go_wp2_with fail;refine H0.out.2.1.mono ?_;rintro e w1 ⟨rfl,Y6⟩;have XZ:=Z7 (Sat.after Y6 H0.out.1);obtain⟨hc,hfz⟩:=(XZ.out.ZX 1 rfl).both;dsimp only at hc;clear Y6;cases K
 ·go_upto_region 7 with(fail)
  have Px:ZI (w1.alloc (.cells (Gh (KN false N Q)).toArray 326)) w1.heap.size 326 (Gh (KN false N Q)).toArray:=Zn _ _ _;have Me:Mod ↑ZW w1 (w1.alloc (.cells (Gh (KN false N Q)).toArray 326)):=(Mod.refl _ w1).alloc _;have HW:=Z5 (H0.out.2.2 false rfl _ _ Px) (XZ.out.mod.trans Me);clear Px Me hc hfz;go_wp2_with fail;refine HW.out.1.mono ?_;rintro e w2 ⟨n,hn,g,rfl,hb,hg,hm⟩;obtain rfl:n=(Je false N Q).length:=hn;have HF:=Z5 hb (Z9 (ZQ HW.out.2.size hg) (HW.out.2.trans hm));clear hb hg hm;go_wp2_with fail;go_ret2;exact⟨g,rfl,HF.out.1,HF.out.2.1,HF.out.2.2⟩
 ·go_upto_region 7 with(fail)
  have Px:ZI (w1.alloc (.cells (Gh (KN true N Q)).toArray 326)) w1.heap.size 326 (Gh (KN true N Q)).toArray:=Zn _ _ _;have Me:Mod ↑ZW w1 (w1.alloc (.cells (Gh (KN true N Q)).toArray 326)):=(Mod.refl _ w1).alloc _;have HW:=Z5 (H0.out.2.2 true rfl _ _ Px) (XZ.out.mod.trans Me);clear Px Me hc hfz;go_wp2_with fail;refine HW.out.1.mono ?_;rintro e w2 ⟨n,hn,g,rfl,hb,hg,hm⟩;obtain rfl:n=(Je true N Q).length:=hn;have HF:=Z5 hb (Z9 (ZQ HW.out.2.size hg) (HW.out.2.trans hm));clear hb hg hm;go_wp2_with fail;go_ret2;exact⟨g,rfl,HF.out.1,HF.out.2.1,HF.out.2.2⟩
def Gu(q tg G n:Nat):Nat:=if 0<tg then(if 5*(tg/G)<4*n then min (q+1) 31 else if 4*n<3*(tg/G)then q-1 else q)else q
def Ip(nu G:Nat):Nat:=if nu+1<G then nu+1 else 0
def ajS(w:World)(g:Nat)(cs:Array Value)(wr:World):Prop:=ZI wr g 250 cs/\Mod (·=g) w wr
theorem ae2(w:World)(g:Nat)(W H:Int)(G q tg nu n:Nat)(fr:List Value)(hG:1<=G/\G<=64)(hq:q<=31)(ht:tg<=1048576)(hn:n<=2097152)(EU:nu<=64)(h:ZI w g 250 (Ll W H (G:Int) (q:Int) (tg:Int) (nu:Int) fr)):
  Calls prog 156 #[↑(ZC g 0),↑n] w fun e w'=>e=.returned (.tuple #[])/\ZI w' g 250 (Ll W H (G:Int) ((Gu q tg G n:Nat):Int) (tg:Int) ((Ip nu G:Nat):Int) fr)/\Mod (·=g) w w':=by
 obtain⟨hG1,hG2⟩:=hG;obtain⟨Q2,hQ2⟩:=ZL (Gu q tg G n);obtain⟨sh,hsh⟩:=ZL (tg/G);have ako:sh<=1048576:=by rw [hsh];exact ZQ (Nat.div_le_self _ _) ht
 have t1:(tg:Int).tdiv (G:Int)=(sh:Int):=by rw [Int.tdiv_eq_ediv_of_nonneg Z8,hsh];exact(Xz tg G).symm
 have HQ:Hid (Q2=if 0<tg then(if 5*sh<4*n then min (q+1) 31 else if 4*n<3*sh then q-1 else q)else q):=by show _=_;rw [hQ2,hsh];rfl
 rw [<-hQ2];have hG0:((G:Int) == 0)=false:=by simp;omega
 obtain⟨bc,bf⟩:=h.both;have bl:=h.lt;have hc2:w.cell? ⟨g,2,none⟩=some ↑G:=bc 2;have hc3:w.cell? ⟨g,3,none⟩=some ↑q:=bc 3;have JB:w.cell? ⟨g,4,none⟩=some ↑tg:=bc 4;have H0:=Z7 h;clear h hQ2 hsh bc;go_enter func156,ntmps156;go_upto_if 9 with(fail)
 go_cut [] (fun wx=>ajS w g (Ll W H (G:Int) (Q2:Int) (tg:Int) (nu:Int) fr) wx)
 case first=>
  by_cases h0:0<tg
  ·have d0:=Zb (0<(tg:Int));have qW:=Z7 (HQ.out.trans (if_pos h0));go_upto_region 1 with(fail)
   go_quiet (fail)
   have alQ:(w.drewN nq).cell? ⟨g,3,none⟩=some ↑q:=hc3;have bf':∀i,(w.drewN nq).frozen? ⟨g,i,none⟩=false:=bf;have bl':g<(w.drewN nq).heap.size:=bl;have H1:=Z5 (H0.out.drewN nq) ((Mod.refl (fun j=>j=g) w).drewN nq);clear hc2 hc3 JB bf bl;generalize w.drewN nq=w1 at *;by_cases h1:5*sh<4*n
   ·have d1:=Zb (5*(sh:Int)<4*(n:Int));have gK:=Z7 (qW.out.trans (if_pos h1));go_wp2_with fail
    all_goals
     go_meet;refine⟨H1.out.1.put (i:=3) ?_,H1.out.2.setCell (p:=⟨g,3,none⟩) (.inl rfl) _⟩;refine Eq.trans (b:=(Ll W H (G:Int) (q:Int) (tg:Int) (nu:Int) fr).setIfInBounds 3 ↑Q2) (congrArg _ (congrArg (Value.int .i64) ?_)) rfl;rw [gK.out]
     first|omega|(split<;>omega)
   ·have d1:=Za (5*(sh:Int)<4*(n:Int));have gK:=Z7 (qW.out.trans (if_neg h1));by_cases h2:4*n<3*sh
    ·have d2:=Zb (4*(n:Int)<3*(sh:Int));have HQ3:=Z7 (gK.out.trans (if_pos h2));go_wp2_with fail
     all_goals
      go_meet;refine⟨H1.out.1.put (i:=3) ?_,H1.out.2.setCell (p:=⟨g,3,none⟩) (.inl rfl) _⟩;refine Eq.trans (b:=(Ll W H (G:Int) (q:Int) (tg:Int) (nu:Int) fr).setIfInBounds 3 ↑Q2) (congrArg _ (congrArg (Value.int .i64) ?_)) rfl;rw [HQ3.out]
      first|omega|(split<;>omega)
    ·have d2:=Za (4*(n:Int)<3*(sh:Int));have HQ3:=Z7 (gK.out.trans (if_neg h2));go_wp2_with fail;go_meet;exact⟨by rw [HQ3.out];exact H1.out.1,H1.out.2⟩
  ·have d0:=Za (0<(tg:Int));have qW:=Z7 (HQ.out.trans (if_neg h0));go_wp2_with fail;go_meet;exact⟨by rw [qW.out];exact H0.out,Mod.refl _ _⟩
 case rest=>
  clear hc2 hc3 JB bf bl t1;obtain⟨hb,hm⟩:=hcut;rename World=>w2
  obtain⟨bc,bf⟩:=hb.both;have bl:=hb.lt;have sj:w2.cell? ⟨g,5,none⟩=some ↑nu:=bc 5;have wn:IntKind.i64.wrap ((nu:Int)+1)=(nu:Int)+1:=IntWalk.i64_in _ ⟨Z8,Z8⟩;have H2:=Z5 hb hm;clear hb hm bc;go_upto_region 7 with(fail)
  have hb3:=H2.out.1.put (i:=5) (u:=.int .i64 ((nu:Int)+1)) (cs':=Ll W H (G:Int) (Q2:Int) (tg:Int) ((nu:Int)+1) fr) rfl;have X7:=H2.out.2.setCell (p:=⟨g,5,none⟩) (.inl rfl) (.int .i64 ((nu:Int)+1));generalize w2.setCell ⟨g,5,none⟩ (.int .i64 ((nu:Int)+1))=w3 at *;obtain⟨bc3,bf3⟩:=hb3.both;have bl3:=hb3.lt;have hd2:w3.cell? ⟨g,2,none⟩=some ↑G:=bc3 2;have hd5:w3.cell? ⟨g,5,none⟩=some (.int .i64 ((nu:Int)+1)):=bc3 5;have H3:=Z5 hb3 X7;clear hb3 X7 bc3 sj bf bl;go_quiet (fail)
  have bf4:∀i,(w3.drewN nq).frozen? ⟨g,i,none⟩=false:=bf3;have bl4:g<(w3.drewN nq).heap.size:=bl3;have he5:(w3.drewN nq).cell? ⟨g,5,none⟩=some (.int .i64 ((nu:Int)+1)):=hd5;have H4:=Z5 (H3.out.1.drewN nq) (H3.out.2.drewN nq);clear hd2 hd5 bf3 bl3;generalize w3.drewN nq=w4 at *;by_cases h1:nu+1<G
  ·have d1:=Za ((G:Int)<=(nu:Int)+1);have d2:¬G<=nu+1:=Z8;go_wp2_with fail;go_end0
   refine⟨rfl,?_,H4.out.2⟩;unfold Ip;rw [if_pos h1];exact H4.out.1
  ·have d1:=Zb ((G:Int)<=(nu:Int)+1);have d2:G<=nu+1:=Z8;go_wp2_with fail;go_end0
   refine⟨rfl,?_,H4.out.2.setCell (p:=⟨g,5,none⟩) (.inl rfl) _⟩;unfold Ip;rw [if_neg h1];exact H4.out.1.put (i:=5) (u:=↑Z0) rfl
def Rp(q tg:Int):Bool:=decide ((0<=q/\q<=31)/\0<=tg/\tg<=1048576)
def Q3:List Value:=↑yh
def abR(w:World)(W H G q tg:Int)(e:Ending)(w':World):Prop:=
 Mod ↑ZW w w'/\((seqRight W H G=false/\e=.returned (.tuple #[.pointer none,.int .i64 121]))\/(seqRight W H G=true/\Rp q tg=false/\e=.returned (.tuple #[.pointer none,.int .i64 1])) \/
  ∃g,seqRight W H G=true/\Rp q tg=true/\e=.returned (.tuple #[↑(ZC g 0),↑Z0])/\ZI w' g 250 (Ll W H G q tg 0 Q3)/\w.heap.size<=g)
theorem agN(w:World)(W H G q tg:Int):Calls prog 95 #[.agg #[↑W,↑H,↑G],↑q,↑tg] w (abR w W H G q tg):=by
 have hM:Mod ↑ZW w (w.alloc (.cells #[↑W,↑H,↑G] 40)):=(Mod.refl _ _).alloc _;have hb:=Zn w 40 #[↑W,↑H,↑G];have H0:=Z5 hM hb;clear hM hb;cases hr:seqRight W H G with
 | false=>
  have HR:=Z7 hr;clear hr;go_enter func95,ntmps95;go_wp2_with fail;refine YX (FT _ W H G HR.out) fun w1 hm=>?_;have H1:=Z7 (H0.out.1.trans hm);clear hm;go_wp2_with fail;go_ret2;exact⟨H1.out,.inl ⟨HR.out,rfl⟩⟩
 | true=>
  have HR:=Z7 hr;clear hr;by_cases ha:Rp q tg=true
  ·have ha2:=of_decide_eq_true ha;have d1:=Za (q<0);have d2:=Za (31<q);have d3:=Za (tg<0);have d4:=Za (1048576<tg);have HA:=Z7 ha;clear ha ha2;go_enter func95,ntmps95;go_wp2_with fail;refine YX (Pe _ W H G HR.out) fun w1 hm=>?_;have hb1:=H0.out.2.keep hm (fun h=>h);obtain⟨bc,bf⟩:=hb1.both;have H1:=Z7 (H0.out.1.trans hm);clear hm hb1;go_wp2_with fail;go_ret2;exact⟨H1.out.alloc _,.inr (.inr ⟨_,HR.out,HA.out,rfl,Zn _ _ _,H1.out.size⟩)⟩
  ·have ha2:¬((0<=q/\q<=31)/\0<=tg/\tg<=1048576):=fun h=>ha (decide_eq_true h);have KM:q<0\/(0<=q/\31<q)\/(0<=q/\q<=31/\tg<0)\/(0<=q/\q<=31/\0<=tg/\1048576<tg):=Z8;have HA:=Z7 (show Rp q tg=false by simpa using ha);clear ha ha2;rcases KM with h|⟨h,h2⟩|⟨h,h2,h3⟩|⟨h,h2,h3,h4⟩
   all_goals
    have d1:decide (q<0)=decide (q<0):=rfl;go_enter func95,ntmps95;go_wp2_with fail;refine YX (Pe _ W H G HR.out) fun w1 hm=>?_;have H1:=Z7 (H0.out.1.trans hm);clear hm;go_wp2_with fail;go_ret2;exact⟨H1.out,.inr (.inl ⟨HR.out,HA.out,rfl⟩)⟩
theorem OZ(w:World)(a0 a1 a3 a4 a6 a7:Int)(A B C:Option Addr)(n0 c0 n1 c1 n2 c2:Nat):
  Calls prog 150 #[.agg #[↑a0,↑a1,.slice A n0 c0,↑a3,↑a4,.slice B n1 c1,↑a6,↑a7,.slice C n2 c2]] w fun e w'=>
   e=.returned (.agg #[↑a0,↑a1,.slice A n0 c0,↑a3,↑a4,.slice B n1 c1,↑a6,↑a7,.slice C n2 c2])/\Mod ↑ZW w w':=by
 go_enter func150,ntmps150;go_wp2_with fail
 first
 | exact bodyPost_ret (v:=.agg #[↑a0,↑a1,.slice A n0 c0,↑a3,↑a4,.slice B n1 c1,↑a6,↑a7,.slice C n2 c2]) (by simp [results,results150,go_sem]) rfl ⟨rfl,((Mod.refl _ _).alloc _).alloc _⟩
 | (go_ret;exact⟨rfl,(Mod.refl _ _).alloc _⟩)
 | (go_ret;exact⟨rfl,Mod.refl _ _⟩)
theorem agT(w:World)(g:Nat)(v:Value)(code:List UInt8)(wide:Nat)(h:vT w g v code wide)(hl:code.length<=1048576):
  Calls prog 155 #[↑(ZC g 0)] w fun e w'=>∃A n,e=.returned (.slice A n n)/\BytesIn w' A n n code/\Mod ↑ZW w w':=by
 obtain⟨r,k,rfl,hrg⟩:=h.shape;obtain⟨bc,bf⟩:=h.blk.both;obtain⟨n,hn⟩:=ZL (code.length);have YZ:=h.own.RU;have hEB:=lg w g _ code wide h;rw [<-hn]at YZ bc hl;have H:=Z5 YZ (Z9 hEB hn);clear YZ hEB hn h;go_enter func155,ntmps155;go_wp2_with fail;refine H.out.2.1.mono ?_;rintro e w1 ⟨rfl,rfl⟩;go_wp2_with (at_builtin;have _t:=H;refine VJ _ rfl _ (.tmp 11) rfl w.heap.size ↑Zd [] _ n k code rfl rfl (Bytes.nil _ _) H.out.1 (ZY _) (by simp;omega) ?_;intro v1 w1 hown1 NI Pp hF;obtain⟨A1,c1,Gr⟩:=ZG hown1;obtain⟨m1,Y6⟩:=ZL (([]++code).length);rw [<-Y6]at Gr;subst Gr;have KL:=hown1.cap;have HO:=Z5 hown1 (Z9 (Pp w ↑ZW (ZY _) (Mod.refl _ _)) Y6);clear hown1 NI Pp hF Y6)
 go_ret;have hi:=HO.out.1.RU;exact⟨A1,m1,rfl,⟨hi.1,fun e=>by have:=hi.2.1 e;omega,hi.2.2⟩,HO.out.2.1⟩
def SY(k:Nat):List Nat:=ZM k 1024++ZM (37-k) 0
theorem Gg(k:Nat)(h:k<37):(UJ (SY k)).set k (.int .u16 1024)=UJ (SY (k+1)):=by
 apply List.ext_getElem
 ·simp [UJ,SY];omega
 ·intro i h1 h2;have hi:i<37:=by simp [UJ,SY]at h2;omega
  rw [List.getElem_set];by_cases e:k=i
  ·subst e;simp [UJ,SY]
  ·rw [if_neg e];simp only [UJ,List.getElem_map,SY,List.getElem_append,XH,List.getElem_replicate];split<;>split<;>first|rfl|omega
theorem Df(k:Nat)(h:k<37):(UJ (SY k)).toArray[k]?=some (.int .u16 0):=by
 have h1:(SY k)[k]?=some 0:=by
  unfold SY;rw [List.getElem?_append_right Ze,XH,Nat.sub_self,Ud,VI]
 simp [UJ,h1]
def ajW(w:World)(c:Nat)(v:Value)(wr:World):Prop:=∃k:Nat,k<=20/\v=↑k/\ZI wr c 332 (UJ (SY k)).toArray/\Mod ↑ZW w wr
def ajV(w:World)(c:Nat)(v:Value)(wr:World):Prop:=∃k:Nat,k<=16/\v=↑k/\ZI wr c 332 (UJ (SY (20+k))).toArray/\Mod ↑ZW w wr
def RG(k:Nat):List Nat:=ZM (k*37) 1024++ZM (592-k*37) 0
theorem Hq(k:Nat)(h:k<=16):(RG k).length=592:=by simp [RG];omega
theorem acr(k:Nat)(h:k<16):splice (UJ (RG k)) (k*37) (UJ (SY 37))=UJ (RG (k+1)):=by
 have h1:UJ (SY 37)=ZM 37 (.int .u16 1024):=by simp [UJ,SY]
 have h2:∀k,UJ (RG k)=ZM (k*37) (.int .u16 1024)++ZM (592-k*37) (.int .u16 0):=fun k=>by simp [UJ,RG]
 rw [h1,h2,h2];unfold splice;rw [List.take_append_of_le_length Ze,Zt Ze,List.drop_append,List.drop_eq_nil_of_le Ze,List.nil_append,List.drop_replicate,<-List.append_assoc,List.replicate_append_replicate];congr 1
 ·congr 1;omega
 ·congr 1;simp;omega
def ajU(w:World)(c b:Nat)(v:Value)(wr:World):Prop:=∃k:Nat,k<=16/\v=↑k/\ZI wr b 335 (UJ (RG k)).toArray/\ZI wr c 332 (UJ (SY 37)).toArray/\Mod ↑ZW w wr
theorem agZ(l:List Nat):∀v∈UJ l,v.oneCell'=true:=fun v hv=>by
 obtain⟨x,_,rfl⟩:=List.mem_map.1 hv;rfl
theorem kT(w:World):Calls prog 151 #[] w fun e w'=>∃b,e=.returned ↑(ZC b 0)/\ZI w' b 335 (UJ (RG 16)).toArray/\w.heap.size<=b/\Mod ↑ZW w w':=by
 have hz:zeroCells335=(UJ (RG 0)).toArray:=ZR;have HZ:=Z7 hz;clear hz;have hb0:ZI (w.alloc (.cells (UJ (SY 0)).toArray 332)) w.heap.size 332 (UJ (SY 0)).toArray:=Zn _ _ _;have m0:Mod ↑ZW w (w.alloc (.cells (UJ (SY 0)).toArray 332)):=(Mod.refl _ _).alloc _;have HM:=Z5 hb0 m0;clear hb0 m0;go_enter func151,ntmps151;go_upto_region 2 with(fail)
 rw [show w.alloc (.cells #[.int .u16 0,.int .u16 0,.int .u16 0,.int .u16 0,.int .u16 0,.int .u16 0,.int .u16 0,.int .u16 0,.int .u16 0,.int .u16 0,.int .u16 0,.int .u16 0,.int .u16 0,.int .u16 0,.int .u16 0,.int .u16 0,.int .u16 0,.int .u16 0,.int .u16 0,.int .u16 0,.int .u16 0,.int .u16 0,.int .u16 0,.int .u16 0,.int .u16 0,.int .u16 0,.int .u16 0,.int .u16 0,.int .u16 0,.int .u16 0,.int .u16 0,.int .u16 0,.int .u16 0,.int .u16 0,.int .u16 0,.int .u16 0,.int .u16 0] 332)=w.alloc (.cells (UJ (SY 0)).toArray 332)from rfl];generalize sK:w.alloc (.cells (UJ (SY 0)).toArray 332)=w1 at *;go_wp2_with fail;go_loopw [6] (ajW w w.heap.size) (fun i _=>20-(intOf i).toNat)
 case atStart=>exact⟨0,Z8,rfl,HM.out.1,HM.out.2⟩
 case round=>
  obtain⟨k,hk,rfl,hb,hM⟩:=hrel;by_cases hlt:k<20
  ·have d1:=Zb ((k:Int)<20);have p0:(0:Int)<=(k:Int):=Z8;have p1:(k:Int)<20:=Z8;have ck:wr.cell? ⟨w.heap.size,k,none⟩=some (.int .u16 0):=(hb.cell k).trans (Df k Z8);have fk:=hb.frozen k;have hl:=hb.lt;have HB:=Z5 hb hM;clear hb hM;go_wp2_with fail;go_roundw
   case rel=>exact⟨k+1,Z8,Zr,HB.out.1.put (by simpa using Gg k Z8),HB.out.2.setCell (.inr (ZY _)) _⟩
   case measure=>exact YD
  ·obtain rfl:k=20:=Z8;have HB:=Z5 hb hM;clear hb hM;go_wp2_with fail;go_loopw [13] (ajV w w.heap.size) (fun i _=>16-(intOf i).toNat)
   case atStart=>exact⟨0,Z8,rfl,HB.out.1,HB.out.2⟩
   case round=>
    clear HB;obtain⟨k,hk,rfl,hb,hM⟩:=hrel;by_cases hlt:k<16
    ·have d1:=Zb ((k:Int)<16);have p0:(0:Int)<=(k:Int):=Z8;have p1:(k:Int)<16:=Z8;have ck:wr.cell? ⟨w.heap.size,20+k,none⟩=some (.int .u16 0):=(hb.cell (20+k)).trans (Df (20+k) Z8);have fk:=hb.frozen (20+k);have hl:=hb.lt;have HB:=Z5 hb hM;clear hb hM;go_wp2_with fail;go_roundw
     case rel=>exact⟨k+1,Z8,Zr,HB.out.1.put (by rw [<-Nat.add_assoc];simpa using Gg (20+k) Z8),HB.out.2.setCell (.inr (ZY _)) _⟩
     case measure=>exact YD
    ·obtain rfl:k=16:=Z8;have ck:wr.cell? ⟨w.heap.size,36,none⟩=some (.int .u16 0):=by rw [hb.cell];rfl
     have fk:=hb.frozen 36;have hl:=hb.lt;have hb2:ZI (wr.setCell ⟨w.heap.size,36,none⟩ (.int .u16 1024)) w.heap.size 332 (UJ (SY 37)).toArray:=hb.put (by simpa using Gg 36 Z8);have RZ:Mod ↑ZW w (wr.setCell ⟨w.heap.size,36,none⟩ (.int .u16 1024)):=hM.setCell (.inr (ZY _)) _;have HB:=Z5 hb2 RZ;clear hb hM hb2 RZ;go_upto_region 13 with(fail)
     clear ck fk hl;generalize wr.setCell ⟨w.heap.size,36,none⟩ (.int .u16 1024)=w2 at *;go_upto_region 14 with(fail)
     rw [HZ.out];have hb3:ZI (w2.alloc (.cells (UJ (RG 0)).toArray 335)) w2.heap.size 335 (UJ (RG 0)).toArray:=Zn _ _ _;have hc3:=HB.out.1.alloc (.cells (UJ (RG 0)).toArray 335);have JA:=HB.out.2.alloc (.cells (UJ (RG 0)).toArray 335);have hs2:=HB.out.2.size;have SB:=HB.out.1.lt;generalize UQ:w2.heap.size=bk at *;generalize w2.alloc (.cells (UJ (RG 0)).toArray 335)=w3 at *;have Kl:=Z5 hb3 (Z9 hc3 JA);clear hb3 hc3 JA HB UQ;obtain⟨ch,hch⟩:=ZL (w.heap.size);rw [<-hch]at Kl SB ⊢;clear HM;have HCH:=Z7 hch;clear hch;go_wp2_with fail;go_loopw [23] (ajU w ch bk) (fun i _=>16-(intOf i).toNat)
     case atStart=>exact⟨0,Z8,rfl,Kl.out.1,Kl.out.2.1,Kl.out.2.2⟩
     case round=>
      clear Kl;obtain⟨k,hk,rfl,hb,hc,hM⟩:=hrel;by_cases hlt:k<16
      ·have d1:=Zb ((k:Int)<16);have p0:(0:Int)<=(k:Int):=Z8;have p1:(k:Int)<16:=Z8;have HB:=Z5 hb (Z9 hc hM);clear hb hc hM;go_upto_region 17 with(fail)
       refine wp_region_still_tail 6 ZR ZR ?_;simp only [List.take_succ_cons,List.take_zero,List.drop_succ_cons,List.drop_zero];repeat(first|(refine aad rfl 332 (.tmp 1) rfl ch rfl 332 (UJ (SY 37)).toArray _ HB.out.2.1 underlying332 rfl ZR ?_)|still_step)
       refine wpStill_nil ?_;change wpList _ _ _ _ _ wr.drew;refine WR rfl 332 (.tmp 31) (.tmp 28) rfl bk (k*37) (UJ (SY 37)) rfl rfl 335 (UJ (RG k)) HB.out.1 ZR (by simp [UJ,SY,RG];omega) (agZ _) ?_;intro w5 Ut UR;rw [acr k hlt]at Ut;have sj:=HB.out.2.1.keep (w:=wr.drew) UR Z8;have RO:Mod ↑ZW w w5:=(HB.out.2.2.drew).into UR (fun i e=>.inr Z8);have GH:=Z5 Ut (Z9 sj RO);clear Ut sj RO UR;go_wp2_with fail;go_roundw
       case rel=>((repeat apply Exists.intro);exact⟨⟨k+1,Z8,Zr,GH.out.1,GH.out.2.1,GH.out.2.2⟩,rfl⟩)
       case measure=>exact YD
      ·obtain rfl:k=16:=Z8;have HB:=Z5 hb hM;clear hb hc hM;go_wp2_with fail;go_ret;exact⟨bk,rfl,HB.out.1,hs2,HB.out.2⟩
theorem wR{w:World}{p:Nat}{a b c d e f g h i:Value}(hb:ZI w p 58 #[a,b,c,d,e,f,g,h,i]):w.cell? ↑p=some a/\w.cell? ⟨p,1,none⟩=some b/\w.cell? ⟨p,2,none⟩=some c/\w.cell? ⟨p,3,none⟩=some d/\w.cell? ⟨p,4,none⟩=some e/\w.cell? ⟨p,5,none⟩=some f/\w.cell? ⟨p,6,none⟩=some g/\w.cell? ⟨p,7,none⟩=some h/\w.cell? ⟨p,8,none⟩=some i:=
 ⟨hb.cell 0,hb.cell 1,hb.cell 2,hb.cell 3,hb.cell 4,hb.cell 5,hb.cell 6,hb.cell 7,hb.cell 8⟩
theorem ahZ(w:World)(d:Yz)(hd:d.Ok)(gy gu gv:Nat)(f:Yy)(hf:WN w d gy gu gv f):Calls prog 157 #[.agg (YF d gy gu gv).toArray] w fun e w'=>∃p,e=.returned p/\Qn w d f p w'/\Mod ↑ZW w w':=by
 unfold YF;have HD:=Z5 hd hf;clear hd hf;have HS:=((((Sat.nil ↑ZW w).alloc 58 #[↑d.W,↑d.H,↑(ZZ gy d.nY d.nY),↑d.W2,↑d.H2,↑(ZZ gu d.nC d.nC),↑d.W2,↑d.H2,↑(ZZ gv d.nC d.nC)] rfl).alloc (g:=w.heap.size+1) 58 ↑WK Ze)).drew;have x0:=HS.ZX 1 rfl;dsimp only at x0;go_enter func157,ntmps157;go_wp2_with fail;obtain⟨fb,Px⟩:=ZL (w.heap.size);rw [<-Px]at x0 HS ⊢;obtain⟨res,hres⟩:=ZL (fb+1);rw [<-hres]at HS ⊢;have n1:fb≠res:=Z8;clear Px hres;go_region_held3 (fun w'=>w'.cell? ⟨fb,0,none⟩=some ↑d.W/\w'.cell? ⟨fb,1,none⟩=some ↑d.H/\w'.cell? ⟨fb,2,none⟩=some ↑(ZZ gy d.nY d.nY)/\w'.cell? ⟨fb,3,none⟩=some ↑d.W2/\w'.cell? ⟨fb,4,none⟩=some ↑d.H2/\w'.cell? ⟨fb,5,none⟩=some ↑(ZZ gu d.nC d.nC)/\w'.cell? ⟨fb,6,none⟩=some ↑d.W2/\w'.cell? ⟨fb,7,none⟩=some ↑d.H2/\w'.cell? ⟨fb,8,none⟩=some ↑(ZZ gv d.nC d.nC)) (first|with_reducible exact wR x0|exact wR (by repeat' (first|with_reducible exact x0|with_reducible refine ZI.far ?_ n1 _))) (first|(go_at_call 218;(with_reducible refine(bR _ d.W d.H (some ↑gy) d.nY d.nY f.Y HD.out.1.zZ (UF (HD.out.2.quiet HS.mod).Ff HD.out.2.ly HD.out.1.zZ)).mono ?_);rintro e w2 ⟨g1,rfl,hb1,hg1,Y6⟩;have HS:=Sat.grew Y6 HS hb1 hg1;have x0:=x0.keep Y6 (fun h=>h);clear hb1 hg1 Y6)|(go_at_call 218;(with_reducible refine(bR _ d.W2 d.H2 (some ↑gu) d.nC d.nC f.U HD.out.1.Lt (UF (HD.out.2.quiet HS.mod).bu HD.out.2.lu HD.out.1.Lt)).mono ?_);rintro e w3 ⟨g2,rfl,hb1,hg1,Y6⟩;have HS:=Sat.grew Y6 HS hb1 hg1;have x0:=x0.keep Y6 (fun h=>h);clear hb1 hg1 Y6)|(go_at_call 218;(with_reducible refine(bR _ d.W2 d.H2 (some ↑gv) d.nC d.nC f.V HD.out.1.Lt (UF (HD.out.2.quiet HS.mod).bv HD.out.2.lv HD.out.1.Lt)).mono ?_);rintro e w4 ⟨g3,rfl,hb1,hg1,Y6⟩;have HS:=Sat.grew Y6 HS hb1 hg1;have x0:=x0.keep Y6 (fun h=>h);clear hb1 hg1 Y6;obtain⟨rc,rf⟩:=(HS.ZX 3 rfl).both))
 have HE:=(((((((((HS).put (g:=res) (i:=0) (u:=↑d.W) (.there (.there (.there (.here rfl))))).put (g:=res) (i:=1) (u:=↑d.H) (.there (.there (.there (.here rfl))))).put (g:=res) (i:=2) (u:=↑(ZZ g1 d.nY d.nY)) (.there (.there (.there (.here rfl))))).put (g:=res) (i:=3) (u:=↑d.W2) (.there (.there (.there (.here rfl))))).put (g:=res) (i:=4) (u:=↑d.H2) (.there (.there (.there (.here rfl))))).put (g:=res) (i:=5) (u:=↑(ZZ g2 d.nC d.nC)) (.there (.there (.there (.here rfl))))).put (g:=res) (i:=6) (u:=↑d.W2) (.there (.there (.there (.here rfl))))).put (g:=res) (i:=7) (u:=↑d.H2) (.there (.there (.there (.here rfl))))).put (g:=res) (i:=8) (u:=↑(ZZ g3 d.nC d.nC)) (.there (.there (.there (.here rfl))));clear x0;have h1:=HE.ZX 2 rfl;have h2:=HE.ZX 1 rfl;have h3:=HE.ZX 0 rfl;dsimp only at h1 h2 h3;have l1:w.heap.size<=g1:=HE.low 2 rfl;have l2:w.heap.size<=g2:=HE.low 1 rfl;have l3:w.heap.size<=g3:=HE.low 0 rfl;have a12:g2≠g1:=HE.apart 1 2 rfl rfl Z8;have a13:g3≠g1:=HE.apart 0 2 rfl rfl Z8;have a23:g3≠g2:=HE.apart 0 1 rfl rfl Z8;have HM:=HE.mod;clear HE HS;go_wp2_with fail;refine bodyPost_ret (v:=.agg (YF d g1 g2 g3).toArray) (by simp [results,results157,go_sem,rc,YF]) rfl ⟨_,rfl,⟨g1,g2,g3,rfl,?_,l1,l2,l3⟩,HM⟩;exact⟨h1,h2,h3,HD.out.2.ly,HD.out.2.lu,HD.out.2.lv,a12.symm,a13.symm,a23.symm⟩
def Nl(d:Yz)(fr Y7:Yy)(K:Bool)(Q:Int)(sy:Nat):Nat->Yy × Es->Yy × Es
 | 0,a=>a
 | n+1,a=>RD d fr Y7 K Q n sy (Nl d fr Y7 K Q sy n a).1 (Nl d fr Y7 K Q sy n a).2
def Uv(d:Yz)(fr Y7:Yy)(K:Bool)(Q:Int):Nat->Yy × Es->Yy × Es
 | 0,a=>a
 | n+1,a=>Nl d fr Y7 K Q n (d.W/16) (Uv d fr Y7 K Q n a)
def es0:Es:=⟨RG 16,[0,0,0,0],4294967295⟩
def Da(d:Yz)(fr Y7:Yy)(K:Bool)(Q:Int):Yy × Es:=Uv d fr Y7 K Q (d.H/16) (YC d 0,es0)
def Uy(d:Yz)(fr Y7:Yy)(nu q:Nat):List UInt8 × Yy:=
 (Je (nu == 0) nu q++(Da d fr Y7 (nu == 0) (q:Int)).2.code,FO q d (Da d fr Y7 (nu == 0) (q:Int)).1)
theorem Dc{d:Yz}{fr Y7:Yy}{K:Bool}{Q:Int}(hq:0<=Q/\Q<=31)(sy n:Nat)(a:Yy × Es):a.2.code.length<=(Nl d fr Y7 K Q sy n a).2.code.length/\(Nl d fr Y7 K Q sy n a).2.code.length<=a.2.code.length+n*16500:=by
 induction n with
 | zero=>exact⟨ZY _,by simp [Nl]⟩
 | succ n ih=>
  have:=aaw (d:=d) (fr:=fr) (Y7:=Y7) (K:=K) hq n sy (Nl d fr Y7 K Q sy n a).1 (Nl d fr Y7 K Q sy n a).2;unfold Nl;rw [Y5];omega
theorem Gd{d:Yz}{fr Y7:Yy}{K:Bool}{Q:Int}(hq:0<=Q/\Q<=31)(n:Nat)(a:Yy × Es):a.2.code.length<=(Uv d fr Y7 K Q n a).2.code.length/\(Uv d fr Y7 K Q n a).2.code.length<=a.2.code.length+n*(d.W/16*16500):=by
 induction n with
 | zero=>exact⟨ZY _,by simp [Uv]⟩
 | succ n ih=>
  have:=Dc (d:=d) (fr:=fr) (Y7:=Y7) (K:=K) hq n (d.W/16) (Uv d fr Y7 K Q n a);unfold Uv;rw [Y5];omega
def NG(d:Yz)(A0 A1 A2:Option Addr)(c0 c1 c2:Nat):List Value:=
 [↑d.W,↑d.H,.slice A0 d.nY c0,↑d.W2,↑d.H2,.slice A1 d.nC c1,↑d.W2,↑d.H2,.slice A2 d.nC c2]
theorem aeA(w:World)(d:Yz)(hd:d.Ok):Calls prog 46 #[↑d.W,↑d.H,.int .u8 0] w (Ak w d 0):=ow w d hd 0
theorem Qg{w:World}{p:Nat}{x0 x1 x2 x3 x4 x5 x6 x7 x8:Value}(h:ZI w p 58 #[x0,x1,x2,x3,x4,x5,x6,x7,x8])(a b c d e f g i j:Value):
  ZI (((((((((w.setCell ↑p a).setCell ⟨p,1,none⟩ b).setCell ⟨p,2,none⟩ c).setCell ⟨p,3,none⟩ d).setCell ⟨p,4,none⟩ e).setCell ⟨p,5,none⟩ f).setCell ⟨p,6,none⟩ g).setCell ⟨p,7,none⟩ i).setCell ⟨p,8,none⟩ j) p 58 #[a,b,c,d,e,f,g,i,j] /\
  Mod (·=p) w (((((((((w.setCell ↑p a).setCell ⟨p,1,none⟩ b).setCell ⟨p,2,none⟩ c).setCell ⟨p,3,none⟩ d).setCell ⟨p,4,none⟩ e).setCell ⟨p,5,none⟩ f).setCell ⟨p,6,none⟩ g).setCell ⟨p,7,none⟩ i).setCell ⟨p,8,none⟩ j):=by
 refine⟨?_,(((((((((Mod.refl (·=p) w).setCell (.inl rfl) a).setCell (.inl rfl) b).setCell (.inl rfl) c).setCell (.inl rfl) d).setCell (.inl rfl) e).setCell (.inl rfl) f).setCell (.inl rfl) g).setCell (.inl rfl) i).setCell (.inl rfl) j⟩;have z:=((((((((h.UY 0 a).UY 1 b).UY 2 c).UY 3 d).UY 4 e).UY 5 f).UY 6 g).UY 7 i).UY 8 j;rwa [show(((((((((#[x0,x1,x2,x3,x4,x5,x6,x7,x8].setIfInBounds 0 a).setIfInBounds 1 b).setIfInBounds 2 c).setIfInBounds 3 d).setIfInBounds 4 e).setIfInBounds 5 f).setIfInBounds 6 g).setIfInBounds 7 i).setIfInBounds 8 j)=#[a,b,c,d,e,f,g,i,j]by simp]at z
structure yO(w:World)(g fb bb:Nat)(E F B:Array Value):Prop where
 x:ZI w g 250 E
 f:ZI w fb 58 F
 b:ZI w bb 58 B
section
variable {w w' : World} {g fb bb : Nat} {E F B : Array Value}
theorem yO.quiet(h:yO w g fb bb E F B)(hm:Mod ↑ZW w w'):yO w' g fb bb E F B:=⟨h.x.keep hm (fun h=>h),h.f.keep hm (fun h=>h),h.b.keep hm (fun h=>h)⟩
theorem yO.drew(h:yO w g fb bb E F B):yO w.drew g fb bb E F B:=h.quiet ((Mod.refl _ w).drew)
theorem yO.alloc(h:yO w g fb bb E F B)(o:Obj):yO (w.alloc o) g fb bb E F B:=h.quiet ((Mod.refl _ w).alloc o)
theorem yO.far{q:Nat}(h:yO w g fb bb E F B)(i:Nat)(v:Value)(h1:g≠q)(h2:fb≠q)(h3:bb≠q):yO (w.setCell ⟨q,i,none⟩ v) g fb bb E F B:=⟨h.x.far h1 _,h.f.far h2 _,h.b.far h3 _⟩
end
def bX(w3:World)(bb:Nat)(K:Bool)(Q:Int)(d:Yz)(fl al:List Value)(gy gu gv:Nat)(v11:Value)(wr:World):Prop:=
 ∃cb bk g2 v,v11=↑(ZC cb 0)/\CW w3 wr cb bk g2 v K Q d fl al gy gu gv (YC d 0) es0/\ZI wr bb 58 (YF d gy gu gv).toArray
def qP(w:World)(g:Nat)(G q tg nu:Nat)(d:Yz)(r:List UInt8 × Yy)(e:Ending)(w':World):Prop:=
 ∃v p ay au av,e=.returned (.tuple #[v,p,↑Z0])/\Bytes w' w.heap.size v r.1/\Qn w d r.2 p w' /\
  ZI w' g 250 (Ll (d.W:Int) (d.H:Int) (G:Int) ((Gu q tg G r.1.length:Nat):Int) (tg:Int) ((Ip nu G:Nat):Int) (YF d ay au av)) /\
  WN w' d ay au av r.2/\(w.heap.size<=ay/\w.heap.size<=au/\w.heap.size<=av)/\(∀j,v.ownBlock=some j->j≠ay/\j≠au/\j≠av)/\Mod (·=g) w w'
theorem rW:∀i,i<592->WJ ((RG 16).getD i 0)=true:=by
 intro i hi;have:RG 16=ZM 592 1024:=by
  show ZM 592 1024++ZM 0 0=_;rw [List.replicate_zero,List.append_nil]
 rw [this,List.getD_eq_getElem?_getD,Ud,if_pos hi];rfl
theorem Ga{w3 w5 w7 w9:World}{cb bk g2 gy gu gv bb:Nat}{v:Value}{K:Bool}{Q:Int}{d:Yz}{fl al:List Value}(h35:Mod ↑ZW w3 w5)(h57:Mod ↑ZW w5 w7)(h79:Mod (·=cb) w7 w9)
  {Z:Array Value}(hz:ZI w7 cb 258 Z)(h9:ZI w9 cb 258 (Li K Q fl al (YF d gy gu gv) bk g2))(lcb:w5.heap.size<=cb)(UQ:ZI w7 bk 335 (UJ (RG 16)).toArray)(yF:w5.heap.size<=bk)
  (GK:vT w7 g2 v [0,0,0,0] 4294967295)(yG:w5.heap.size<=g2)(zV:∀j,v.ownBlock=some j->w5.heap.size<=j)(Ia:WN w5 d gy gu gv (YC d 0))(l1:w3.heap.size<=gy)(l2:w3.heap.size<=gu)(l3:w3.heap.size<=gv)
  (N8:ZI w5 bb 58 (YF d gy gu gv).toArray):bX w3 bb K Q d fl al gy gu gv ↑(ZC cb 0) w9:=by
 have s35:=h35.size;have a1:=Ia.Ff.lt;have a2:=Ia.bu.lt;have a3:=Ia.bv.lt;have a4:=N8.lt;have n1:¬bk=cb:=UQ.SL hz ZU;have n2:¬g2=cb:=GK.blk.SL hz ZU;refine⟨cb,bk,g2,v,rfl,⟨(h35.trans h57).into h79 (fun i e=>.inr Z8),⟨UQ.keep h79 n1,Hq 16 (ZY _),rW,⟨GK.blk.keep h79 n2,GK.own.mod h79 (fun j e e2=>SH GK.own hz ZU (e2▸e)),GK.four,GK.lo,GK.hi⟩⟩,h9,(Ia.quiet h57).mod h79 Z8 Z8 Z8,Z8,Z8,Z8,l1,l2,l3,fun j hj=>by have:=zV j hj;omega⟩,(N8.keep h57 (fun h=>h)).keep h79 Z8⟩
theorem aeV(d:Yz)(A0 A1 A2:Option Addr)(c0 c1 c2:Nat):(NG d A0 A1 A2 c0 c1 c2).length=9:=rfl
def afF(w3:World)(bb cb bk g2:Nat)(K:Bool)(Q:Int)(d:Yz)(fl al:List Value)(gy gu gv:Nat)(fr Y7:Yy)(nh:Nat)(akb:Value)(wr:World):Prop:=
 ∃(i:Nat) (v:Value),i<=nh/\akb=↑i/\CW w3 wr cb bk g2 v K Q d fl al gy gu gv (Uv d fr Y7 K Q i (YC d 0,es0)).1 (Uv d fr Y7 K Q i (YC d 0,es0)).2/\ZI wr bb 58 (YF d gy gu gv).toArray
def ahA(w3:World)(bb cb bk g2:Nat)(K:Bool)(Q:Int)(d:Yz)(fl al:List Value)(gy gu gv:Nat)(fr Y7:Yy)(nw sy:Nat)(aka:Value)(wr:World):Prop:=
 ∃(j:Nat) (v:Value),j<=nw/\aka=↑j/\CW w3 wr cb bk g2 v K Q d fl al gy gu gv (Nl d fr Y7 K Q sy j (Uv d fr Y7 K Q sy (YC d 0,es0))).1 (Nl d fr Y7 K Q sy j (Uv d fr Y7 K Q sy (YC d 0,es0))).2/\ZI wr bb 58 (YF d gy gu gv).toArray
theorem agP{w3 wj:World}{cb bk g2:Nat}{v:Value}{K:Bool}{Q:Int}{d:Yz}{fl al:List Value}{gy gu gv:Nat}{fr Y7:Yy}{sx sy:Nat}(ho:Old w3 d K Q fl fr al Y7)
  (h:CW w3 wj cb bk g2 v K Q d fl al gy gu gv (Nl d fr Y7 K Q sy sx (Uv d fr Y7 K Q sy (YC d 0,es0))).1 (Nl d fr Y7 K Q sy sx (Uv d fr Y7 K Q sy (YC d 0,es0))).2)
  (vQ:sx<d.W/16)(vR:sy<d.H/16)(hW:d.W<=64)(hH:d.H<=64):
  Calls prog 153 #[↑(ZC cb 0),↑sx,↑sy] wj (yK w3 wj cb bk g2 K Q d fl al gy gu gv (Nl d fr Y7 K Q sy (sx+1) (Uv d fr Y7 K Q sy (YC d 0,es0)))):=by
 have h1:=Gd (d:=d) (fr:=fr) (Y7:=Y7) (K:=K) ho.q sy (YC d 0,es0);have h2:=Dc (d:=d) (fr:=fr) (Y7:=Y7) (K:=K) ho.q sy sx (Uv d fr Y7 K Q sy (YC d 0,es0));have h3:sy*(d.W/16*16500)<=3*(4*16500):=Yt Z8 (Yt Z8 (ZY _));have h4:es0.code.length=4:=rfl;exact ae6 w3 wj cb bk g2 v K Q d fl fr al Y7 gy gu gv _ _ ho h sx sy Z8 Z8 (by dsimp only at h1;omega)
theorem AP{d:Yz}{fr Y7:Yy}{K:Bool}{Q:Int}(hq:0<=Q/\Q<=31)(hW:d.W<=64)(hH:d.H<=64):4<=(Da d fr Y7 K Q).2.code.length/\(Da d fr Y7 K Q).2.code.length<=300000:=by
 have h1:=Gd (d:=d) (fr:=fr) (Y7:=Y7) (K:=K) hq (d.H/16) (YC d 0,es0);have h3:d.H/16*(d.W/16*16500)<=4*(4*16500):=Yt Z8 (Yt Z8 (ZY _));have h4:es0.code.length=4:=rfl;unfold Da;dsimp only at h1;omega
theorem yO.fG{w w':World}{g fb bb q:Nat}{E F B:Array Value}(h:yO w g fb bb E F B)(hm:Mod (·=q) w w')(h1:g≠q)(h2:fb≠q)(h3:bb≠q):yO w' g fb bb E F B:=⟨h.x.keep hm h1,h.f.keep hm h2,h.b.keep hm h3⟩
def aj4(wi:World)(d:Yz)(f:Yy)(v14 v9:Value)(wx:World):Prop:=
 ∃zb ay au av,v14=↑(ZC zb 0)/\v9=↑Z0/\ZI wx zb 58 (YF d ay au av).toArray/\WN wx d ay au av f/\wi.heap.size<=zb/\wi.heap.size<=ay/\wi.heap.size<=au/\wi.heap.size<=av/\(ay≠zb/\au≠zb/\av≠zb)/\Mod ↑ZW wi wx
theorem Dr:∀nu<64,∀q<32,1<=(Je (nu == 0) nu q).length/\(Je (nu == 0) nu q).length<=3:=by decide +kernel
theorem abb{w:World}{B g n:Nat}{l:List UInt8}(h:ZI w g 5 (Yw l).toArray)(hn:n=l.length)(hB:B<=g)(hl:n<=1048576):Bytes w B ↑(ZZ g n n) l:=by
 subst hn;exact⟨by simp [Yw],.inr ⟨g,l.length,_,rfl,hB,h,ZY _,by unfold maxLen;omega,by simp [Yw],by rw [Nat.mul_one];exact Zt (by simp [Yw])⟩⟩
theorem Jc(d:Yz)(ay au av:Nat):∀v∈YF d ay au av,v.oneCell'=true:=by
 intro v hv;simp only [YF,WH,Xp,or_false]at hv;rcases hv with rfl|rfl|rfl|rfl|rfl|rfl|rfl|rfl|rfl<;>rfl
theorem Ids.gb{P:Nat->Prop}{K:Bool}{bk g rb fr dg gy gu gv ay au av:Nat}(h:Ids P K bk g rb fr dg gy gu gv ay au av):g≠bk/\rb≠g/\rb≠bk:=by
 have nd:=h.nd;simp only [List.nodup_cons,WH,Xp,or_false,not_or,List.nodup_nil,and_true,not_false_eq_true]at nd;obtain⟨⟨n1,n2,_⟩,⟨n7,_⟩,_⟩:=nd;exact⟨n1,Ne.symm n2,Ne.symm n7⟩
theorem pJ{bk g gy gu gv:Nat}{w w':World}(hm:Mod (fun j=>j=g\/j=bk) w w'):Mod (RS bk g gy gu gv) w w':=hm.mono fun _ h=>by unfold RS;rcases h with h|h<;>simp [h]
theorem J5{w:World}{p:Nat}{x0 x1 x2 x3 x4 x5 x6 x7 x8:Value}(h:ZI w p 58 #[x0,x1,x2,x3,x4,x5,x6,x7,x8])(a b c d e f g i j:Value):
  ZI (((((((((w.setCell ↑p a).setCell ⟨p,1,none⟩ b).setCell ⟨p,2,none⟩ c).setCell ⟨p,3,none⟩ d).setCell ⟨p,4,none⟩ e).setCell ⟨p,5,none⟩ f).setCell ⟨p,6,none⟩ g).setCell ⟨p,7,none⟩ i).setCell ⟨p,8,none⟩ j) p 58 #[a,b,c,d,e,f,g,i,j] /\
  Mod (·=p) w (((((((((w.setCell ↑p a).setCell ⟨p,1,none⟩ b).setCell ⟨p,2,none⟩ c).setCell ⟨p,3,none⟩ d).setCell ⟨p,4,none⟩ e).setCell ⟨p,5,none⟩ f).setCell ⟨p,6,none⟩ g).setCell ⟨p,7,none⟩ i).setCell ⟨p,8,none⟩ j):=by
 refine⟨?_,(((((((((Mod.refl (·=p) w).setCell (.inl rfl) a).setCell (.inl rfl) b).setCell (.inl rfl) c).setCell (.inl rfl) d).setCell (.inl rfl) e).setCell (.inl rfl) f).setCell (.inl rfl) g).setCell (.inl rfl) i).setCell (.inl rfl) j⟩;have z:=((((((((h.UY 0 a).UY 1 b).UY 2 c).UY 3 d).UY 4 e).UY 5 f).UY 6 g).UY 7 i).UY 8 j;rwa [show(((((((((#[x0,x1,x2,x3,x4,x5,x6,x7,x8].setIfInBounds 0 a).setIfInBounds 1 b).setIfInBounds 2 c).setIfInBounds 3 d).setIfInBounds 4 e).setIfInBounds 5 f).setIfInBounds 6 g).setIfInBounds 7 i).setIfInBounds 8 j)=#[a,b,c,d,e,f,g,i,j]by simp]at z
def KZ:Yy:=⟨[],[],[]⟩
def sS(W H:Int):Yz:=⟨W.toNat,H.toNat,W.toNat/2,H.toNat/2,W.toNat*H.toNat,W.toNat/2*(H.toNat/2)⟩
def DT(W:Nat)(ZJ:List UInt8)(at_:Nat):Nat:=((ZJ.getD at_ 0).toNat+(ZJ.getD (at_+1) 0).toNat+(ZJ.getD (at_+W) 0).toNat+(ZJ.getD (at_+W+1) 0).toNat+2)/4
def iD(W:Nat)(ZJ:List UInt8)(W2 k:Nat):UInt8:=UInt8.ofNat (DT W ZJ (2*(k/W2)*W+2*(k % W2)))
def zG(W H:Nat)(ZJ:List UInt8):List UInt8:=(Zz (W/2*(H/2))).map (iD W ZJ (W/2))
theorem Qy(W H:Nat)(ZJ:List UInt8):(zG W H ZJ).length=W/2*(H/2):=by simp [zG]
theorem adi(W:Nat)(ZJ:List UInt8)(a:Nat):DT W ZJ a<=255:=by
 unfold DT;have h:=fun i=>UInt8.toNat_lt (ZJ.getD i 0);have:=h a;have:=h (a+1);have:=h (a+W);have:=h (a+W+1);omega
theorem l9(W:Nat)(ZJ:List UInt8)(W2 j i:Nat)(hi:i<W2):(iD W ZJ W2 (j*W2+i)).toNat=DT W ZJ (2*j*W+2*i):=by
 unfold iD;have h1:(j*W2+i) % W2=i:=by rw [YA,Nat.mul_add_mod,Nat.mod_eq_of_lt hi]
 have h2:(j*W2+i)/W2=j:=by rw [YA,Nat.mul_add_div Z8,VU hi,Nat.add_zero]
 have:=adi W ZJ (2*j*W+2*i);rw [h1,h2,UInt8.toNat_ofNat_of_lt' (Nat.lt_of_le_of_lt this ZU)]
def Yz.down(d:Yz):Yz:=⟨d.W2,d.H2,d.W2/2,d.H2/2,d.nC,d.W2/2*(d.H2/2)⟩
def Sj(d:Yz)(f:Yy):Yy:=⟨zG d.W d.H f.Y,zG d.W2 d.H2 f.U,zG d.W2 d.H2 f.V⟩
theorem Yz.Ok.down{d:Yz}(h:d.Ok)(hw:d.W % 32=0)(hh:d.H % 32=0):d.down.Ok:=by
 have a:=h.w2;have b:=h.h2;have c:=h.half;exact⟨c,by show d.W2 % 16=0;omega,by show d.H2 % 16=0;omega,by show d.W2=2*(d.W2/2);omega,by show d.H2=2*(d.H2/2);omega,h.nc,rfl⟩
def Yz.Xu(d:Yz):Nat->Yz
 | 0=>d
 | n+1=>(d.Xu n).down
def Tu(d:Yz)(f:Yy):Nat->Yy
 | 0=>f
 | n+1=>Sj (d.Xu n) (Tu d f n)
theorem Yz.Fh(d:Yz)(n:Nat)(h:d.W2=d.W/2/\d.H2=d.H/2):(d.Xu n).W=d.W/2 ^ n/\(d.Xu n).H=d.H/2 ^ n/\(d.Xu n).W2=(d.Xu n).W/2/\(d.Xu n).H2=(d.Xu n).H/2:=by
 induction n with
 | zero=>simp [Yz.Xu,h]
 | succ n ih=>
  obtain⟨h1,h2,h3,h4⟩:=ih;unfold Yz.Xu Yz.down;dsimp only;rw [h3,h4,h1,h2,Nat.div_div_eq_div_mul,Nat.div_div_eq_div_mul,<-Nat.pow_succ];exact⟨rfl,rfl,rfl,rfl⟩
def Xr(d:Yz)(G tg q:Nat)(fs:List Yy):Nat->Nat × Yy
 | 0=>(q,KZ)
 | k+1=>(Gu (Xr d G tg q fs k).1 tg G (Uy d (fs.getD k KZ) (Xr d G tg q fs k).2 (k % G) (Xr d G tg q fs k).1).1.length,(Uy d (fs.getD k KZ) (Xr d G tg q fs k).2 (k % G) (Xr d G tg q fs k).1).2)
def U0(d:Yz)(G tg q:Nat)(fs:List Yy)(k:Nat):List UInt8 × Yy:=Uy d (fs.getD k KZ) (Xr d G tg q fs k).2 (k % G) (Xr d G tg q fs k).1
theorem abL(d:Yz)(G tg q:Nat)(fs:List Yy)(k:Nat):Xr d G tg q fs (k+1)=(Gu (Xr d G tg q fs k).1 tg G (U0 d G tg q fs k).1.length,(U0 d G tg q fs k).2):=rfl
def Rl(G n i:Nat):Nat:=min G (n-i*G)
def SI(d:Yz)(G tg q:Nat)(fs:List Yy)(i:Nat):List (List UInt8 × Yy):=(Zz (Rl G fs.length i)).map fun j=>U0 d G tg q fs (i*G+j)
def Lu(G n:Nat):Nat:=(n+G-1)/G
def Nt(d:Yz)(G tg q:Nat)(fs:List Yy):List (List (List UInt8 × Yy)):=(Zz (Lu G fs.length)).map (SI d G tg q fs)
theorem aeC{q tg G n:Nat}(h:q<=31):Gu q tg G n<=31:=by
 unfold Gu;split<;>(try split)<;>(try split)<;>omega
theorem zk{d:Yz}{G tg q:Nat}{fs:List Yy}(h:q<=31)(k:Nat):(Xr d G tg q fs k).1<=31:=by
 induction k with
 | zero=>exact h
 | succ k ih=>rw [abL];exact aeC ih
theorem KJ(d0:Yz)(h:d0.W2=d0.W/2/\d0.H2=d0.H/2)(n:Nat):Rj (d0.W:Int) (n:Int)=((d0.Xu n).W:Int)/\Rj (d0.H:Int) (n:Int)=((d0.Xu n).H:Int):=by
 obtain⟨h1,h2,_,_⟩:=Yz.Fh d0 n h;unfold Rj;rw [h1,h2,show(n:Int).toNat=n from rfl];exact⟨by rw [Xz],by rw [Xz]⟩
theorem OC(l:List UInt8):(strOf l).size=l.length:=by unfold strOf;show l.toArray.size=_;simp
theorem IJ(l:List UInt8):(strOf l).toList=l:=ByteArray.toList_mk l
theorem aag{P:Program}{t:TypeId}(l:List UInt8)(q:IntKind)(k:Nat)(c:UInt8)(h:P.underlying t=some .string)(hk:l[k]?=some c)(w:World):
  (Instr.index t (.string (strOf l)) (.int q (k:Int))).run P w=.ok (.int .u8 (c.toNat:Int)) w:=by
 obtain⟨hlt,he⟩:=List.getElem?_eq_some_iff.1 hk;rw [run_index_string w t (strOf l) q k h,dif_pos ⟨Z8,by rw [OC];omega⟩];congr 3;show((strOf l)[k]'(by rw [OC];exact hlt)).toNat=c.toNat
 rw [<-he];rfl
theorem ajd{l:List UInt8}{k:Nat}(h:k<l.length):l[k]?=some l[k]:=List.getElem?_eq_getElem h
theorem wu{p:UInt8->Bool}{l:List UInt8}{k:Nat}{c:UInt8}(h:(l.take k).all p=true)(hk:l[k]?=some c)(hc:p c=true):(l.take (k+1)).all p=true:=by
 rw [List.take_add_one,hk,List.all_append,h];simp [hc]
theorem yR{p:UInt8->Bool}{l:List UInt8}{k:Nat}{c:UInt8}(hk:l[k]?=some c)(hc:p c=false):l.all p=false:=by
 rw [List.all_eq_false];exact⟨c,List.mem_of_getElem? hk,by simp [hc]⟩
theorem rC{p:UInt8->Bool}{l:List UInt8}(h:(l.take l.length).all p=true):l.all p=true:=by rwa [List.take_length]at h
end Go.Proofs.YthednemlahioeaaGreatDoor
