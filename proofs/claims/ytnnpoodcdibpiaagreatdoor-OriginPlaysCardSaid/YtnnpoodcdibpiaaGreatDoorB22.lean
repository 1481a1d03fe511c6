/-
  syntax.Header, syntax.Sequence.
-/
import Derived.Test.YtnnpoodcdibpiaaGreatDoorB21
import Derived.Great.BuildSlice
namespace Go.Proofs.YtnnpoodcdibpiaaGreatDoor
open Go.RowKit
set_option maxRecDepth 100000
set_option maxHeartbeats 8000000
def hdrFl(K:Bool)(N Q:Nat):List (Nat × Nat):=[(if K then 1 else 0,1),(N,0),(Q,5)]
def hdrB(K:Bool)(N Q:Nat):List UInt8:=packL (fldsB (hdrFl K N Q))
def seqFl(W H G:Nat):List (Nat × Nat):=[(19273,16),(W/16-1,0),(H/16-1,0),(G-1,0)]
def seqBy(W H G:Nat):List UInt8:=packL (fldsB (seqFl W H G))
theorem hdrFl_ok(K:Bool){N Q:Nat}(hN:N<=64)(hQ:Q<=31):∀p∈hdrFl K N Q,FldOk p:=by
 intro p hp;simp only [hdrFl,List.mem_cons,List.not_mem_nil,or_false]at hp;rcases hp with rfl|rfl|rfl
 ·cases K<;>exact⟨by decide,by decide,fun _=>by decide⟩
 ·exact⟨show N<=60000 by omega,show 0<=32 by decide,fun h=>absurd (show 0<0 from h) (by decide)⟩
 ·exact⟨show Q<=60000 by omega,show 5<=32 by decide,fun _=>Nat.div_eq_of_lt (show Q<2 ^ 5 by omega)⟩
theorem seqFl_ok{W H G:Nat}(hW:W<=4096)(hH:H<=4096)(hG:G<=64):∀p∈seqFl W H G,FldOk p:=by
 intro p hp;simp only [seqFl,List.mem_cons,List.not_mem_nil,or_false]at hp;rcases hp with rfl|rfl|rfl|rfl
 ·exact⟨by decide,by decide,fun _=>by decide⟩
 ·exact⟨show W/16-1<=60000 by omega,show 0<=32 by decide,fun h=>absurd (show 0<0 from h) (by decide)⟩
 ·exact⟨show H/16-1<=60000 by omega,show 0<=32 by decide,fun h=>absurd (show 0<0 from h) (by decide)⟩
 ·exact⟨show G-1<=60000 by omega,show 0<=32 by decide,fun h=>absurd (show 0<0 from h) (by decide)⟩
def RowPost(w:World)(l:List UInt8)(e:Ending)(w':World):Prop:=∃g,e=.returned (.tuple #[.slice (some ⟨g,0,none⟩) l.length l.length,.int .i64 0])/\Blk w' g 5 (u8s l).toArray/\w.heap.size<=g/\Mod (fun _=>False) w w'
theorem synHeader(w:World)(K:Bool)(N Q:Nat)(W H G:Int)(hf:hdrFits K (N:Int) (Q:Int) W H G=true)(hN:N<=64)(hQ:Q<=31):
  Calls Tryz.prog 179 #[.agg #[.bool K,.int .i64 (N:Int),.int .i64 (Q:Int)],.agg #[.int .i64 W,.int .i64 H,.int .i64 G]] w (RowPost w (hdrB K N Q)):=by
 have HS0:=((Sat.nil (fun _=>False) w).alloc 237 #[.bool K,.int .i64 (N:Int),.int .i64 (Q:Int)] rfl).alloc (g:=w.heap.size+1) 70 #[.int .i64 W,.int .i64 H,.int .i64 G] (by simp);have hw:=fun K' (_:K'=K) (w':World) (fb:Nat) (hb:Blk w' fb 352 (fldC (hdrFl K' N Q)).toArray)=>synWrite w' fb 352 3 (hdrFl K' N Q) rfl (by omega) (hdrFl_ok K' hN hQ) hb;have H0:=Lib.hid (And.intro HS0 (And.intro (synFits_yes ((w.alloc (.cells #[.bool K,.int .i64 (N:Int),.int .i64 (Q:Int)] 237)).alloc (.cells #[.int .i64 W,.int .i64 H,.int .i64 G] 70)) K N Q W H G hf) hw));clear HS0 hw hf;go_enter Tryz.func179,Tryz.ntmps179;go_upto_region 1 with(fail)
 go_wp2_with fail;refine H0.out.2.1.mono ?_;rintro e w1 ⟨rfl,hm1⟩;have HS1:=Lib.hid (Sat.after hm1 H0.out.1);obtain⟨hc,hfz⟩:=(HS1.out.own_ 1 rfl).both;dsimp only at hc;clear hm1;cases K
 ·go_upto_region 7 with(fail)
  have hfb:Blk (w1.alloc (.cells (fldC (hdrFl false N Q)).toArray 352)) w1.heap.size 352 (fldC (hdrFl false N Q)).toArray:=Blk.new _ _ _;have hma:Mod (fun _=>False) w1 (w1.alloc (.cells (fldC (hdrFl false N Q)).toArray 352)):=(Mod.refl _ w1).alloc _;have HW:=Lib.hid (And.intro (H0.out.2.2 false rfl _ _ hfb) (HS1.out.mod.trans hma));clear hfb hma hc hfz;go_wp2_with fail;refine HW.out.1.mono ?_;rintro e w2 ⟨n,hn,g,rfl,hb,hg,hm⟩;obtain rfl:n=(hdrB false N Q).length:=hn;have HF:=Lib.hid (And.intro hb (And.intro (Nat.le_trans HW.out.2.size hg) (HW.out.2.trans hm)));clear hb hg hm;go_wp2_with fail;go_ret2;exact⟨g,rfl,HF.out.1,HF.out.2.1,HF.out.2.2⟩
 ·go_upto_region 7 with(fail)
  have hfb:Blk (w1.alloc (.cells (fldC (hdrFl true N Q)).toArray 352)) w1.heap.size 352 (fldC (hdrFl true N Q)).toArray:=Blk.new _ _ _;have hma:Mod (fun _=>False) w1 (w1.alloc (.cells (fldC (hdrFl true N Q)).toArray 352)):=(Mod.refl _ w1).alloc _;have HW:=Lib.hid (And.intro (H0.out.2.2 true rfl _ _ hfb) (HS1.out.mod.trans hma));clear hfb hma hc hfz;go_wp2_with fail;refine HW.out.1.mono ?_;rintro e w2 ⟨n,hn,g,rfl,hb,hg,hm⟩;obtain rfl:n=(hdrB true N Q).length:=hn;have HF:=Lib.hid (And.intro hb (And.intro (Nat.le_trans HW.out.2.size hg) (HW.out.2.trans hm)));clear hb hg hm;go_wp2_with fail;go_ret2;exact⟨g,rfl,HF.out.1,HF.out.2.1,HF.out.2.2⟩
theorem synSeq(w:World)(W H G:Nat)(hr:seqRight W H G=true):Calls Tryz.prog 110 #[.agg #[.int .i64 (W:Int),.int .i64 (H:Int),.int .i64 (G:Int)]] w (RowPost w (seqBy W H G)):=by
 have hb:=of_decide_eq_true hr;have HS0:=(Sat.nil (fun _=>False) w).alloc 70 #[.int .i64 (W:Int),.int .i64 (H:Int),.int .i64 (G:Int)] rfl;have hw:=fun(w':World) (fb:Nat) (hb':Blk w' fb 267 (fldC (seqFl W H G)).toArray)=>synWrite w' fb 267 4 (seqFl W H G) rfl (by omega) (seqFl_ok (by omega) (by omega) (by omega)) hb';have H0:=Lib.hid (And.intro HS0 (And.intro (synRight_yes (w.alloc (.cells #[.int .i64 (W:Int),.int .i64 (H:Int),.int .i64 (G:Int)] 70)) W H G hr) hw));have b1:16<=W/\W<=4096:=by omega
 have b2:16<=H/\H<=4096:=by omega
 have b3:1<=G/\G<=64:=by omega
 have t1:(W:Int).tdiv 16=((W/16:Nat):Int):=by rw [Int.tdiv_eq_ediv_of_nonneg (by omega)];omega
 have t2:(H:Int).tdiv 16=((H/16:Nat):Int):=by rw [Int.tdiv_eq_ediv_of_nonneg (by omega)];omega
 obtain⟨a,ha⟩:∃a,a=W/16-1:=⟨_,rfl⟩
 obtain⟨b,hbb⟩:∃b,b=H/16-1:=⟨_,rfl⟩
 obtain⟨c,hcc⟩:∃c,c=G-1:=⟨_,rfl⟩
 have u1:((W/16:Nat):Int)-1=(a:Int):=by omega
 have u2:((H/16:Nat):Int)-1=(b:Int):=by omega
 have u3:(G:Int)-1=(c:Int):=by omega
 have hfe:Hid (seqFl W H G=[(19273,16),(a,0),(b,0),(c,0)]):=by show _=_;rw [ha,hbb,hcc];rfl
 rw [show seqBy W H G=packL (fldsB [(19273,16),(a,0),(b,0),(c,0)])by unfold seqBy;rw [hfe.out]];obtain⟨p,hp⟩:∃p:Nat,p=W/16:=⟨_,rfl⟩
 obtain⟨q,hq⟩:∃q:Nat,q=H/16:=⟨_,rfl⟩
 rw [<-hp]at t1 u1;rw [<-hq]at t2 u2;have b4:p<=256/\q<=256/\1<=p/\1<=q:=by omega
 clear HS0 hw hr hb ha hbb hcc hp hq;go_enter Tryz.func110,Tryz.ntmps110;go_wp2_with fail;refine H0.out.2.1.mono ?_;rintro e w1 ⟨rfl,hm1⟩;have HS1:=Lib.hid (Sat.after hm1 H0.out.1);obtain⟨hc,hfz⟩:=(HS1.out.own_ 0 rfl).both;dsimp only at hc;clear hm1;go_upto_region 4 with(fail)
 have hfb:Blk (w1.alloc (.cells (fldC [(19273,16),(a,0),(b,0),(c,0)]).toArray 267)) w1.heap.size 267 (fldC [(19273,16),(a,0),(b,0),(c,0)]).toArray:=Blk.new _ _ _;have hma:Mod (fun _=>False) w1 (w1.alloc (.cells (fldC [(19273,16),(a,0),(b,0),(c,0)]).toArray 267)):=(Mod.refl _ w1).alloc _;rw [<-hfe.out]at hfb hma;have HW:=Lib.hid (And.intro (H0.out.2.2 _ _ hfb) (HS1.out.mod.trans hma));rw [hfe.out]at HW;clear hfb hma hc hfz t1 t2 u1 u2 u3;go_wp2_with fail;refine HW.out.1.mono ?_;rintro e w2 ⟨n,hn,g,rfl,hb,hg,hm⟩;subst hn;have HF:=Lib.hid (And.intro hb (And.intro (Nat.le_trans HW.out.2.size hg) (HW.out.2.trans hm)));clear hb hg hm;go_wp2_with fail;go_ret2;exact⟨g,rfl,HF.out.1,HF.out.2.1,HF.out.2.2⟩
def newQ(q tg G n:Nat):Nat:=if 0<tg then(if 5*(tg/G)<4*n then min (q+1) 31 else if 4*n<3*(tg/G)then q-1 else q)else q
def newN(nu G:Nat):Nat:=if nu+1<G then nu+1 else 0
def GoCut(w:World)(g:Nat)(cs:Array Value)(wr:World):Prop:=Blk wr g 283 cs/\Mod (·=g) w wr
theorem encGoOn(w:World)(g:Nat)(W H:Int)(G q tg nu n:Nat)(fr:List Value)(hG:1<=G/\G<=64)(hq:q<=31)(ht:tg<=1048576)(hn:n<=2097152)(hnu:nu<=64)(h:Blk w g 283 (encV W H (G:Int) (q:Int) (tg:Int) (nu:Int) fr)):
  Calls Tryz.prog 186 #[.pointer (some ⟨g,0,none⟩),.int .i64 (n:Int)] w fun e w'=>e=.returned (.tuple #[])/\Blk w' g 283 (encV W H (G:Int) ((newQ q tg G n:Nat):Int) (tg:Int) ((newN nu G:Nat):Int) fr)/\Mod (·=g) w w':=by
 obtain⟨hG1,hG2⟩:=hG;obtain⟨Q2,hQ2⟩:∃Q2,Q2=newQ q tg G n:=⟨_,rfl⟩
 obtain⟨sh,hsh⟩:∃sh,sh=tg/G:=⟨_,rfl⟩
 have hshl:sh<=1048576:=by rw [hsh];exact Nat.le_trans (Nat.div_le_self _ _) ht
 have t1:(tg:Int).tdiv (G:Int)=(sh:Int):=by rw [Int.tdiv_eq_ediv_of_nonneg (by omega),hsh];exact(Int.natCast_ediv tg G).symm
 have HQ:Hid (Q2=if 0<tg then(if 5*sh<4*n then min (q+1) 31 else if 4*n<3*sh then q-1 else q)else q):=by show _=_;rw [hQ2,hsh];rfl
 rw [<-hQ2];have hG0:((G:Int) == 0)=false:=by simp;omega
 obtain⟨bc,bf⟩:=h.both;have bl:=h.lt;have hc2:w.cell? ⟨g,2,none⟩=some (.int .i64 (G:Int)):=bc 2;have hc3:w.cell? ⟨g,3,none⟩=some (.int .i64 (q:Int)):=bc 3;have hc4:w.cell? ⟨g,4,none⟩=some (.int .i64 (tg:Int)):=bc 4;have H0:=Lib.hid h;clear h hQ2 hsh bc;go_enter Tryz.func186,Tryz.ntmps186;go_upto_if 9 with(fail)
 go_cut [] (fun wx=>GoCut w g (encV W H (G:Int) (Q2:Int) (tg:Int) (nu:Int) fr) wx)
 case first=>
  by_cases h0:0<tg
  ·have d0:decide (0<(tg:Int))=true:=decide_eq_true (by omega);have HQ1:=Lib.hid (HQ.out.trans (if_pos h0));go_upto_region 1 with(fail)
   go_quiet (fail)
   have hc3':(w.drewN nq).cell? ⟨g,3,none⟩=some (.int .i64 (q:Int)):=hc3;have bf':∀i,(w.drewN nq).frozen? ⟨g,i,none⟩=false:=bf;have bl':g<(w.drewN nq).heap.size:=bl;have H1:=Lib.hid (And.intro (H0.out.drewN nq) ((Mod.refl (fun j=>j=g) w).drewN nq));clear hc2 hc3 hc4 bf bl;generalize w.drewN nq=w1 at *;by_cases h1:5*sh<4*n
   ·have d1:decide (5*(sh:Int)<4*(n:Int))=true:=decide_eq_true (by omega);have HQ2:=Lib.hid (HQ1.out.trans (if_pos h1));go_wp2_with fail
    all_goals
     go_meet;refine⟨H1.out.1.put (i:=3) ?_,H1.out.2.setCell (p:=⟨g,3,none⟩) (.inl rfl) _⟩;refine Eq.trans (b:=(encV W H (G:Int) (q:Int) (tg:Int) (nu:Int) fr).setIfInBounds 3 (.int .i64 (Q2:Int))) (congrArg _ (congrArg (Value.int .i64) ?_)) rfl;rw [HQ2.out]
     first|omega|(split<;>omega)
   ·have d1:decide (5*(sh:Int)<4*(n:Int))=false:=decide_eq_false (by omega);have HQ2:=Lib.hid (HQ1.out.trans (if_neg h1));by_cases h2:4*n<3*sh
    ·have d2:decide (4*(n:Int)<3*(sh:Int))=true:=decide_eq_true (by omega);have HQ3:=Lib.hid (HQ2.out.trans (if_pos h2));go_wp2_with fail
     all_goals
      go_meet;refine⟨H1.out.1.put (i:=3) ?_,H1.out.2.setCell (p:=⟨g,3,none⟩) (.inl rfl) _⟩;refine Eq.trans (b:=(encV W H (G:Int) (q:Int) (tg:Int) (nu:Int) fr).setIfInBounds 3 (.int .i64 (Q2:Int))) (congrArg _ (congrArg (Value.int .i64) ?_)) rfl;rw [HQ3.out]
      first|omega|(split<;>omega)
    ·have d2:decide (4*(n:Int)<3*(sh:Int))=false:=decide_eq_false (by omega);have HQ3:=Lib.hid (HQ2.out.trans (if_neg h2));go_wp2_with fail;go_meet;exact⟨by rw [HQ3.out];exact H1.out.1,H1.out.2⟩
  ·have d0:decide (0<(tg:Int))=false:=decide_eq_false (by omega);have HQ1:=Lib.hid (HQ.out.trans (if_neg h0));go_wp2_with fail;go_meet;exact⟨by rw [HQ1.out];exact H0.out,Mod.refl _ _⟩
 case rest=>
  clear hc2 hc3 hc4 bf bl t1;obtain⟨hb,hm⟩:=hcut;rename World=>w2
  obtain⟨bc,bf⟩:=hb.both;have bl:=hb.lt;have hc5:w2.cell? ⟨g,5,none⟩=some (.int .i64 (nu:Int)):=bc 5;have wn:IntKind.i64.wrap ((nu:Int)+1)=(nu:Int)+1:=IntWalk.i64_in _ ⟨by omega,by omega⟩;have H2:=Lib.hid (And.intro hb hm);clear hb hm bc;go_upto_region 7 with(fail)
  have hb3:=H2.out.1.put (i:=5) (u:=.int .i64 ((nu:Int)+1)) (cs':=encV W H (G:Int) (Q2:Int) (tg:Int) ((nu:Int)+1) fr) rfl;have hm3:=H2.out.2.setCell (p:=⟨g,5,none⟩) (.inl rfl) (.int .i64 ((nu:Int)+1));generalize w2.setCell ⟨g,5,none⟩ (.int .i64 ((nu:Int)+1))=w3 at *;obtain⟨bc3,bf3⟩:=hb3.both;have bl3:=hb3.lt;have hd2:w3.cell? ⟨g,2,none⟩=some (.int .i64 (G:Int)):=bc3 2;have hd5:w3.cell? ⟨g,5,none⟩=some (.int .i64 ((nu:Int)+1)):=bc3 5;have H3:=Lib.hid (And.intro hb3 hm3);clear hb3 hm3 bc3 hc5 bf bl;go_quiet (fail)
  have bf4:∀i,(w3.drewN nq).frozen? ⟨g,i,none⟩=false:=bf3;have bl4:g<(w3.drewN nq).heap.size:=bl3;have he5:(w3.drewN nq).cell? ⟨g,5,none⟩=some (.int .i64 ((nu:Int)+1)):=hd5;have H4:=Lib.hid (And.intro (H3.out.1.drewN nq) (H3.out.2.drewN nq));clear hd2 hd5 bf3 bl3;generalize w3.drewN nq=w4 at *;by_cases h1:nu+1<G
  ·have d1:decide ((G:Int)<=(nu:Int)+1)=false:=decide_eq_false (by omega);have d2:¬G<=nu+1:=by omega
   go_wp2_with fail;go_end0
   refine⟨rfl,?_,H4.out.2⟩;unfold newN;rw [if_pos h1];exact H4.out.1
  ·have d1:decide ((G:Int)<=(nu:Int)+1)=true:=decide_eq_true (by omega);have d2:G<=nu+1:=by omega
   go_wp2_with fail;go_end0
   refine⟨rfl,?_,H4.out.2.setCell (p:=⟨g,5,none⟩) (.inl rfl) _⟩;unfold newN;rw [if_neg h1];exact H4.out.1.put (i:=5) (u:=.int .i64 0) rfl
def encArgs(q tg:Int):Bool:=decide ((0<=q/\q<=31)/\0<=tg/\tg<=1048576)
def zeroFr:List Value:=[.int .i64 0,.int .i64 0,.slice none 0 0,.int .i64 0,.int .i64 0,.slice none 0 0,.int .i64 0,.int .i64 0,.slice none 0 0]
def EncNewPost(w:World)(W H G q tg:Int)(e:Ending)(w':World):Prop:=
 Mod (fun _=>False) w w'/\((seqRight W H G=false/\e=.returned (.tuple #[.pointer none,.int .i64 121]))\/(seqRight W H G=true/\encArgs q tg=false/\e=.returned (.tuple #[.pointer none,.int .i64 1])) \/
  ∃g,seqRight W H G=true/\encArgs q tg=true/\e=.returned (.tuple #[.pointer (some ⟨g,0,none⟩),.int .i64 0])/\Blk w' g 283 (encV W H G q tg 0 zeroFr)/\w.heap.size<=g)
theorem encNew(w:World)(W H G q tg:Int):Calls Tryz.prog 121 #[.agg #[.int .i64 W,.int .i64 H,.int .i64 G],.int .i64 q,.int .i64 tg] w (EncNewPost w W H G q tg):=by
 have hM:Mod (fun _=>False) w (w.alloc (.cells #[.int .i64 W,.int .i64 H,.int .i64 G] 70)):=(Mod.refl _ _).alloc _;have hb:=Blk.new w 70 #[.int .i64 W,.int .i64 H,.int .i64 G];have H0:=Lib.hid (And.intro hM hb);clear hM hb;cases hr:seqRight W H G with
 | false=>
  have HR:=Lib.hid hr;clear hr;go_enter Tryz.func121,Tryz.ntmps121;go_wp2_with fail;refine(synRight_no _ W H G HR.out).mono ?_;rintro e w1 ⟨rfl,hm⟩;have H1:=Lib.hid (H0.out.1.trans hm);clear hm;go_wp2_with fail;go_ret2;exact⟨H1.out,.inl ⟨HR.out,rfl⟩⟩
 | true=>
  have HR:=Lib.hid hr;clear hr;by_cases ha:encArgs q tg=true
  ·have ha2:=of_decide_eq_true ha;have d1:decide (q<0)=false:=decide_eq_false (by omega);have d2:decide (31<q)=false:=decide_eq_false (by omega);have d3:decide (tg<0)=false:=decide_eq_false (by omega);have d4:decide (1048576<tg)=false:=decide_eq_false (by omega);have HA:=Lib.hid ha;clear ha ha2;go_enter Tryz.func121,Tryz.ntmps121;go_wp2_with fail;refine(synRight_yes _ W H G HR.out).mono ?_;rintro e w1 ⟨rfl,hm⟩;have hb1:=H0.out.2.keep hm (fun h=>h);obtain⟨bc,bf⟩:=hb1.both;have H1:=Lib.hid (H0.out.1.trans hm);clear hm hb1;go_wp2_with fail;go_ret2;exact⟨H1.out.alloc _,.inr (.inr ⟨_,HR.out,HA.out,rfl,Blk.new _ _ _,H1.out.size⟩)⟩
  ·have ha2:¬((0<=q/\q<=31)/\0<=tg/\tg<=1048576):=fun h=>ha (decide_eq_true h);have hcase:q<0\/(0<=q/\31<q)\/(0<=q/\q<=31/\tg<0)\/(0<=q/\q<=31/\0<=tg/\1048576<tg):=by omega
   have HA:=Lib.hid (show encArgs q tg=false by simpa using ha);clear ha ha2;rcases hcase with h|⟨h,h2⟩|⟨h,h2,h3⟩|⟨h,h2,h3,h4⟩
   all_goals
    have d1:decide (q<0)=decide (q<0):=rfl;go_enter Tryz.func121,Tryz.ntmps121;go_wp2_with fail;refine(synRight_yes _ W H G HR.out).mono ?_;rintro e w1 ⟨rfl,hm⟩;have H1:=Lib.hid (H0.out.1.trans hm);clear hm;go_wp2_with fail;go_ret2;exact⟨H1.out,.inr (.inl ⟨HR.out,HA.out,rfl⟩)⟩
theorem ePlanes(w:World)(a0 a1 a3 a4 a6 a7:Int)(A B C:Option Addr)(n0 c0 n1 c1 n2 c2:Nat):
  Calls Tryz.prog 180 #[.agg #[.int .i64 a0,.int .i64 a1,.slice A n0 c0,.int .i64 a3,.int .i64 a4,.slice B n1 c1,.int .i64 a6,.int .i64 a7,.slice C n2 c2]] w fun e w'=>
   e=.returned (.agg #[.int .i64 a0,.int .i64 a1,.slice A n0 c0,.int .i64 a3,.int .i64 a4,.slice B n1 c1,.int .i64 a6,.int .i64 a7,.slice C n2 c2])/\Mod (fun _=>False) w w':=by
 go_enter Tryz.func180,Tryz.ntmps180;go_wp2_with fail
 first
 | exact bodyPost_ret (v:=.agg #[.int .i64 a0,.int .i64 a1,.slice A n0 c0,.int .i64 a3,.int .i64 a4,.slice B n1 c1,.int .i64 a6,.int .i64 a7,.slice C n2 c2]) (by simp [results,Tryz.results180,go_sem]) rfl ⟨rfl,((Mod.refl _ _).alloc _).alloc _⟩
 | (go_ret;exact⟨rfl,(Mod.refl _ _).alloc _⟩)
 | (go_ret;exact⟨rfl,Mod.refl _ _⟩)
theorem eBytes(w:World)(g:Nat)(v:Value)(code:List UInt8)(wide:Nat)(h:EAt w g v code wide)(hl:code.length<=1048576):
  Calls Tryz.prog 185 #[.pointer (some ⟨g,0,none⟩)] w fun e w'=>∃A n,e=.returned (.slice A n n)/\BytesIn w' A n n code/\Mod (fun _=>False) w w':=by
 obtain⟨r,k,rfl,hrg⟩:=h.shape;obtain⟨bc,bf⟩:=h.blk.both;obtain⟨n,hn⟩:∃n,n=code.length:=⟨_,rfl⟩
 have hin:=h.own.in_;have hEB:=eBegin w g _ code wide h;rw [<-hn]at hin bc hl;have H:=Lib.hid (And.intro hin (And.intro hEB hn));clear hin hEB hn h;go_enter Tryz.func185,Tryz.ntmps185;go_wp2_with fail;refine H.out.2.1.mono ?_;rintro e w1 ⟨rfl,rfl⟩;go_wp2_with (at_builtin;have _t:=H;refine wpList_app_u8s _ rfl _ (.tmp 11) rfl w.heap.size (.slice none 0 0) [] _ n k code rfl rfl (Bytes.nil _ _) H.out.1 (Nat.le_refl _) (by simp;omega) ?_;intro v1 w1 hown1 hMa hMb hF;obtain⟨A1,c1,hv1⟩:=own_shape hown1;obtain⟨m1,hm1⟩:∃m1,m1=([]++code).length:=⟨_,rfl⟩;rw [<-hm1]at hv1;subst hv1;have hcap:=hown1.cap;have HO:=Lib.hid (And.intro hown1 (And.intro (hMb w (fun _=>False) (Nat.le_refl _) (Mod.refl _ _)) hm1));clear hown1 hMa hMb hF hm1)
 go_ret;have hi:=HO.out.1.in_;exact⟨A1,m1,rfl,⟨hi.1,fun e=>by have:=hi.2.1 e;omega,hi.2.2⟩,HO.out.2.1⟩
def fillC(k:Nat):List Nat:=List.replicate k 1024++List.replicate (37-k) 0
theorem fillC_set(k:Nat)(h:k<37):(u16s (fillC k)).set k (.int .u16 1024)=u16s (fillC (k+1)):=by
 apply List.ext_getElem
 ·simp [u16s,fillC];omega
 ·intro i h1 h2;have hi:i<37:=by simp [u16s,fillC]at h2;omega
  rw [List.getElem_set];by_cases e:k=i
  ·subst e;simp [u16s,fillC]
  ·rw [if_neg e];simp only [u16s,List.getElem_map,fillC,List.getElem_append,List.length_replicate,List.getElem_replicate];split<;>split<;>first|rfl|omega
theorem fillC_cell(k:Nat)(h:k<37):(u16s (fillC k)).toArray[k]?=some (.int .u16 0):=by
 have h1:(fillC k)[k]?=some 0:=by
  unfold fillC;rw [List.getElem?_append_right (by simp),List.length_replicate,Nat.sub_self,List.getElem?_replicate,if_pos (by omega)]
 simp [u16s,h1]
def Fill1(w:World)(c:Nat)(v:Value)(wr:World):Prop:=∃k:Nat,k<=20/\v=.int .i64 (k:Int)/\Blk wr c 358 (u16s (fillC k)).toArray/\Mod (fun _=>False) w wr
def Fill2(w:World)(c:Nat)(v:Value)(wr:World):Prop:=∃k:Nat,k<=16/\v=.int .i64 (k:Int)/\Blk wr c 358 (u16s (fillC (20+k))).toArray/\Mod (fun _=>False) w wr
def fillB(k:Nat):List Nat:=List.replicate (k*37) 1024++List.replicate (592-k*37) 0
theorem fillB_length(k:Nat)(h:k<=16):(fillB k).length=592:=by simp [fillB];omega
theorem fillB_put(k:Nat)(h:k<16):splice (u16s (fillB k)) (k*37) (u16s (fillC 37))=u16s (fillB (k+1)):=by
 have h1:u16s (fillC 37)=List.replicate 37 (.int .u16 1024):=by simp [u16s,fillC]
 have h2:∀k,u16s (fillB k)=List.replicate (k*37) (.int .u16 1024)++List.replicate (592-k*37) (.int .u16 0):=fun k=>by simp [u16s,fillB]
 rw [h1,h2,h2];unfold splice;rw [List.take_append_of_le_length (by simp),List.take_of_length_le (by simp),List.drop_append,List.drop_eq_nil_of_le (by simp),List.nil_append,List.drop_replicate,<-List.append_assoc,List.replicate_append_replicate];congr 1
 ·congr 1;omega
 ·congr 1;simp;omega
def Fill3(w:World)(c b:Nat)(v:Value)(wr:World):Prop:=∃k:Nat,k<=16/\v=.int .i64 (k:Int)/\Blk wr b 361 (u16s (fillB k)).toArray/\Blk wr c 358 (u16s (fillC 37)).toArray/\Mod (fun _=>False) w wr
theorem ch_one(l:List Nat):∀v∈u16s l,v.oneCell'=true:=fun v hv=>by
 obtain⟨x,_,rfl⟩:=List.mem_map.1 hv;rfl
theorem bNew(w:World):Calls Tryz.prog 181 #[] w fun e w'=>∃b,e=.returned (.pointer (some ⟨b,0,none⟩))/\Blk w' b 361 (u16s (fillB 16)).toArray/\w.heap.size<=b/\Mod (fun _=>False) w w':=by
 have hz:Tryz.zeroCells361=(u16s (fillB 0)).toArray:=by kernel_rfl
 have HZ:=Lib.hid hz;clear hz;have hb0:Blk (w.alloc (.cells (u16s (fillC 0)).toArray 358)) w.heap.size 358 (u16s (fillC 0)).toArray:=Blk.new _ _ _;have m0:Mod (fun _=>False) w (w.alloc (.cells (u16s (fillC 0)).toArray 358)):=(Mod.refl _ _).alloc _;have HM:=Lib.hid (And.intro hb0 m0);clear hb0 m0;go_enter Tryz.func181,Tryz.ntmps181;go_upto_region 2 with(fail)
 rw [show w.alloc (.cells #[.int .u16 0,.int .u16 0,.int .u16 0,.int .u16 0,.int .u16 0,.int .u16 0,.int .u16 0,.int .u16 0,.int .u16 0,.int .u16 0,.int .u16 0,.int .u16 0,.int .u16 0,.int .u16 0,.int .u16 0,.int .u16 0,.int .u16 0,.int .u16 0,.int .u16 0,.int .u16 0,.int .u16 0,.int .u16 0,.int .u16 0,.int .u16 0,.int .u16 0,.int .u16 0,.int .u16 0,.int .u16 0,.int .u16 0,.int .u16 0,.int .u16 0,.int .u16 0,.int .u16 0,.int .u16 0,.int .u16 0,.int .u16 0,.int .u16 0] 358)=w.alloc (.cells (u16s (fillC 0)).toArray 358)from rfl];generalize hw1:w.alloc (.cells (u16s (fillC 0)).toArray 358)=w1 at *;go_wp2_with fail;go_loopw [6] (Fill1 w w.heap.size) (fun i _=>20-(intOf i).toNat)
 case atStart=>exact⟨0,by omega,rfl,HM.out.1,HM.out.2⟩
 case round=>
  obtain⟨k,hk,rfl,hb,hM⟩:=hrel;by_cases hlt:k<20
  ·have d1:decide ((k:Int)<20)=true:=decide_eq_true (by omega);have p0:(0:Int)<=(k:Int):=by omega
   have p1:(k:Int)<20:=by omega
   have ck:wr.cell? ⟨w.heap.size,k,none⟩=some (.int .u16 0):=(hb.cell k).trans (fillC_cell k (by omega));have fk:=hb.frozen k;have hl:=hb.lt;have HB:=Lib.hid (And.intro hb hM);clear hb hM;go_wp2_with fail;go_roundw
   case rel=>exact⟨k+1,by omega,by go_num,HB.out.1.put (by simpa using fillC_set k (by omega)),HB.out.2.setCell (.inr (Nat.le_refl _)) _⟩
   case measure=>simp [intOf];omega
  ·obtain rfl:k=20:=by omega
   have HB:=Lib.hid (And.intro hb hM);clear hb hM;go_wp2_with fail;go_loopw [13] (Fill2 w w.heap.size) (fun i _=>16-(intOf i).toNat)
   case atStart=>exact⟨0,by omega,rfl,HB.out.1,HB.out.2⟩
   case round=>
    clear HB;obtain⟨k,hk,rfl,hb,hM⟩:=hrel;by_cases hlt:k<16
    ·have d1:decide ((k:Int)<16)=true:=decide_eq_true (by omega);have p0:(0:Int)<=(k:Int):=by omega
     have p1:(k:Int)<16:=by omega
     have ck:wr.cell? ⟨w.heap.size,20+k,none⟩=some (.int .u16 0):=(hb.cell (20+k)).trans (fillC_cell (20+k) (by omega));have fk:=hb.frozen (20+k);have hl:=hb.lt;have HB:=Lib.hid (And.intro hb hM);clear hb hM;go_wp2_with fail;go_roundw
     case rel=>exact⟨k+1,by omega,by go_num,HB.out.1.put (by rw [<-Nat.add_assoc];simpa using fillC_set (20+k) (by omega)),HB.out.2.setCell (.inr (Nat.le_refl _)) _⟩
     case measure=>simp [intOf];omega
    ·obtain rfl:k=16:=by omega
     have ck:wr.cell? ⟨w.heap.size,36,none⟩=some (.int .u16 0):=by rw [hb.cell];rfl
     have fk:=hb.frozen 36;have hl:=hb.lt;have hb2:Blk (wr.setCell ⟨w.heap.size,36,none⟩ (.int .u16 1024)) w.heap.size 358 (u16s (fillC 37)).toArray:=hb.put (by simpa using fillC_set 36 (by omega));have hM2:Mod (fun _=>False) w (wr.setCell ⟨w.heap.size,36,none⟩ (.int .u16 1024)):=hM.setCell (.inr (Nat.le_refl _)) _;have HB:=Lib.hid (And.intro hb2 hM2);clear hb hM hb2 hM2;go_upto_region 13 with(fail)
     clear ck fk hl;generalize wr.setCell ⟨w.heap.size,36,none⟩ (.int .u16 1024)=w2 at *;go_upto_region 14 with(fail)
     rw [HZ.out];have hb3:Blk (w2.alloc (.cells (u16s (fillB 0)).toArray 361)) w2.heap.size 361 (u16s (fillB 0)).toArray:=Blk.new _ _ _;have hc3:=HB.out.1.alloc (.cells (u16s (fillB 0)).toArray 361);have hM3:=HB.out.2.alloc (.cells (u16s (fillB 0)).toArray 361);have hs2:=HB.out.2.size;have hcl:=HB.out.1.lt;generalize hbk:w2.heap.size=bk at *;generalize w2.alloc (.cells (u16s (fillB 0)).toArray 361)=w3 at *;have HB3:=Lib.hid (And.intro hb3 (And.intro hc3 hM3));clear hb3 hc3 hM3 HB hbk;obtain⟨ch,hch⟩:∃ch,ch=w.heap.size:=⟨_,rfl⟩
     rw [<-hch]at HB3 hcl ⊢;clear HM;have HCH:=Lib.hid hch;clear hch;go_wp2_with fail;go_loopw [23] (Fill3 w ch bk) (fun i _=>16-(intOf i).toNat)
     case atStart=>exact⟨0,by omega,rfl,HB3.out.1,HB3.out.2.1,HB3.out.2.2⟩
     case round=>
      clear HB3;obtain⟨k,hk,rfl,hb,hc,hM⟩:=hrel;by_cases hlt:k<16
      ·have d1:decide ((k:Int)<16)=true:=decide_eq_true (by omega);have p0:(0:Int)<=(k:Int):=by omega
       have p1:(k:Int)<16:=by omega
       have HB:=Lib.hid (And.intro hb (And.intro hc hM));clear hb hc hM;go_upto_region 17 with(fail)
       refine wp_region_still_tail 6 (by kernel_rfl) (by kernel_rfl) ?_;simp only [List.take_succ_cons,List.take_zero,List.drop_succ_cons,List.drop_zero];repeat(first|(refine wpStill_load_row rfl 358 (.tmp 1) rfl ch rfl 358 (u16s (fillC 37)).toArray _ HB.out.2.1 Tryz.underlying358 rfl (by kernel_rfl) ?_)|still_step)
       refine wpStill_nil ?_;change wpList _ _ _ _ _ wr.drew;refine wpList_store_part rfl 358 (.tmp 31) (.tmp 28) rfl bk (k*37) (u16s (fillC 37)) rfl rfl 361 (u16s (fillB k)) HB.out.1 (by kernel_rfl) (by simp [u16s,fillC,fillB];omega) (ch_one _) ?_;intro w5 hb5 hm5;rw [fillB_put k hlt]at hb5;have hc5:=HB.out.2.1.keep (w:=wr.drew) hm5 (by omega);have hM5:Mod (fun _=>False) w w5:=(HB.out.2.2.drew).into hm5 (fun i e=>.inr (by omega));have HB5:=Lib.hid (And.intro hb5 (And.intro hc5 hM5));clear hb5 hc5 hM5 hm5;go_wp2_with fail;go_roundw
       case rel=>((repeat apply Exists.intro);exact⟨⟨k+1,by omega,by go_num,HB5.out.1,HB5.out.2.1,HB5.out.2.2⟩,rfl⟩)
       case measure=>simp [intOf];omega
      ·obtain rfl:k=16:=by omega
       have HB:=Lib.hid (And.intro hb hM);clear hb hc hM;go_wp2_with fail;go_ret;exact⟨bk,rfl,HB.out.1,hs2,HB.out.2⟩
theorem fr_cells{w:World}{p:Nat}{a b c d e f g h i:Value}(hb:Blk w p 110 #[a,b,c,d,e,f,g,h,i]):w.cell? ⟨p,0,none⟩=some a/\w.cell? ⟨p,1,none⟩=some b/\w.cell? ⟨p,2,none⟩=some c/\w.cell? ⟨p,3,none⟩=some d/\w.cell? ⟨p,4,none⟩=some e/\w.cell? ⟨p,5,none⟩=some f/\w.cell? ⟨p,6,none⟩=some g/\w.cell? ⟨p,7,none⟩=some h/\w.cell? ⟨p,8,none⟩=some i:=
 ⟨hb.cell 0,hb.cell 1,hb.cell 2,hb.cell 3,hb.cell 4,hb.cell 5,hb.cell 6,hb.cell 7,hb.cell 8⟩
theorem pCopy(w:World)(d:Dim)(hd:d.Ok)(gy gu gv:Nat)(f:Pix)(hf:FrameAt w d gy gu gv f):Calls Tryz.prog 187 #[.agg (frameV d gy gu gv).toArray] w fun e w'=>∃p,e=.returned p/\FrameMade w d f p w'/\Mod (fun _=>False) w w':=by
 unfold frameV;have HD:=Lib.hid (And.intro hd hf);clear hd hf;have HS:=((((Sat.nil (fun _=>False) w).alloc 110 #[.int .i64 (d.W:Int),.int .i64 (d.H:Int),.slice (some ⟨gy,0,none⟩) d.nY d.nY,.int .i64 (d.W2:Int),.int .i64 (d.H2:Int),.slice (some ⟨gu,0,none⟩) d.nC d.nC,.int .i64 (d.W2:Int),.int .i64 (d.H2:Int),.slice (some ⟨gv,0,none⟩) d.nC d.nC] rfl).alloc (g:=w.heap.size+1) 110 #[.int .i64 0,.int .i64 0,.slice none 0 0,.int .i64 0,.int .i64 0,.slice none 0 0,.int .i64 0,.int .i64 0,.slice none 0 0] (by simp))).drew;have x0:=HS.own_ 1 rfl;dsimp only at x0;go_enter Tryz.func187,Tryz.ntmps187;go_wp2_with fail;obtain⟨fb,hfb⟩:∃fb,fb=w.heap.size:=⟨_,rfl⟩
 rw [<-hfb]at x0 HS ⊢;obtain⟨res,hres⟩:∃res,res=fb+1:=⟨_,rfl⟩
 rw [<-hres]at HS ⊢;have n1:fb≠res:=by omega
 clear hfb hres;go_region_held3 (fun w'=>w'.cell? ⟨fb,0,none⟩=some (.int .i64 (d.W:Int))/\w'.cell? ⟨fb,1,none⟩=some (.int .i64 (d.H:Int))/\w'.cell? ⟨fb,2,none⟩=some (.slice (some ⟨gy,0,none⟩) d.nY d.nY)/\w'.cell? ⟨fb,3,none⟩=some (.int .i64 (d.W2:Int))/\w'.cell? ⟨fb,4,none⟩=some (.int .i64 (d.H2:Int))/\w'.cell? ⟨fb,5,none⟩=some (.slice (some ⟨gu,0,none⟩) d.nC d.nC)/\w'.cell? ⟨fb,6,none⟩=some (.int .i64 (d.W2:Int))/\w'.cell? ⟨fb,7,none⟩=some (.int .i64 (d.H2:Int))/\w'.cell? ⟨fb,8,none⟩=some (.slice (some ⟨gv,0,none⟩) d.nC d.nC)) (first|with_reducible exact fr_cells x0|exact fr_cells (by repeat' (first|with_reducible exact x0|with_reducible refine Blk.far ?_ n1 _))) (first|(go_at_call 249;(with_reducible refine(pOwn _ d.W d.H (some ⟨gy,0,none⟩) d.nY d.nY f.Y HD.out.1.nyle (blkIn (HD.out.2.quiet HS.mod).by_ HD.out.2.ly HD.out.1.nyle)).mono ?_);rintro e w2 ⟨g1,rfl,hb1,hg1,hm1⟩;have HS:=Sat.grew hm1 HS hb1 hg1;have x0:=x0.keep hm1 (fun h=>h);clear hb1 hg1 hm1)|(go_at_call 249;(with_reducible refine(pOwn _ d.W2 d.H2 (some ⟨gu,0,none⟩) d.nC d.nC f.U HD.out.1.ncle (blkIn (HD.out.2.quiet HS.mod).bu HD.out.2.lu HD.out.1.ncle)).mono ?_);rintro e w3 ⟨g2,rfl,hb1,hg1,hm1⟩;have HS:=Sat.grew hm1 HS hb1 hg1;have x0:=x0.keep hm1 (fun h=>h);clear hb1 hg1 hm1)|(go_at_call 249;(with_reducible refine(pOwn _ d.W2 d.H2 (some ⟨gv,0,none⟩) d.nC d.nC f.V HD.out.1.ncle (blkIn (HD.out.2.quiet HS.mod).bv HD.out.2.lv HD.out.1.ncle)).mono ?_);rintro e w4 ⟨g3,rfl,hb1,hg1,hm1⟩;have HS:=Sat.grew hm1 HS hb1 hg1;have x0:=x0.keep hm1 (fun h=>h);clear hb1 hg1 hm1;obtain⟨rc,rf⟩:=(HS.own_ 3 rfl).both))
 have HE:=(((((((((HS).put (g:=res) (i:=0) (u:=.int .i64 (d.W:Int)) (.there (.there (.there (.here rfl))))).put (g:=res) (i:=1) (u:=.int .i64 (d.H:Int)) (.there (.there (.there (.here rfl))))).put (g:=res) (i:=2) (u:=.slice (some ⟨g1,0,none⟩) d.nY d.nY) (.there (.there (.there (.here rfl))))).put (g:=res) (i:=3) (u:=.int .i64 (d.W2:Int)) (.there (.there (.there (.here rfl))))).put (g:=res) (i:=4) (u:=.int .i64 (d.H2:Int)) (.there (.there (.there (.here rfl))))).put (g:=res) (i:=5) (u:=.slice (some ⟨g2,0,none⟩) d.nC d.nC) (.there (.there (.there (.here rfl))))).put (g:=res) (i:=6) (u:=.int .i64 (d.W2:Int)) (.there (.there (.there (.here rfl))))).put (g:=res) (i:=7) (u:=.int .i64 (d.H2:Int)) (.there (.there (.there (.here rfl))))).put (g:=res) (i:=8) (u:=.slice (some ⟨g3,0,none⟩) d.nC d.nC) (.there (.there (.there (.here rfl))));clear x0;have h1:=HE.own_ 2 rfl;have h2:=HE.own_ 1 rfl;have h3:=HE.own_ 0 rfl;dsimp only at h1 h2 h3;have l1:w.heap.size<=g1:=HE.low 2 rfl;have l2:w.heap.size<=g2:=HE.low 1 rfl;have l3:w.heap.size<=g3:=HE.low 0 rfl;have a12:g2≠g1:=HE.apart 1 2 rfl rfl (by omega);have a13:g3≠g1:=HE.apart 0 2 rfl rfl (by omega);have a23:g3≠g2:=HE.apart 0 1 rfl rfl (by omega);have HM:=HE.mod;clear HE HS;go_wp2_with fail;refine bodyPost_ret (v:=.agg (frameV d g1 g2 g3).toArray) (by simp [results,Tryz.results187,go_sem,rc,frameV]) rfl ⟨_,rfl,⟨g1,g2,g3,rfl,?_,l1,l2,l3⟩,HM⟩;exact⟨h1,h2,h3,HD.out.2.ly,HD.out.2.lu,HD.out.2.lv,a12.symm,a13.symm,a23.symm⟩
end Go.Proofs.YtnnpoodcdibpiaaGreatDoor
