/-
  append of one element that was just made, inside a fence.
-/
import Derived.Test.YthednemlahioeaaGreatDoorM22
import Derived.Maps.OwnIn
namespace Go.Proofs.YthednemlahioeaaGreatDoor
open Go.RowKit Go.Shelf
open World renaming cell?_of_block→ZV
open Nat renaming lt_of_lt_of_le→ZB,zero_le→XI,le_refl→ZY,add_mul→Y5,mul_comm→YA
open Ya renaming zero→YL,cells→Vh
open Bool renaming and_eq_true→ZT
open Lib renaming hid→Z7
open And renaming intro→Z9
open List renaming length_map→Zg,length_range→XO,range→Zz,length_append→YW,length_singleton→V3,map_append→YP
open Go.Proofs.Tryz
set_option maxRecDepth 100000
set_option maxHeartbeats 8000000
theorem QG{F:Fence}{nF:Nat}{P:Program}{ops:Array Oper}{rest:List Oper}{o:Oper}{a:Act}{Q:Exit->Act->World->Prop}(w:World)(hgd:o.guard=none)(s x:Operand)(t e:TypeId)(ho:o.op=.call { callee:=.builtin .append,args:=#[s,x],argTypes:=#[t,t] })
  (ht:P.underlying t=some (.slice e))(z:Value)(size bytes:Nat)(hi:(P.info? e).map (fun i=>(i.zero,i.size,i.bytes))=some (some z,size,bytes))(hzs:z.cells.size=size)(hsz:0<size)
  (B:Nat)(v:Value)(n:Nat)(xs cells:List Value)(SB:cells.length=size)(h1:∀u∈cells,u.oneCell'=true)(gq:Nat)(jJ:w.heap.size=gq)(hs:a.eval s=v)(hx:a.eval x=↑(ZZ gq 1 1))
  (hown:w.ownsRow B e size v n xs)(hB:B<=w.heap.size)(h63:n+1<=maxLen)(hby:(n+1)*bytes<=140737488355328)
  (h:∀v' w',w'.ownsRow B e size v' (n+1) (xs++cells)->Mod (fun j=>v.ownBlock=some j) w w'->(∀(W:World) (S:Nat->Prop),W.heap.size<=B->Mod S W w->Mod S W w')->(∀g,v'.ownBlock=some g->v.ownBlock=some g\/w.heap.size<=g)->wpListIn F nF P ops Q rest (a.put o.dst v') w'):
  wpListIn F nF P ops Q (o :: rest) a (w.alloc (.cells cells.toArray e)):=by
 obtain⟨i0,hi0,hz0,hz1,hz2⟩:=info_parts hi;subst SB;subst jJ;have Ji:=Src.new w e cells;refine wpListIn_append_own_at _ hgd s x t ho B e i0 z cells.length bytes ht hi0 hz0 hz1 hz2 hzs hsz v n xs hs (XT hown ((Mod.refl ↑ZW w).alloc _) (fun _ _ h=>h)) ↑w.heap.size 1 1 cells hx Z8 (Ji.2.2 _ rfl) h1 h63 hby (by simp;omega) ?_;intro v' w' g1 g2 _ g3;obtain⟨m1,m2,m3⟩:=sV w hown g2 g3;exact h v' w' g1 m1 m2 m3
attribute [local go_sem] Oper.semAt_some
def oo(Q:Exit->Act->World->Prop):Exit->Act->World->Prop
 | .normal,a,w=>Q .normal a w
 | _,_,_=>False
theorem aaf{P:Program}{ops:Array Oper}{Q:Exit->Act->World->Prop}{id:Nat}{a:Act}{w:World}(loud ZO:List Nat)(is:PTree)(S:World->Prop)(hm:P.follows .mixedOrders=true)(hB:uS ops loud ZO is=true)
  (hS:S w.drew)(h:R8 P ops loud ZO S (oo Q) is a w.drew):(Code.region id ops true).wp P Q a w:=
 Go.wp_mono (WG loud ZO is S hm hB (fun _ _ _ _ _ h=>h) hS h) (fun e _ _ h=>by cases e<;>first|exact h|exact h.elim)
def ak6(B:Nat)(w:World)(d:Yz)(G:Nat)(rc zm:Array Value)(v8:Value)(wx:World):Prop:=
 ∃sb,v8=↑(ZC sb 0)/\Sat ↑ZW w wx [⟨sb,40,#[↑d.W,↑d.H,↑G]⟩,⟨B+1+1,26,#[↑Z0]⟩,⟨B+1,43,zm⟩,⟨B,38,rc⟩] []
structure pX(w':World)(b o rb:Nat)(W0 H0:Int)(rc:Array Value):Prop where
 c0:w'.cell? ⟨b,o,none⟩=some ↑W0
 c1:w'.cell? ⟨b,o+1,none⟩=some ↑H0
 rg:ZI w' rb 38 rc
 lb:b<w'.heap.size
theorem pX.quiet{w w':World}{b o rb:Nat}{W0 H0:Int}{rc:Array Value}(h:pX w b o rb W0 H0 rc)(hm:Mod ↑ZW w w'):pX w' b o rb W0 H0 rc:=
 ⟨(ZV (hm.block b h.lb (fun h=>h))).trans h.c0,(ZV (hm.block b h.lb (fun h=>h))).trans h.c1,h.rg.keep hm (fun h=>h),ZB h.lb hm.size⟩
theorem ah3(w:World)(d:Yz)(G q tg:Nat)(hs:seqRight (d.W:Int) (d.H:Int) (G:Int)=true)(hq:q<=31)(ht:tg<=1048576):
  Calls prog 95 #[.agg #[↑d.W,↑d.H,↑G],↑q,↑tg] w fun e w'=>∃g,e=.returned (.tuple #[↑(ZC g 0),↑Z0])/\(∀Y7,Uu w' g d G q tg 0 Y7)/\w.heap.size<=g/\Mod ↑ZW w w':=by
 refine(agN w (d.W:Int) (d.H:Int) (G:Int) (q:Int) (tg:Int)).mono ?_;rintro e w' ⟨hm,⟨h,_⟩|⟨_,h,_⟩|⟨g,_,_,rfl,hb,hg⟩⟩
 ·exact absurd (h.symm.trans hs) ZU
 ·exact absurd (h.symm.trans (show Rp (q:Int) (tg:Int)=true by unfold Rp;exact oN)) ZU
 ·exact⟨g,rfl,fun _=>⟨Q3,hb,.inl ⟨rfl,rfl⟩⟩,hg,hm⟩
theorem adt(w:World)(he:Kk w)(b o n c:Nat)(fs:List Ya)(YZ:ME w (some ⟨b,o,none⟩) n fs)(hn:1<=n/\n<=1024)(xA:n<=c)(hc:c<=9223372036854775807)
  (G:Nat)(hG:1<=G/\G<=64)(nm:List UInt8)(dn q tg:Nat)(hdn:dn<=3)(hq:q<=31)(ht:tg<=1048576)
  (d0 d:Yz)(hd0:∀m,m<=dn->(d0.Xu m).Ok)(hdd:∀m,m<dn->(d0.Xu m).W % 32=0/\(d0.Xu m).H % 32=0)(hd:d=d0.Xu dn)(RQ:seqRight (d.W:Int) (d.H:Int) (G:Int)=true)(hW:d.W<=64)(hH:d.H<=64)
  (Ib:∀i,i<n->(fs.getD i YL).UG d0=true):
  Calls prog 54 #[.slice (some ⟨b,o,none⟩) n c,.int .i64 (G:Int),.agg #[.string (strOf nm),.int .i64 (dn:Int),.int .i64 (q:Int),.int .i64 (tg:Int)]] w fun e w'=>∃cells:List Value,e=.returned (.tuple #[.agg cells.toArray,.int .i64 0])/\Ny w' (fun k=>w.heap.size<=k) ⟨⟨nm,(dn:Int),(q:Int),(tg:Int)⟩,(G:Int),d,Nt d G tg q (fs.map fun f=>Tu d0 f.ZJ dn)⟩ cells/\cells.length=8/\Mod (fun _=>False) w w':=by
 obtain⟨W0,hW0⟩:∃x,x=(fs.getD 0 YL).W0:=⟨_,rfl⟩
 obtain⟨H0,vG⟩:∃x,x=(fs.getD 0 YL).H0:=⟨_,rfl⟩
 have hg0:=Ib 0 (by omega);have hS1:W0=(d0.W:Int)/\H0=(d0.H:Int):=by
  unfold Ya.UG at hg0;rw [ZT,ZT,decide_eq_true_eq,decide_eq_true_eq]at hg0;exact⟨hW0.trans hg0.2.1,vG.trans hg0.2.2⟩
 obtain⟨b',o',hA',Fw,Zm,_⟩:=YZ.at_ 0 (by omega);injection hA' with hA';injection hA' with Ol Om;subst Ol Om;have c0:w.cell? ⟨b,o,none⟩=some (.int .i64 W0):=by have:=Zm 0 _ rfl;rw [hW0];simpa using this
 have c1:w.cell? ⟨b,o+1,none⟩=some (.int .i64 H0):=by have:=Zm 1 _ rfl;rw [vG];simpa using this
 have hdk:d0.Ok:=hd0 0 (XI _)
 have iL:∀w:World,Calls prog 92 #[.int .i64 W0,.int .i64 H0,.int .i64 (G:Int),.int .i64 (dn:Int)] w fun e w'=>e=.returned (.agg #[.int .i64 (d.W:Int),.int .i64 (d.H:Int),.int .i64 (G:Int)])/\Mod (fun _=>False) w w':=fun w=>by
  obtain⟨_,_,z1,_,z2,_⟩:=YB hdk.sides;obtain⟨x1,x2⟩:=KJ d0 ⟨by have:=hdk.w2;omega,by have:=hdk.h2;omega⟩ dn;have:=Bv w W0 H0 (G:Int) (dn:Int) ⟨by omega,by omega⟩ ⟨by have:=hS1.1;omega,by have:=hS1.1;omega⟩ ⟨by have:=hS1.2;omega,by have:=hS1.2;omega⟩;unfold bS at this;rw [hS1.1,hS1.2,x1,x2,<-hd]at this;rw [hS1.1,hS1.2];exact this
 have LS:=Z7 iL;have h0:=(((Sat.nil (fun _=>False) w).alloc 38 #[.string (strOf nm),.int .i64 (dn:Int),.int .i64 (q:Int),.int .i64 (tg:Int)] rfl).alloc (g:=w.heap.size+1) 43 #[.string ⟨#[]⟩,.int .i64 0,.int .i64 0,.int .i64 0,.int .i64 0,.int .i64 0,.int .i64 0,.slice none 0 0] (by simp)).alloc (g:=w.heap.size+1+1) 26 #[.int .i64 0] (by simp);have hs1:pX w b o 0 W0 H0 #[]->True:=fun _=>trivial;have MZ:=Z7 (Z9 h0 (Z9 YZ (Z9 he (Z9 Ib (Z9 hd0 (Z9 hdd hd))))));have HC:=Z7 (Z9 c0 (Z9 c1 Fw));have JD:0<n:=by omega
 have HSR:=Z7 RQ;obtain⟨Xa,wZ⟩:∃l,l=fs.map fun f=>Tu d0 f.ZJ dn:=⟨_,rfl⟩
 have Md:Xa.length=n:=by rw [wZ,Zg];exact YZ.len
 rw [<-wZ];have HFP:=Z7 wZ;clear wZ;clear h0 YZ he Ib hd0 hdd hd iL Zm c0 c1 Fw hg0 hW0 vG hs1 hdk RQ hS1;refine(callsIn_wide (n:=4)).1 ?_;refine callsIn_of_wp_marks func54 rfl trivial ?_ rfl;simp only [ntmps54,List.size_toArray,List.length_cons,List.length_nil,Nat.reduceAdd,Nat.reduceSub,Array.replicate_succ,Array.replicate_zero,List.push_toArray,List.append_toArray,List.nil_append,List.cons_append];refine wpIn_wide.2 ?_;go_upto_region 1 with(fail)
 go_cut [8]from 19 to 32 (fun v8 wx=>ak6 w.heap.size w d G #[.string (strOf nm),.int .i64 (dn:Int),.int .i64 (q:Int),.int .i64 (tg:Int)] #[.string ⟨#[]⟩,.int .i64 0,.int .i64 0,.int .i64 0,.int .i64 0,.int .i64 0,.int .i64 0,.slice none 0 0] v8 wx)
 case first=>
  have hpl:pX (((w.alloc (.cells #[.string (strOf nm),.int .i64 (dn:Int),.int .i64 (q:Int),.int .i64 (tg:Int)] 38)).alloc (.cells #[.string ⟨#[]⟩,.int .i64 0,.int .i64 0,.int .i64 0,.int .i64 0,.int .i64 0,.int .i64 0,.slice none 0 0] 43)).alloc (.cells #[.int .i64 0] 26)) b o w.heap.size W0 H0 #[.string (strOf nm),.int .i64 (dn:Int),.int .i64 (q:Int),.int .i64 (tg:Int)]:=by
   have hq:=MZ.out.1.ZX 2 rfl;dsimp only at hq;have hm:=MZ.out.1.mod;exact⟨(ZV (hm.block b HC.out.2.2 (fun h=>h))).trans HC.out.1,(ZV (hm.block b HC.out.2.2 (fun h=>h))).trans HC.out.2.1,hq,ZB HC.out.2.2 hm.size⟩
  have hs3:=MZ.out.1;have Td:=Z7 hs3;have HPL:=Z7 hpl;clear hpl hs3;generalize (((w.alloc (.cells #[.string (strOf nm),.int .i64 (dn:Int),.int .i64 (q:Int),.int .i64 (tg:Int)] 38)).alloc (.cells #[.string ⟨#[]⟩,.int .i64 0,.int .i64 0,.int .i64 0,.int .i64 0,.int .i64 0,.int .i64 0,.slice none 0 0] 43)).alloc (.cells #[.int .i64 0] 26))=w3 at Td HPL ⊢;refine aaf [13,14,15] [0,1,2,3,4,5,6,7,8,9,10,11,12] (PTree.after [0,1,2,3,4,5,6,7,8,9,10,11,12] (.fork 13 14 (.seq 14 (.seq 15 .nil)) (.seq 13 (.seq 15 .nil)))) (fun w'=>pX w' b o w.heap.size W0 H0 #[.string (strOf nm),.int .i64 (dn:Int),.int .i64 (q:Int),.int .i64 (tg:Int)]) (by kernel_rfl) (by kernel_rfl) (HPL.out.quiet ((Mod.refl _ _).drew)) ?_;refine Yu (v:=.slice (some ⟨b,o,none⟩) n c) rfl rfl rfl (fun _ _=>rfl) (fun K hK=>?_);go_simp;refine hK _ ?_;clear hK K;refine Yu (v:=.pointer (some ⟨b,o,none⟩)) rfl rfl rfl (fun w' _=>by go_simp) (fun K hK=>?_);go_simp;refine hK _ ?_;clear hK K;refine Yu (v:=.pointer (some ⟨b,o,none⟩)) rfl rfl rfl (fun _ _=>rfl) (fun K hK=>?_);go_simp;refine hK _ ?_;clear hK K;refine Yu (v:=.pointer (some ⟨b,o,none⟩)) rfl rfl rfl (fun _ _=>rfl) (fun K hK=>?_);go_simp;refine hK _ ?_;clear hK K;refine Ww rfl rfl _ _ rfl rfl b o rfl (.int .i64 W0) _ (fun w' hS=>hS.c0) underlying3 rfl (fun K hK=>?_);go_simp;refine hK _ ?_;clear hK K;refine Yu (v:=.slice (some ⟨b,o,none⟩) n c) rfl rfl rfl (fun _ _=>rfl) (fun K hK=>?_);go_simp;refine hK _ ?_;clear hK K;refine Yu (v:=.pointer (some ⟨b,o,none⟩)) rfl rfl rfl (fun w' _=>by go_simp) (fun K hK=>?_);go_simp;refine hK _ ?_;clear hK K;refine Yu (v:=.pointer (some ⟨b,o,none⟩)) rfl rfl rfl (fun _ _=>rfl) (fun K hK=>?_);go_simp;refine hK _ ?_;clear hK K;refine Yu (v:=.pointer (some ⟨b,o+1,none⟩)) rfl rfl rfl (fun _ _=>rfl) (fun K hK=>?_);go_simp;refine hK _ ?_;clear hK K;refine Ww rfl rfl _ _ rfl rfl b (o+1) rfl (.int .i64 H0) _ (fun w' hS=>hS.c1) underlying3 rfl (fun K hK=>?_);go_simp;refine hK _ ?_;clear hK K;refine Yu (v:=.int .i64 (G:Int)) rfl rfl rfl (fun _ _=>rfl) (fun K hK=>?_);go_simp;refine hK _ ?_;clear hK K;refine Yu (v:=.pointer (some ⟨w.heap.size,1,none⟩)) rfl rfl rfl (fun _ _=>rfl) (fun K hK=>?_);go_simp;refine hK _ ?_;clear hK K;refine Ww rfl rfl _ _ rfl rfl w.heap.size 1 rfl (.int .i64 (dn:Int)) _ (fun w' hS=>hS.rg.cell 1) underlying3 rfl (fun K hK=>?_);go_simp;refine hK _ ?_;clear hK K;have Td:=Z7 (Td.out.drew);have HPL:=Z7 (HPL.out.quiet ((Mod.refl (fun _=>False) w3).drew));generalize w3.drew=w3 at Td HPL ⊢;refine Vd rfl rfl (fun K hK=>?_) (fun K hK=>?_)
  ·go_simp;refine(LS.out w3).mono ?_;rintro e w4 ⟨rfl,Xl⟩;have IW:=Z7 (Td.out.quiet Xl);have jZ:=Z7 (HPL.out.quiet Xl);clear Xl;dsimp only [];refine hK _ _ jZ.out ?_;clear hK K;refine YO rfl rfl (fun K hK=>?_);go_simp;have GN:=Z7 (IW.out.alloc (g:=w4.heap.size) 40 #[.int .i64 0,.int .i64 0,.int .i64 0] rfl);have ahn:=Z7 (jZ.out.quiet ((Mod.refl (fun _=>False) w4).alloc (.cells #[.int .i64 0,.int .i64 0,.int .i64 0] 40)));obtain⟨sb,esb⟩:∃q,q=w4.heap.size:=⟨_,rfl⟩
   rw [<-esb]at GN ⊢;clear esb;generalize w4.alloc (.cells #[.int .i64 0,.int .i64 0,.int .i64 0] 40)=w5 at *;refine hK _ _ ahn.out ?_;clear hK K;refine Wm rfl rfl (fun K hK=>?_);rw [if_pos (by rfl)];have PH:=GN.out.ZX 0 rfl;dsimp only at PH;refine wp_store_row 40 (.tmp 8) (.tmp 32) rfl sb [.int .i64 (d.W:Int),.int .i64 (d.H:Int),.int .i64 (G:Int)] rfl rfl 40 [.int .i64 0,.int .i64 0,.int .i64 0] PH rfl (by kernel_rfl) (by kernel_rfl) (fun LM Tw Xk=>?_);go_simp;refine hK _ _ ?_;clear hK K;refine XC ?_;unfold oo;have HF:=Z7 (GN.out.turn Xk Tw .here);clear Tw Xk PH;go_wp2_with fail;go_meet;exact⟨sb,rfl,HF.out⟩
  ·go_simp;have IW:=Z7 (Td.out.alloc (g:=w3.heap.size) 40 #[.int .i64 0,.int .i64 0,.int .i64 0] rfl);have jZ:=Z7 (HPL.out.quiet ((Mod.refl (fun _=>False) w3).alloc (.cells #[.int .i64 0,.int .i64 0,.int .i64 0] 40)));obtain⟨sb,esb⟩:∃q,q=w3.heap.size:=⟨_,rfl⟩
   rw [<-esb]at IW ⊢;clear esb;generalize w3.alloc (.cells #[.int .i64 0,.int .i64 0,.int .i64 0] 40)=w4 at *;refine hK _ _ jZ.out ?_;clear hK K;refine YO rfl rfl (fun K hK=>?_);go_simp;refine(LS.out w4).mono ?_;rintro e w5 ⟨rfl,UR⟩;have GN:=Z7 (IW.out.quiet UR);have ahn:=Z7 (jZ.out.quiet UR);clear UR;dsimp only [];refine hK _ _ ahn.out ?_;clear hK K;refine Wm rfl rfl (fun K hK=>?_);rw [if_pos (by rfl)];have PH:=GN.out.ZX 0 rfl;dsimp only at PH;refine wp_store_row 40 (.tmp 8) (.tmp 32) rfl sb [.int .i64 (d.W:Int),.int .i64 (d.H:Int),.int .i64 (G:Int)] rfl rfl 40 [.int .i64 0,.int .i64 0,.int .i64 0] PH rfl (by kernel_rfl) (by kernel_rfl) (fun LM Tw Xk=>?_);go_simp;refine hK _ _ ?_;clear hK K;refine XC ?_;unfold oo;have HF:=Z7 (GN.out.turn Xk Tw .here);clear Tw Xk PH;go_wp2_with fail;go_meet;exact⟨sb,rfl,HF.out⟩
 case rest=>
  obtain⟨sb,rfl,Bq⟩:=hcut;rename World=>w4
  have PH:=Bq.ZX 0 rfl;have Rq:=Bq.ZX 3 rfl;dsimp only at PH Rq;obtain⟨sc,sf⟩:=PH.both;obtain⟨rc,rf⟩:=Rq.both;have IW:=Z7 Bq;clear Bq PH Rq;go_wp2_with fail;refine(ah3 _ d G q tg HSR.out hq ht).mono ?_;rintro e w5 ⟨g,rfl,hE,hg,UR⟩;have hs5:=IW.out.quiet UR;clear sc sf rc rf;have PH:=hs5.ZX 0 rfl;have Rq:=hs5.ZX 3 rfl;dsimp only at PH Rq;obtain⟨sc,sf⟩:=PH.both;obtain⟨rc,rf⟩:=Rq.both;have sl:=PH.lt;have rl:=Rq.lt;have GN:=Z7 (Z9 hs5 (Z9 hE hg));clear hs5 PH Rq hE hg UR;go_wp2_with fail;refine(acj _ (some ⟨b,o,none⟩) n c (G:Int)).mono ?_;rintro e w6 ⟨rfl,rfl⟩;clear sc sf rc rf sl rl;go_wp2_with fail;have hz:=GN.out.1;have J7:=((((hz.alloc (g:=w5.heap.size) 186 #[.pointer (some ⟨g,0,none⟩)] rfl).alloc (g:=w5.heap.size+1) 26 #[.int .i64 0] (by simp)).alloc (g:=w5.heap.size+1+1) 43 #[.string (strOf nm),.int .i64 (dn:Int),.int .i64 (q:Int),.int .i64 (tg:Int),.int .i64 (d.W:Int),.int .i64 (d.H:Int),.int .i64 (G:Int),.slice none 0 0] (by simp)).alloc (g:=w5.heap.size+1+1+1) 29 #[.slice (some ⟨b,o,none⟩) n c] (by simp)).alloc (g:=w5.heap.size+1+1+1+1) 3 #[.int .i64 (G:Int)] (by simp);have Xt:Mod (fun _=>False) w5 (((((w5.alloc (.cells #[.pointer (some ⟨g,0,none⟩)] 186)).alloc (.cells #[.int .i64 0] 26)).alloc (.cells #[.string (strOf nm),.int .i64 (dn:Int),.int .i64 (q:Int),.int .i64 (tg:Int),.int .i64 (d.W:Int),.int .i64 (d.H:Int),.int .i64 (G:Int),.slice none 0 0] 43)).alloc (.cells #[.slice (some ⟨b,o,none⟩) n c] 29)).alloc (.cells #[.int .i64 (G:Int)] 3)):=(((((Mod.refl _ w5).alloc _).alloc _).alloc _).alloc _).alloc _;have hz6:(((((w5.alloc (.cells #[.pointer (some ⟨g,0,none⟩)] 186)).alloc (.cells #[.int .i64 0] 26)).alloc (.cells #[.string (strOf nm),.int .i64 (dn:Int),.int .i64 (q:Int),.int .i64 (tg:Int),.int .i64 (d.W:Int),.int .i64 (d.H:Int),.int .i64 (G:Int),.slice none 0 0] 43)).alloc (.cells #[.slice (some ⟨b,o,none⟩) n c] 29)).alloc (.cells #[.int .i64 (G:Int)] 3)).heap.size=w5.heap.size+5:=by simp only [World.size_alloc]
  refine(wpIn_wide (n:=4)).1 ?_;clear hz;generalize (((((w5.alloc (.cells #[.pointer (some ⟨g,0,none⟩)] 186)).alloc (.cells #[.int .i64 0] 26)).alloc (.cells #[.string (strOf nm),.int .i64 (dn:Int),.int .i64 (q:Int),.int .i64 (tg:Int),.int .i64 (d.W:Int),.int .i64 (d.H:Int),.int .i64 (G:Int),.slice none 0 0] 43)).alloc (.cells #[.slice (some ⟨b,o,none⟩) n c] 29)).alloc (.cells #[.int .i64 (G:Int)] 3))=w6 at J7 Xt hz6 ⊢;obtain⟨p,hp⟩:∃p:qZ,p=⟨⟨nm,(dn:Int),(q:Int),(tg:Int)⟩,G,tg,d,w.heap.size,w.heap.size+1,w.heap.size+1+1,w5.heap.size,w5.heap.size+1,w5.heap.size+1+1,g,w5.heap.size+1+1+1,w5.heap.size+1+1+1+1,w6.heap.size⟩:=⟨_,rfl⟩
  have hI0:qY w p Xa q 0 w6:=by
   have b0:=J7.ZX 8 rfl;have b1:=J7.ZX 7 rfl;have b2:=J7.ZX 6 rfl;have b3:=J7.ZX 4 rfl;have b4:=J7.ZX 3 rfl;have b5:=J7.ZX 2 rfl;have b6:=J7.ZX 1 rfl;dsimp only at b0 b1 b2 b3 b4 b5 b6;have e4:=(IW.out.ZX 1 rfl).lt;dsimp only at e4;have eg:=(GN.out.2.1 KZ).lt;have eH:=GN.out.2.2;have hw4:=IW.out.mod.size;subst hp;refine⟨⟨.slice none 0 0,b0,b1,b2,b3,b5,.nil _ _,fun k hk=>by simp [Value.ownBlock]at hk,⟨?_,?_,?_,?_,?_,?_⟩,⟨ZY _,ZY _⟩⟩,b4,?_,⟨_,b6⟩,J7.mod⟩
   ·dsimp only;omega
   ·dsimp only;omega
   ·dsimp only;omega
   ·dsimp only;omega
   ·dsimp only;omega
   ·dsimp only;omega
   ·rw [Nat.zero_mul,Nat.zero_min];exact(GN.out.2.1 KZ).quiet Xt
  have hcb:=J7.ZX 1 rfl;have sF:=J7.ZX 0 rfl;dsimp only at hcb sF;have HP:=Z7 hp;have hL:p.L=w6.heap.size:=by rw [hp]
  have Gq:p.cb=w5.heap.size+1+1+1:=by rw [hp]
  have hpg:p.jE=w5.heap.size+1+1+1+1:=by rw [hp]
  have hI:=qY.turn (p:=p) (Xa:=Xa) (q0:=q) (B:=w6.heap.size) J7.mod.size;have HI:=Z7 hI;have hsg:=aec (E:=fun _=>True) 3 (by decide) w6 b o n c G (w5.heap.size+1+1+1) (w5.heap.size+1+1+1+1) hG xA hc hcb sF (by omega);have HSG:=Z7 (Z9 hsg (Z9 hI0 J7.mod.size));clear hsg hI0 hI hcb sF hp J7 Xt
  refine aaB (α:=Nat) (E:=fun _=>True) (n:=4) (by decide) (gf:=148) (lb:=#[.pointer (some ⟨w5.heap.size+1+1+1,0,none⟩),.pointer (some ⟨w5.heap.size+1+1+1+1,0,none⟩)]) rfl (enters_of func148 (by kernel_rfl) rfl) (fun _=>rfl)
   HSG.out.1 (by omega) (fun h k=>h.trans k) (fun W l o hl=>Lv.put (by omega) (by omega))
   (fun pre W=>qY w p Xa q pre.length W) (fun _=>False) HI.out (fun _ _ _ _ h _ _=>h.elim) (fun _ _ _=>trivial) (fun pre W W' h hm=>h.quiet hm) (fun pre W v h=>by rw [<-Gq];exact h.state v) HSG.out.2.1
   (fun x=>{ tmps:=#[.slice (some ⟨b,o,none⟩) n c,.int .i64 (G:Int),.agg #[.string (strOf nm),.int .i64 (dn:Int),.int .i64 (q:Int),.int .i64 (tg:Int)],undef,undef,.pointer (some ⟨w.heap.size,0,none⟩),.pointer (some ⟨w.heap.size+1,0,none⟩),.pointer (some ⟨w.heap.size+1+1,0,none⟩),.pointer (some ⟨sb,0,none⟩),.pointer (some ⟨w5.heap.size,0,none⟩),.pointer (some ⟨w5.heap.size+1,0,none⟩),.pointer (some ⟨w5.heap.size+1+1,0,none⟩),oO b o c G n x,undef,undef,undef,undef,undef,undef,u19,u20,u21,u22,u23,u24,u25,u26,u27,u28,u29,u30,u31,u32,.tuple #[.pointer (some ⟨g,0,none⟩),.int .i64 0],.agg #[.int .i64 (d.W:Int),.int .i64 (d.H:Int),.int .i64 (G:Int)],.pointer (some ⟨w.heap.size,2,none⟩),.int .i64 (q:Int),.pointer (some ⟨w.heap.size,3,none⟩),.int .i64 (tg:Int),.tuple #[.pointer (some ⟨g,0,none⟩),.int .i64 0],.pointer (some ⟨g,0,none⟩),.int .i64 0,.int .i64 0,.bool false,undef,undef,.agg #[.string (strOf nm),.int .i64 (dn:Int),.int .i64 (q:Int),.int .i64 (tg:Int)],.agg #[.int .i64 (d.W:Int),.int .i64 (d.H:Int),.int .i64 (G:Int)],.agg #[.string (strOf nm),.int .i64 (dn:Int),.int .i64 (q:Int),.int .i64 (tg:Int),.int .i64 (d.W:Int),.int .i64 (d.H:Int),.int .i64 (G:Int),.slice none 0 0],.slice (some ⟨b,o,none⟩) n c,.int .i64 (G:Int),.func (.func 148) #[] #[.pointer (some ⟨w5.heap.size+1+1+1,0,none⟩),.pointer (some ⟨w5.heap.size+1+1+1+1,0,none⟩)],oO b o c G n x,undef,undef,undef,undef,undef,undef,undef,undef,undef,undef,undef,undef,undef,undef,undef,undef,undef,undef,undef,undef,undef,undef,undef,undef,undef,undef,undef,undef,undef,undef,undef,undef,undef,undef,undef,undef,undef,undef,undef,undef,undef,undef,undef,undef,undef,undef,undef,undef,undef,undef,undef,undef,undef],defers:=[] }) ?assign ?body ?done ?stop
  case assign=>
   intro l x W K hK;gi_wp2_with fail
   exact hK
  case body=>
   rintro l pre i W hIp ⟨i',zK,hiN⟩;have aA:pre.length=i/\i'=i:=by
    have h1:(pre++[i]).length=i'+1:=by rw [zK,XO]
    have h2:(pre++[i])[pre.length]?=(Zz (i'+1))[pre.length]?:=by rw [zK]
    rw [YW,V3]at h1;rw [List.getElem?_append_right (ZY _),Nat.sub_self,List.getElem?_range (by omega)]at h2;simp at h2;omega
   obtain⟨EE,rfl⟩:=aA;rw [EE]at hIp;obtain⟨v,hK0⟩:=hIp.start;have hiG:i'*G<n:=(EI hG.1).1 hiN;have hpG:p.G=G:=by rw [HP.out]
   have hpd:p.d=d:=by rw [HP.out]
   have hpt:p.tg=tg:=by rw [HP.out]
   have hsl:Rl G n i'=min G (n-i'*G):=rfl;have hlen:(pre++[i']).length=i'+1:=by rw [YW,V3,EE]
   have HB:=Z7 (Z9 hIp (Z9 hiN (Z9 EE (Z9 hpG (Z9 hpd (Z9 hpt hlen))))));have HK0:=Z7 hK0;clear hIp hiN zK EE hK0 hpG hpd hpt hlen;obtain⟨N,hN⟩:∃N,N=Rl G n i':=⟨_,rfl⟩
   unfold oO;rw [<-hN];have qp:1<=N/\N<=G/\N<=n-i'*G:=by omega
   obtain⟨C,hC⟩:∃C,C=c-i'*G:=⟨_,rfl⟩
   rw [<-hC];have hNC:N<=C:=by omega
   have HN:=Z7 (Z9 hN hC);clear hN hC hsl;gi_wp2_with fail
   gi_loopw [55] (kG w.heap.size W p v W.heap.size ((Zz i').map (SI p.d p.G p.tg q Xa)) W.heap.size Xa q i') (fun s _=>N-(intOf s).toNat)
   case atStart=>
    refine⟨0,W.heap.size+1,.slice none 0 0,.slice none 0 0,XI _,rfl,?_⟩;have h:=HK0.out;have e:min (i'*p.G) Xa.length=i'*p.G:=by rw [HB.out.2.2.2.1,Md];omega
    rw [e]at h;rw [Nat.add_zero,Nat.zero_mod];exact h
   case round=>
    clear HK0;obtain⟨j,T,sv,fv,hj,rfl,hK⟩:=hrel;rename World=>wj
    have hjN:j<=N:=by rw [HN.out.1,<-HB.out.2.2.2.1,<-Md];exact hj
    have HJ:=Z7 hj;clear hj;by_cases hlt:j<N
    ·have d1:decide ((j:Int)<(N:Int))=true:=decide_eq_true (by omega);have hold:=hK.old HB.out.1.old;have mE:i'*G+j<n:=by omega
     obtain⟨b',o',hA',lW,Zm,eD⟩:=(MZ.out.2.1.quiet hold).at_ (i'*G+j) mE;have hfw:(fs.getD (i'*G+j) YL).In w:=by
      obtain⟨_,_,_,_,_,h⟩:=MZ.out.2.1.at_ (i'*G+j) mE;exact h
     injection hA' with hA';injection hA' with Ol Om;rw [<-Ol,<-Om]at Zm;clear Ol Om lW;obtain⟨f,hf⟩:∃f,f=fs.getD (i'*G+j) YL:=⟨_,rfl⟩
     have mg:=MZ.out.2.2.2.1 (i'*G+j) mE;rw [<-hf]at Zm eD hfw mg;have eo:o+(i'*G+j)*9=o+i'*G*9+j*9:=by rw [Y5];omega
     rw [eo]at Zm;have k0:wj.cell? ⟨b,o+i'*G*9+j*9,none⟩=some (.int .i64 f.W0):=Zm 0 _ rfl;have k1:=Zm 1 _ rfl;have k2:=Zm 2 _ rfl;have k3:=Zm 3 _ rfl;have k4:=Zm 4 _ rfl;have k5:=Zm 5 _ rfl;have k6:=Zm 6 _ rfl;have k7:=Zm 7 _ rfl;have k8:=Zm 8 _ rfl;have hrg:ZI wj w.heap.size 38 #[.string (strOf nm),.int .i64 (dn:Int),.int .i64 (q:Int),.int .i64 (tg:Int)]:=by have:=hK.bs.rg;rw [HP.out]at this;exact this
     obtain⟨rc,rf⟩:=hrg.both;have rl:=hrg.lt;have xq:=Ya.low (MZ.out.2.2.2.2.1 0 (XI _)) mg hfw;have Me:Mod (fun _=>False) wj (wj.alloc (.cells f.cells.toArray 58)):=(Mod.refl _ wj).alloc _;have o7:ahs (wj.alloc (.cells f.cells.toArray 58)) wj.heap.size p.eb (d0.Xu 0) (Tu d0 f.ZJ 0) f:=by
      refine⟨ZI.new _ _ _,eD.quiet' Me,mg,rfl,fun ad e=>?_⟩;have z1:=xq ad e;have z2:=hold.size;have z3:=hK.bs.ok.low;omega
     have ER:=(hK.raise).quiet Me;have HK:=Z7 (Z9 ER (Z9 o7 (Z9 hf (Z9 hold hK.raise.zt))));clear hK hold Zm eD hfw mg hrg xq Me o7 ER hf eo;gi_wp2_with fail
     gi_loopw [61] (afH w.heap.size W p v W.heap.size ((Zz i').map (SI p.d p.G p.tg q Xa)) W.heap.size wj.heap.size sv fv ((V8 p.d p.G p.tg q Xa i' j).map Prod.fst) ((V8 p.d p.G p.tg q Xa i' j).map Prod.snd) (Xr p.d p.G p.tg q Xa (i'*p.G+j)).1 (j % p.G) (Xr p.d p.G p.tg q Xa (i'*p.G+j)).2 wj.heap.size dn d0 f.ZJ) (fun s _=>dn-(intOf s).toNat)
     case atStart=>exact⟨0,f,XI _,rfl,HK.out.2.1,HK.out.1⟩
     case round=>
      clear k0 k1 k2 k3 k4 k5 k6 k7 k8 rc rf rl;obtain⟨m,fx,hm,rfl,o7,hKq⟩:=hrel;rename World=>wq
      have UQ:=o7.blk;unfold Vh at UQ;obtain⟨bc,bf⟩:=UQ.both;have bl:=UQ.lt;by_cases hlm:m<dn
      ·have d2:decide ((m:Int)<(dn:Int))=true:=decide_eq_true (by omega);have hdm:=MZ.out.2.2.2.2.2.1 m hlm;have aiV:=MZ.out.2.2.2.2.1 (m+1) (by omega);have hCD:=af4 wq (d0.Xu m) (MZ.out.2.2.2.2.1 m hm) aiV hdm.1 hdm.2 fx o7.good o7.RU;unfold Vh at hCD;have HQ:=Z7 (Z9 hKq (Z9 o7 (Z9 UQ hCD)));clear hKq o7 UQ hCD hdm aiV;gi_wp2_with fail
       refine⟨trivial,(CallsIn.inRound l (callsIn_wide.2 HQ.out.2.2.2)).mono ?_⟩;rintro e w7 ⟨fy,rfl,Cq,hg7,hp7,ho7,Sn⟩;have wV:=HQ.out.1.quiet Sn;have yx:=HQ.out.2.2.1.keep Sn (fun h=>h);have he7:ZI w7 (w5.heap.size+1) 26 #[.int .i64 0]:=by have:=wV.e0;rw [HP.out]at this;exact this
       clear bc bf bl;obtain⟨bc,bf⟩:=yx.both;have bl:=yx.lt;obtain⟨ec,ef⟩:=he7.both;have el:=he7.lt;have nfe:wj.heap.size≠w5.heap.size+1:=by have:=(HK.out.1.SL (ZY _)).1;rw [HP.out]at this;exact this
       have HE:=Z7 (Z9 wV (Z9 yx (Z9 Cq (Z9 hg7 (Z9 hp7 ho7)))));clear wV yx he7 Cq hg7 hp7 ho7 Sn;gi_wp2_with fail
       have hst:=acu (P:=Tu d0 f.ZJ (m+1)) (d:=d0.Xu (m+1)) HE.out.1 (ZY _) HE.out.2.1 HE.out.2.2.1 HE.out.2.2.2.1 (by rw [HE.out.2.2.2.2.1,HQ.out.2.1.ZJ];rfl) (fun ad e=>ZB HQ.out.2.2.1.lt (HE.out.2.2.2.2.2 ad e));have pz:p.eb=w5.heap.size+1:=by rw [HP.out]
       rw [<-pz];exact⟨⟨m+1,fy,hlm,rfl,hst.1,hst.2⟩,Rb hlm⟩
      ·obtain rfl:dn=m:=by omega
       have d2:decide ((dn:Int)<(dn:Int))=false:=decide_eq_false (by omega);have bC:ZI wq w5.heap.size 186 #[.pointer (some ⟨g,0,none⟩)]:=by have:=hKq.bs.xp;rw [HP.out]at this;exact this
       obtain⟨xc,xf⟩:=bC.both;have xl:=bC.lt;have hCF:Calls prog 97 #[.pointer (some ⟨g,0,none⟩),.agg fx.cells.toArray] wq (E8 wq g d G (Xr d G tg q Xa (i'*G+j)).1 tg (j % G) (U0 d G tg q Xa (i'*G+j))):=by
        have hE:Uu wq g d G (Xr d G tg q Xa (i'*G+j)).1 tg (j % G) (Xr d G tg q Xa (i'*G+j)).2:=by have:=hKq.enc;rw [HP.out]at this;exact this
        have mg:=o7.good;rw [<-MZ.out.2.2.2.2.2.2]at mg;have jI:=MZ.out.2.2.2.2.1 dn (ZY _);rw [<-MZ.out.2.2.2.2.2.2]at jI;refine aaz (r:=U0 d G tg q Xa (i'*G+j)) hE (MZ.out.2.2.1.quiet (hKq.old HB.out.1.old)) jI hW hH hG (zk hq _) ht (Nat.mod_lt _ (by omega)) fx o7.RU mg ?_;unfold U0;rw [YA i' G,Nat.mul_add_mod,o7.ZJ,HFP.out,xO (by rw [MZ.out.2.1.len,YA];exact mE),YA G i',<-HK.out.2.2.1]
       unfold Vh at hCF;have HQ:=Z7 (Z9 hKq hCF);clear hKq o7 UQ hCF bC;gi_wp2_with fail
       refine⟨trivial,(CallsIn.inRound l (callsIn_wide.2 HQ.out.2)).mono ?_⟩;rintro e w7 ⟨A7,c7,g0,g1,g2,rfl,hB7,hf7,jK,hE7,Sn⟩;clear bc bf bl xc xf xl;obtain⟨r,hr⟩:∃r,r=U0 d G tg q Xa (i'*G+j):=⟨_,rfl⟩
       rw [<-hr]at hB7 hf7 hE7 ⊢;have sF:p.g=g:=by rw [HP.out]
       have wV:=HQ.out.1.rJ (by rw [HB.out.2.2.2.1];exact hG.1) (by rw [sF];exact Sn) (by rw [HP.out];rw [hr]at hE7;exact hE7);have Me:Mod (fun _=>False) w7 (w7.alloc (.cells #[.int .i64 (d.W:Int),.int .i64 (d.H:Int),.slice (some ⟨g0,0,none⟩) d.nY d.nY,.int .i64 (d.W2:Int),.int .i64 (d.H2:Int),.slice (some ⟨g1,0,none⟩) d.nC d.nC,.int .i64 (d.W2:Int),.int .i64 (d.H2:Int),.slice (some ⟨g2,0,none⟩) d.nC d.nC] 58)):=(Mod.refl _ w7).alloc _;have hK8:=wV.quiet Me;have jP:ZI (w7.alloc (.cells #[.int .i64 (d.W:Int),.int .i64 (d.H:Int),.slice (some ⟨g0,0,none⟩) d.nY d.nY,.int .i64 (d.W2:Int),.int .i64 (d.H2:Int),.slice (some ⟨g1,0,none⟩) d.nC d.nC,.int .i64 (d.W2:Int),.int .i64 (d.H2:Int),.slice (some ⟨g2,0,none⟩) d.nC d.nC] 58)) w7.heap.size 58 #[.int .i64 (d.W:Int),.int .i64 (d.H:Int),.slice (some ⟨g0,0,none⟩) d.nY d.nY,.int .i64 (d.W2:Int),.int .i64 (d.H2:Int),.slice (some ⟨g1,0,none⟩) d.nC d.nC,.int .i64 (d.W2:Int),.int .i64 (d.H2:Int),.slice (some ⟨g2,0,none⟩) d.nC d.nC]:=ZI.new _ _ _
       have hFS:∀k,wq.heap.size<=k->k<w7.heap.size->FS W.heap.size w7.heap.size sv fv k:=fun k h1 h2=>by
        have z1:=HQ.out.1.zt;have z2:=HQ.out.1.own;exact⟨by omega,h2,fun e=>by have:=z2.1 k e;omega,fun e=>by have:=z2.2 k e;omega⟩
       have hbv:Nb (w7.alloc (.cells #[.int .i64 (d.W:Int),.int .i64 (d.H:Int),.slice (some ⟨g0,0,none⟩) d.nY d.nY,.int .i64 (d.W2:Int),.int .i64 (d.H2:Int),.slice (some ⟨g1,0,none⟩) d.nC d.nC,.int .i64 (d.W2:Int),.int .i64 (d.H2:Int),.slice (some ⟨g2,0,none⟩) d.nC d.nC] 58)) (FS W.heap.size w7.heap.size sv fv) (.slice A7 r.1.length c7) r.1:=
        Nb.Oy (hB7.quiet Me) (fun k hk=>hFS k (hB7.lt k hk).1 (hB7.lt k hk).2)
       have iD:Wd (w7.alloc (.cells #[.int .i64 (d.W:Int),.int .i64 (d.H:Int),.slice (some ⟨g0,0,none⟩) d.nY d.nY,.int .i64 (d.W2:Int),.int .i64 (d.H2:Int),.slice (some ⟨g1,0,none⟩) d.nC d.nC,.int .i64 (d.W2:Int),.int .i64 (d.H2:Int),.slice (some ⟨g2,0,none⟩) d.nC d.nC] 58)) (FS W.heap.size w7.heap.size sv fv) d r.2 [.int .i64 (d.W:Int),.int .i64 (d.H:Int),.slice (some ⟨g0,0,none⟩) d.nY d.nY,.int .i64 (d.W2:Int),.int .i64 (d.H2:Int),.slice (some ⟨g1,0,none⟩) d.nC d.nC,.int .i64 (d.W2:Int),.int .i64 (d.H2:Int),.slice (some ⟨g2,0,none⟩) d.nC d.nC]:=
        Wd.ah2 (hf7.quiet Me) (hFS g0 jK.1 hf7.Ff.lt) (hFS g1 jK.2.1 hf7.bu.lt) (hFS g2 jK.2.2 hf7.bv.lt)
       obtain⟨xs,hrow,Hy⟩:=hK8.yI;have iI:=hK8.uo;obtain⟨gc,gf⟩:=iI.both;have gl:=iI.lt;obtain⟨tc,tf⟩:=jP.both;have tl:=jP.lt;have nss:((V8 p.d p.G p.tg q Xa i' j).map Prod.fst).length=j:=by simp [V8]
       have nff:((V8 p.d p.G p.tg q Xa i' j).map Prod.snd).length=j:=by simp [V8]
       rw [nss]at hrow;have akl:W.heap.size+1<=(w7.alloc (.cells #[.int .i64 (d.W:Int),.int .i64 (d.H:Int),.slice (some ⟨g0,0,none⟩) d.nY d.nY,.int .i64 (d.W2:Int),.int .i64 (d.H2:Int),.slice (some ⟨g1,0,none⟩) d.nC d.nC,.int .i64 (d.W2:Int),.int .i64 (d.H2:Int),.slice (some ⟨g2,0,none⟩) d.nC d.nC] 58)).heap.size:=by have:=hK8.zt;omega
       have alM:j<=64:=by omega
       have ntg:w7.heap.size≠W.heap.size:=by have:=wV.zt;omega
       have H8:=Z7 (Z9 hK8 (Z9 hrow (Z9 Hy (Z9 hbv (Z9 iD (Z9 iI (Z9 jP (Z9 hr (Z9 nff nss)))))))));clear hB7 hf7 jK hE7 Sn wV Me hK8 jP hFS hbv iD hrow Hy iI hr nss nff sF;unfold YF;gi_wp2_with (gi_at_builtin;refine Hid.out ?_)
       refine Z7 ?_;refine QG (w7.alloc (.cells #[.int .i64 (d.W:Int),.int .i64 (d.H:Int),.slice (some ⟨g0,0,none⟩) d.nY d.nY,.int .i64 (d.W2:Int),.int .i64 (d.H2:Int),.slice (some ⟨g1,0,none⟩) d.nC d.nC,.int .i64 (d.W2:Int),.int .i64 (d.H2:Int),.slice (some ⟨g2,0,none⟩) d.nC d.nC] 58)) rfl (.tmp 85) (.tmp 87) 47 54 rfl underlying47 (.slice none 0 0) 1 24 yT rfl (by decide) (W.heap.size+1) sv j xs [.slice A7 r.1.length c7] rfl (fun u hu=>by rw [List.mem_singleton.1 hu];rfl) (w7.heap.size+1) (by simp) rfl rfl H8.out.2.1 akl (by unfold maxLen;omega) (by omega) ?_;intro sv2 w9 y1 y2 _ y4;obtain⟨As,cs2,rfl⟩:=ZG y1;have HA:=Z7 (Z9 y1 (Z9 y2 y4));clear y1 y2 y4 gc gf gl tc tf tl;have hpd:p.d=d:=by rw [HP.out]
       have ik:=Ux.ahW H8.out.1 H8.out.2.2.2.1 H8.out.2.2.1 (by rw [H8.out.2.2.2.2.2.2.2.2.2];exact HA.out.1) HA.out.2.1 HA.out.2.2;have eB:=Ux.ac4 H8.out.1 (by rw [hpd];exact H8.out.2.2.2.2.1) HA.out.2.1 HA.out.2.2;have iJ:=H8.out.2.2.2.2.2.1.keep HA.out.2.1 (fun e=>by have:=(H8.out.1.yI.blk e).1;omega);have aR:=H8.out.2.2.2.2.2.2.1.keep HA.out.2.1 (fun e=>by obtain⟨_,cs,hq⟩:=H8.out.1.yI.blk e;exact hq.SL H8.out.2.2.2.2.2.2.1 (by decide) rfl);obtain⟨gc,gf⟩:=iJ.both;have gl:=iJ.lt;obtain⟨tc,tf⟩:=aR.both;have tl:=aR.lt;obtain⟨xs2,hrow2,dY⟩:=ik.wS;rw [H8.out.2.2.2.2.2.2.2.2.1]at hrow2;have aii:W.heap.size+1<=(w9.setCell ⟨W.heap.size,0,none⟩ (.slice As (j+1) cs2)).heap.size:=by have:=ik.zt;omega
       have PI:=Z7 (Z9 ik (Z9 eB (Z9 hrow2 (Z9 dY (Z9 iJ hpd)))));clear ik eB iJ aR hrow2 dY hpd;gi_wp2_with (gi_at_builtin;refine Hid.out ?_)
       refine Z7 ?_;refine QG (w9.setCell ⟨W.heap.size,0,none⟩ (.slice As (j+1) cs2)) rfl (.tmp 91) (.tmp 93) 29 58 rfl underlying29 (.agg #[.int .i64 0,.int .i64 0,.slice none 0 0,.int .i64 0,.int .i64 0,.slice none 0 0,.int .i64 0,.int .i64 0,.slice none 0 0]) 9 120 zy rfl (by decide) (W.heap.size+1) fv j xs2 [.int .i64 (d.W:Int),.int .i64 (d.H:Int),.slice (some ⟨g0,0,none⟩) d.nY d.nY,.int .i64 (d.W2:Int),.int .i64 (d.H2:Int),.slice (some ⟨g1,0,none⟩) d.nC d.nC,.int .i64 (d.W2:Int),.int .i64 (d.H2:Int),.slice (some ⟨g2,0,none⟩) d.nC d.nC] rfl (Jc d g0 g1 g2) w9.heap.size (by simp) rfl rfl PI.out.2.2.1 aii (by unfold maxLen;omega) (by omega) ?_;intro fv2 LM y1 y2 _ y4;obtain⟨Af,cf2,rfl⟩:=ZG y1;have HA2:=Z7 (Z9 y1 (Z9 y2 y4));clear y1 y2 y4 gc gf gl tc tf tl;have ajb:=Ux.ahV PI.out.1 PI.out.2.1 rfl PI.out.2.2.2.1 (by rw [H8.out.2.2.2.2.2.2.2.2.1];exact HA2.out.1) HA2.out.2.1 HA2.out.2.2;have mq:=PI.out.1.uo.keep HA2.out.2.1 (fun e=>by have:=(PI.out.1.wS.blk e).1;omega);obtain⟨gc,gf⟩:=mq.both;have gl:=mq.lt;have H12:=Z7 ajb;clear ajb mq;gi_wp2_with fail
       have aD:U0 p.d p.G p.tg q Xa (i'*p.G+j)=r:=by rw [H8.out.2.2.2.2.2.2.2.1,HP.out]
       have hrel:kG w.heap.size W p v W.heap.size ((Zz i').map (SI p.d p.G p.tg q Xa)) W.heap.size Xa q i' (.int .i64 ((j+1:Nat):Int)) (LM.setCell ⟨W.heap.size,1,none⟩ (.slice Af (j+1) cf2)):=by
        refine⟨j+1,LM.heap.size,.slice As (j+1) cs2,.slice Af (j+1) cf2,by rw [Md,HB.out.2.2.2.1,<-HN.out.1];exact hlt,rfl,?_⟩;rw [DZ,YP,YP,aD];exact H12.out
       exact⟨hrel,Rb hlt⟩
    ·obtain rfl:N=j:=by omega
     have d1:decide ((N:Int)<(N:Int))=false:=decide_eq_false (by omega);have bC:ZI wj w5.heap.size 186 #[.pointer (some ⟨g,0,none⟩)]:=by have:=hK.bs.xp;rw [HP.out]at this;exact this
     obtain⟨xc,xf⟩:=bC.both;have xl:=bC.lt;have hE:Uu wj g d G (Xr d G tg q Xa (i'*G+N)).1 tg (N % G) (Xr d G tg q Xa (i'*G+N)).2:=by have:=hK.enc;rw [HP.out]at this;exact this
     have HE:=Z7 (Z9 hK hE.end_);clear hK bC hE;gi_wp2_with fail
     refine⟨trivial,(CallsIn.inRound l (callsIn_wide.2 HE.out.2)).mono ?_⟩;rintro e w7 ⟨rfl,hE7,Sn⟩;clear xc xf xl;have sF:p.g=g:=by rw [HP.out]
     have wV:=HE.out.1.code (by rw [sF];exact Sn) (by rw [HP.out];exact hE7);have hgb:=wV.uo;obtain⟨gc,gf⟩:=hgb.both;have gl:=hgb.lt;have Fy:ZI w7 (w5.heap.size+1+1) 43 (BB ⟨nm,(dn:Int),(q:Int),(tg:Int)⟩ d G v).toArray:=by have:=wV.bs.bJ;rw [HP.out]at this;exact this
     unfold BB Rg.cells at Fy;obtain⟨mc,mf⟩:=Fy.both;have ml:=Fy.lt;obtain⟨xs,hrow,Hy⟩:=wV.bs.TD;rw [Zg,XO]at hrow;have alU:i'<=1024:=by
      have h1:=HB.out.2.1;have h2:=(EI (n:=n) hG.1).1 h1;have h3:i'*1<=i'*G:=Nat.mul_le_mul (ZY _) hG.1;omega
     have akm:p.L<=w7.heap.size:=by have:=wV.zt;have:=wV.bs.lz;omega
     have mQ:∀u∈[sv,fv],u.oneCell'=true:=by
      obtain⟨_,_,h1⟩:=wV.yI.shape;obtain⟨_,_,h2⟩:=wV.wS.shape;intro u hu;rcases List.mem_cons.1 hu with rfl|hu
      ·rw [h1];rfl
      ·rw [List.mem_singleton.1 hu,h2];rfl
     have H7:=Z7 (Z9 wV (Z9 hrow (Z9 Hy (Z9 Fy mQ))));clear wV hgb Fy hrow Hy hE7 Sn sF mQ;gi_wp2_with (gi_at_builtin;refine Hid.out ?_)
     refine Z7 ?_;refine QG w7 rfl (.tmp 100) (.tmp 102) 41 49 rfl underlying41 (.agg #[.slice none 0 0,.slice none 0 0]) 2 48 aea rfl (by decide) p.L v i' xs [sv,fv] rfl H7.out.2.2.2.2 w7.heap.size rfl rfl rfl H7.out.2.1 akm (by unfold maxLen;omega) (by omega) ?_;intro v2 w9 y1 y2 _ y4;obtain⟨As,cs2,rfl⟩:=ZG y1;have HA:=Z7 (Z9 y1 (Z9 y2 y4));clear y1 y2 y4 gc gf gl mc mf ml;have ae:=H7.out.2.2.2.1.keep HA.out.2.1 (fun e=>by have:=(H7.out.1.bs.vz _ e).1;omega);obtain⟨mc,mf⟩:=ae.both;have ml:=ae.lt;have Jh:V8 p.d p.G p.tg q Xa i' N=SI p.d p.G p.tg q Xa i':=by
      unfold V8 SI;rw [Md,HB.out.2.2.2.1,<-HN.out.1]
     have hKs:=H7.out.1;rw [Jh]at hKs;have Ic:i'*p.G+N=min ((i'+1)*p.G) Xa.length:=by
      rw [HB.out.2.2.2.1,Md,Y5,Nat.one_mul];have:=HN.out.1;unfold Rl at this;omega
     have JP:=Ux.akd (Xa:=Xa) (q0:=q) (i:=i') hKs HB.out.1.old HB.out.1.cbk (by rw [<-Ic,HP.out]) (by rw [<-Ic,HP.out]) H7.out.2.2.1 (by rw [Zg,XO];exact HA.out.1) HA.out.2.1 HA.out.2.2;have hpm:p.mb=w5.heap.size+1+1:=by rw [HP.out]
     rw [hpm,Gq,hpg,hL]at JP;have HFN:=Z7 JP;clear ae Jh hKs Ic JP;gi_wp2_with fail
     exact⟨HFN.out.2.1,HFN.out.2.2,by rw [HB.out.2.2.2.2.2.2];exact HFN.out.1⟩
  case done=>
   rintro D xs W hD rfl hM hK;rw [XO]at hM;obtain⟨⟨v,hv⟩,_,_,_,hold⟩:=hM;obtain⟨Av,cv,rfl⟩:=hv.TD.shape;rw [Zg,XO]at hv;have Fy:ZI W (w5.heap.size+1+1) 43 (BB ⟨nm,(dn:Int),(q:Int),(tg:Int)⟩ d G (.slice Av (Lu G n) cv)).toArray:=by have:=hv.bJ;rw [HP.out]at this;exact this
   unfold BB Rg.cells at Fy;have hres:ZI W (w.heap.size+1) 43 DV:=by have:=hv.res;rw [HP.out]at this;exact this
   have her:ZI W (w.heap.size+1+1) 26 #[.int .i64 0]:=by have:=hv.er;rw [HP.out]at this;exact this
   obtain⟨mc,mf⟩:=Fy.both;have ml:=Fy.lt;have mX:=hres;unfold DV at mX;obtain⟨rc,rf⟩:=mX.both;have rl:=hres.lt;obtain⟨ec,ef⟩:=her.both;have el:=her.lt;have HD:=Z7 (Z9 hv (Z9 hold (Z9 hres (Z9 her hK))));clear hv hold hres her hK Fy mX;go_wp2_with fail;obtain⟨b1,b2,b3⟩:=adj HD.out.2.2.1 HD.out.2.2.2.1 (by omega) (.string (strOf nm)) (.int .i64 (dn:Int)) (.int .i64 (q:Int)) (.int .i64 (tg:Int)) (.int .i64 (d.W:Int)) (.int .i64 (d.H:Int)) (.int .i64 (G:Int)) (.slice Av (Lu G n) cv)
   have hKF:=(VP (KeepsFrom.refl w6.heap.size W) b3 (fun k e _=>by
    rcases e with e|e
    ·exact⟨_,_,by rw [e];exact HD.out.2.2.1⟩
    ·exact⟨_,_,by rw [e];exact HD.out.2.2.2.1⟩)).same D _ hD HD.out.2.2.2.2 rfl
   refine⟨by simp,.inl ⟨_,_,rfl,run_takeDeferred hKF,?_⟩⟩;have hsc:=Tp.xR (grownBy_putObj' _ D (.deferred none)) (fun r e=>by injection e with e;subst e;exact⟨_,hKF,rfl⟩);have r1:=b1.sc hsc;have r2:=b2.sc hsc;have s0:=r1.cell 0;have s1:=r1.cell 1;have s2:=r1.cell 2;have s3:=r1.cell 3;have s4:=r1.cell 4;have s5:=r1.cell 5;have s6:=r1.cell 6;have s7:=r1.cell 7;have s8:=r2.cell 0;have hrM:p.yg=w.heap.size+1/\p.dE=w.heap.size+1+1:=by rw [HP.out];exact⟨rfl,rfl⟩
   have Fv:=HD.out.1.ok.high;have IZ:=HD.out.1.ok.low;have hMF:Mod (fun _=>False) w _:=(HD.out.2.1.into b3 (fun i e=>.inr (by omega))).grown (grownBy_putObj' _ D (.deferred none)) (fun k hk=>.inr (by injection hk with hk;have:=HD.out.2.1.size;have:=HSG.out.2.2;omega));have sJ:=(HD.out.1.TD.turn b3 (fun k hk e=>by have:=(HD.out.1.vz k hk).1;omega) (fun _ _ _ hx=>hx.turn b3 (fun k hk _ e=>by have:=hk.1;omega) (fun _ hk _=>hk))).sc hsc (fun _ _ _ hx=>hx.sc hsc);have aio:=(sJ.RU (F:=fun k=>w.heap.size<=k) (fun k hk=>by have:=(HD.out.1.vz k hk).1;omega)).turn (Mod.refl (fun _=>False) _) (fun _ _ _ h=>h) (fun _ h _=>h) (fun _ _ _ hx=>hx.turn (Mod.refl (fun _=>False) _) (fun _ _ _ h=>h) (fun k hk _=>show w.heap.size<=k by have:=hk.1;omega));refine⟨.tuple #[.agg #[.string (strOf nm),.int .i64 (dn:Int),.int .i64 (q:Int),.int .i64 (tg:Int),.int .i64 (d.W:Int),.int .i64 (d.H:Int),.int .i64 (G:Int),.slice Av (Lu G n) cv],.int .i64 0],?_,[.string (strOf nm),.int .i64 (dn:Int),.int .i64 (q:Int),.int .i64 (tg:Int),.int .i64 (d.W:Int),.int .i64 (d.H:Int),.int .i64 (G:Int),.slice Av (Lu G n) cv],rfl,⟨_,rfl,?_⟩,rfl,hMF⟩
   ·simp [results,f54,go_sem,s0,s1,s2,s3,s4,s5,s6,s7,s8]
   ·unfold Nt;rw [Md];rw [HP.out]at aio;exact aio
  case stop=>
   rintro D W hD hB hK;exact hB.elim
def GU(w:World)(fs:List Ya)(G:Int)(rs:List Rg)(e:Ending)(w':World):Prop:=
 Mod ↑ZW w w'/\((QK fs G rs=false/\e=.returned (.tuple #[↑Zd,.int .i64 151]))\/(QK fs G rs=true/\∃v,e=.returned (.tuple #[v,↑Z0])/\OP w' (fun k=>w.heap.size<=k) v (rs.map (Tz fs G))))
theorem sQ:(Tryz.prog.info? 43).map (fun i=>(i.zero,i.size,i.bytes))=some (some (.agg #[.string (strOf []),↑Z0,↑Z0,↑Z0,↑Z0,↑Z0,↑Z0,↑Zd]),8,88):=ZR
theorem J8(W H G:Int)(rs:List Rg):U4 W H G rs=if Us W H G rs then 0 else 151:=rfl
def afu(w:World)(fs:List Ya)(G:Int)(rs:List Rg)(v8 v37:Value)(wr:World):Prop:=
 ∃i:Nat,i<=rs.length/\v37=↑i/\Yr wr w.heap.size 43 8 (Ny wr (FM w.heap.size v8)) v8 ((rs.take i).map (Tz fs G))/\Mod ↑ZW w wr
theorem fH(w:World)(he:Kk w)(A:Option Addr)(n c:Nat)(fs:List Ya)(YZ:ME w A n fs)(xA:n<=c)(hc:c<=9223372036854775807)(G:Int)(A2:Option Addr)(m c2:Nat)(rs:List Rg)(hr:Nz w A2 m c2 rs)(hm:m<=9223372036854775807)
  (hW:(fs.getD 0 YL).W0<=64)(hH:(fs.getD 0 YL).H0<=64):
  Calls prog 16 #[.slice A n c,↑G,.slice A2 m c2] w (GU w fs G rs):=by
 have H0:=Z5 he (Z9 YZ (Z9 hr YZ.len));clear he;cases SB:Pj fs with
 | false=>
  have Dv:QK fs G rs=false:=by unfold QK;rw [SB,Bool.false_and]
  have HB:=Z5 SB Dv;clear SB Dv YZ hr;go_enter func16,ntmps16;go_upto_region 1 with(fail)
  refine YY [1,16] [] [0,1,2,3,4,5,6,7,8,9,10,11,12,13,14,15,16,17,18] (fun _=>True) ZR ZR Xc trivial ?_;refine Zc ?_;refine Zf rfl rfl (fun K hK=>?_);go_simp;refine YX (Jk w.drew A n c fs (H0.out.2.1.quiet ((Mod.refl _ w).drew)) Z8) fun w1 Y6=>?_;rw [HB.out.1];have H1:=Z7 (((Mod.refl ↑ZW w).drew).trans Y6);clear Y6;dsimp only [];refine hK _ _ trivial ?_;clear hK K
  (iterate 14 (refine Zc ?_))
  refine Zf rfl rfl (fun K hK=>?_);go_simp;refine hK _ _ trivial ?_;clear hK K
  (iterate 2 (refine Zc ?_))
  refine Yg ?_;go_wp2_with fail;go_ret2;exact⟨H1.out,.inl ⟨HB.out.2,rfl⟩⟩
 | true=>
  obtain⟨hdo,gz,dO,hl,Ib⟩:=J2 SB;have hlen:=YZ.len;have JD:0<n:=Z8;obtain⟨b,o,hA,Fw,Zm,_⟩:=YZ.at_ 0 JD;subst hA;obtain⟨W0,hW0⟩:=ZL ((fs.getD 0 YL).W0);obtain⟨MZ,vG⟩:=ZL ((fs.getD 0 YL).H0);have c0:w.cell? ⟨b,o,none⟩=some ↑W0:=by have:=Zm 0 _ rfl;rw [hW0];simpa using this
  have c1:w.cell? ⟨b,o+1,none⟩=some ↑MZ:=by have:=Zm 1 _ rfl;rw [vG];simpa using this
  have bW:(0:Int)<=W0/\W0<=64:=by rw [hW0];exact⟨by rw [<-gz];omega,hW⟩
  have bH:(0:Int)<=MZ/\MZ<=64:=by rw [vG];exact⟨by rw [<-dO];omega,hH⟩
  have lC:∀w',Mod ↑ZW w w'->Calls prog 13 #[↑W0,↑MZ,↑G,.slice A2 m c2] w' fun e w''=>e=.returned (.int .i64 (U4 W0 MZ G rs))/\Mod ↑ZW w' w'':=
   fun w' hm'=>nR w' W0 MZ G A2 m c2 rs (hr.quiet hm') hm ⟨Z8,Z8⟩ ⟨Z8,Z8⟩
  have HL:=Z5 lC (Z9 c0 (Z9 c1 Fw));have HC:=Z5 SB (Z9 hdo (Z9 Ib (Z9 hW0 (Z9 vG hlen))));clear lC c0 c1 Fw Zm SB hdo Ib YZ hr gz dO bW bH;go_enter func16,ntmps16;go_upto_region 1 with(fail)
  cases Nr:Us W0 MZ G rs with
  | false=>
   have hE:U4 W0 MZ G rs=151:=by rw [J8,Nr];rfl
   have Dv:QK fs G rs=false:=by unfold QK;rw [HC.out.1,<-HC.out.2.2.2.1,<-HC.out.2.2.2.2.1,Nr];rfl
   have HB:=Z5 hE Dv;clear hE Dv Nr hlen hW0 vG;refine YY [1,16] [] [0,1,2,3,4,5,6,7,8,9,10,11,12,13,14,15,16,17,18] (fun _=>True) ZR ZR Xc trivial ?_;refine Zc ?_;refine Zf rfl rfl (fun K hK=>?_);go_simp;refine YX (Jk w.drew (some ⟨b,o,none⟩) n c fs (H0.out.2.1.quiet ((Mod.refl _ w).drew)) Z8) fun w1 Y6=>?_;rw [HC.out.1];have Ck:=((Mod.refl ↑ZW w).drew).trans Y6;have c0:w1.cell? ⟨b,o,none⟩=some ↑W0:=(Vx Ck HL.out.2.2.2).trans HL.out.2.1;have c1:w1.cell? ⟨b,o+1,none⟩=some ↑MZ:=(Vx Ck HL.out.2.2.2).trans HL.out.2.2.1;have H1:=Z7 Ck;clear Y6 Ck;dsimp only [];refine hK _ _ trivial ?_;clear hK K
   (iterate 14 (refine Zc ?_))
   refine Zf rfl rfl (fun K hK=>?_);go_simp;refine YX (HL.out.1 w1 H1.out) fun w2 Y3=>?_;rw [HB.out.1];have H2:=Z7 (H1.out.trans Y3);clear Y3 c0 c1;dsimp only [];refine hK _ _ trivial ?_;clear hK K
   (iterate 2 (refine Zc ?_))
   refine Yg ?_;go_wp2_with fail;go_ret2;exact⟨H2.out,.inl ⟨HB.out.2,rfl⟩⟩
  | true=>
   have hE:U4 W0 MZ G rs=0:=by rw [J8,Nr];rfl
   have Dv:QK fs G rs=true:=by unfold QK;rw [HC.out.1,<-HC.out.2.2.2.1,<-HC.out.2.2.2.2.1,Nr];rfl
   have akw:1<=m/\m<=8:=by
    unfold Us at Nr;rw [ZT,decide_eq_true_eq,H0.out.2.2.1.len]at Nr;exact Nr.1
   have HB:=Z5 hE (Z9 Dv Nr);clear hE Dv Nr hlen hW0 vG;refine YY [1,16] [] [0,1,2,3,4,5,6,7,8,9,10,11,12,13,14,15,16,17,18] (fun _=>True) ZR ZR Xc trivial ?_;refine Zc ?_;refine Zf rfl rfl (fun K hK=>?_);go_simp;refine YX (Jk w.drew (some ⟨b,o,none⟩) n c fs (H0.out.2.1.quiet ((Mod.refl _ w).drew)) Z8) fun w1 Y6=>?_;rw [HC.out.1];have Ck:=((Mod.refl ↑ZW w).drew).trans Y6;have c0:w1.cell? ⟨b,o,none⟩=some ↑W0:=(Vx Ck HL.out.2.2.2).trans HL.out.2.1;have c1:w1.cell? ⟨b,o+1,none⟩=some ↑MZ:=(Vx Ck HL.out.2.2.2).trans HL.out.2.2.1;have H1:=Z7 Ck;clear Y6 Ck;dsimp only [];refine hK _ _ trivial ?_;clear hK K
   (iterate 14 (refine Zc ?_))
   refine Zf rfl rfl (fun K hK=>?_);go_simp;refine YX (HL.out.1 w1 H1.out) fun w2 Y3=>?_;rw [HB.out.1];have H2:=Z7 (H1.out.trans Y3);clear Y3 c0 c1;dsimp only [];refine hK _ _ trivial ?_;clear hK K
   (iterate 2 (refine Zc ?_))
   refine Yg ?_;go_wp2_with (at_make;refine Hid.out ?_)
   refine Z7 ?_;obtain⟨i0,hi0,hz0,hz1,hz2⟩:=info_parts sQ;refine wpList_make_own w2 rfl (.const ↑Z0) (.tmp 33) 31 rfl w.heap.size 43 i0 _ 8 underlying31 hi0 hz0 hz1 .i64 .i64 (m:Int) m rfl rfl rfl (by rw [hz2];omega) (by unfold maxLen;omega) H2.out.size ?_;intro w3 hown hgr;have H3:=Z5 hown (H2.out.grown hgr (fun k hk=>by cases hk));clear hi0 hz0 hz1 hz2 hown hgr;go_wp2_with fail;go_loopw [8,37] (afu w fs G rs) (fun _ i _=>m-(intOf i).toNat)
   case atStart=>exact⟨0,XI _,rfl,⟨[],H3.out.1,.nil⟩,H3.out.2⟩
   case round=>
    clear H3;obtain⟨i,hi,rfl,hL,hM⟩:=hrel;rename World=>wr
    have Lr:=H0.out.2.2.1.len;obtain⟨Ao,co,uM⟩:=hL.shape;have Pq:((rs.take i).map (Tz fs G)).length=i:=by rw [Zg,List.length_take];omega
    rw [Pq]at uM;subst uM;by_cases hlt:i<m
    ·have d3:=Zb ((i:Int)<(m:Int));obtain⟨b2,o2,rfl,lW,Zm⟩:=(H0.out.2.2.1.quiet hM).at_ i hlt;obtain⟨r,hr⟩:=ZL (rs.getD i Rg.zero);have Rq:=Gs HB.out.2.2 (show i<rs.length by omega);rw [<-hr]at Zm Rq;rw [HC.out.2.2.2.1,HC.out.2.2.2.2.1]at Rq;obtain⟨dn,q,tg,g,x1,x2,x3,x4,y1,y2,y3,y4,y5,y6,y7,y8,y9⟩:=Eh HC.out.1 Rq hW hH;subst x4;have k0:wr.cell? ⟨b2,o2+i*4,none⟩=some (.string (strOf r.name)):=Zm 0 _ rfl;have k1:wr.cell? ⟨b2,o2+i*4+1,none⟩=some ↑dn:=by rw [<-x1];exact Zm 1 _ rfl
     have k2:wr.cell? ⟨b2,o2+i*4+2,none⟩=some ↑q:=by rw [<-x2];exact Zm 2 _ rfl
     have k3:wr.cell? ⟨b2,o2+i*4+3,none⟩=some ↑tg:=by rw [<-x3];exact Zm 3 _ rfl
     obtain⟨d,hd⟩:=ZL ((Vy fs).Xu dn);have Me:Mod ↑ZW wr (wr.alloc (.cells #[.string (strOf r.name),↑dn,↑q,↑tg] 38)):=(Mod.refl _ wr).alloc _;have mQ:=adt (wr.alloc (.cells #[.string (strOf r.name),↑dn,↑q,↑tg] 38)) (H0.out.1.quiet (hM.trans Me)) b o n c fs (H0.out.2.1.quiet (hM.trans Me)) (by have:=HC.out.2.2.2.2.2;omega) xA hc g y4 r.name dn q tg y1 y2 y3 (Vy fs) d y5 y6 hd (by rw [hd];exact y7) (by rw [hd];exact y8) (by rw [hd];exact y9) (fun k hk=>HC.out.2.2.1 k (by rw [HC.out.2.2.2.2.2];exact hk));have hmx:Tz fs (g:Int) r=⟨⟨r.name,(dn:Int),(q:Int),(tg:Int)⟩,(g:Int),d,Nt d g tg q (fs.map fun f=>Tu (Vy fs) f.ZJ dn)⟩:=by
      obtain⟨nm,rd,rq,rt⟩:=r;dsimp only at x1 x2 x3;subst x1 x2 x3 hd;rfl
     have HQ:=Z5 mQ (Z9 hmx (Z9 hr (Z9 hL (Z9 hM Me))));clear mQ hmx hr hL hM Me Zm Rq lW x1 x2 x3 y1 y2 y3 y4 y5 y6 y7 y8 y9 hd;go_wp2_with fail;refine HQ.out.1.mono ?_;rintro e w5 ⟨cells,rfl,Rc,uA,UR⟩;have akv:=Rc;obtain⟨sv,aiX,sJ⟩:=akv;obtain⟨Av,cv,rfl,hcv⟩:=sJ.shape;obtain⟨nv,hnv⟩:=ZL ((Nt d g tg q (fs.map fun f=>Tu (Vy fs) f.ZJ dn)).length);have akF:cells=[.string (strOf r.name),↑dn,↑q,↑tg,.int .i64 (d.W:Int),.int .i64 (d.H:Int),↑g,.slice Av nv cv]:=by rw [aiX,hnv];rfl
     subst akF;have aa:Mod ↑ZW w5 (w5.alloc (.cells #[.string (strOf r.name),↑dn,↑q,↑tg,.int .i64 (d.W:Int),.int .i64 (d.H:Int),↑g,.slice Av nv cv] 43)):=(Mod.refl _ w5).alloc _;have vN:=HQ.out.2.2.2.2.2.trans (UR.trans aa)
     have hL6:Yr (w5.alloc (.cells #[.string (strOf r.name),↑dn,↑q,↑tg,.int .i64 (d.W:Int),.int .i64 (d.H:Int),↑g,.slice Av nv cv] 43)) w.heap.size 43 8 (Ny (w5.alloc (.cells #[.string (strOf r.name),↑dn,↑q,↑tg,.int .i64 (d.W:Int),.int .i64 (d.H:Int),↑g,.slice Av nv cv] 43)) (FM w.heap.size (.slice Ao i co))) (.slice Ao i co) ((rs.take i).map (Tz fs (g:Int))):=
      HQ.out.2.2.2.1.turn vN (fun _ _ h=>h) (fun _ _ _ hx=>hx.turn vN (fun _ _ _ h=>h) (fun _ hk _=>hk))
     have jf:Ny (w5.alloc (.cells #[.string (strOf r.name),↑dn,↑q,↑tg,.int .i64 (d.W:Int),.int .i64 (d.H:Int),↑g,.slice Av nv cv] 43)) (FM w.heap.size (.slice Ao i co)) (Tz fs (g:Int) r) [.string (strOf r.name),↑dn,↑q,↑tg,.int .i64 (d.W:Int),.int .i64 (d.H:Int),↑g,.slice Av nv cv]:=by
      rw [HQ.out.2.1];refine Rc.turn aa (fun _ _ _ h=>h) (fun k hk _=>⟨?_,fun e=>?_⟩)
      ·have h1:=HQ.out.2.2.2.2.1.size;have h2:=HQ.out.2.2.2.2.2.size;omega
      ·have h1:=(HQ.out.2.2.2.1.lt k e).2;have h2:wr.heap.size+1<=k:=by simpa using hk
       omega
     obtain⟨xs,hrow,Hy⟩:=hL6;rw [Pq]at hrow;have aP:w.heap.size<=(w5.alloc (.cells #[.string (strOf r.name),↑dn,↑q,↑tg,.int .i64 (d.W:Int),.int .i64 (d.H:Int),↑g,.slice Av nv cv] 43)).heap.size:=Nat.le_trans HQ.out.2.2.2.2.1.size vN.size;have H6:=Z5 hrow (Z9 Hy (Z9 jf (HQ.out.2.2.2.2.1.trans vN)));have hi8:i<=8:=Z8;clear Rc aiX sJ hcv hnv uA UR aa vN hrow Hy jf k0 k1 k2 k3;go_wp2_with (at_builtin;refine Hid.out ?_)
     refine Z7 ?_;refine OD (w5.alloc (.cells #[.string (strOf r.name),↑dn,↑q,↑tg,.int .i64 (d.W:Int),.int .i64 (d.H:Int),↑g,.slice Av nv cv] 43)) rfl (.tmp 51) (.tmp 53) 31 43 rfl underlying31 (.agg #[.string (strOf []),↑Z0,↑Z0,↑Z0,↑Z0,↑Z0,↑Z0,↑Zd]) 8 88 sQ rfl ZU w.heap.size (.slice Ao i co) i xs [.string (strOf r.name),↑dn,↑q,↑tg,.int .i64 (d.W:Int),.int .i64 (d.H:Int),↑g,.slice Av nv cv] rfl (by intro u hu;simp only [List.mem_cons,List.not_mem_nil,or_false]at hu;rcases hu with rfl|rfl|rfl|rfl|rfl|rfl|rfl|rfl<;>rfl) (w5.heap.size+1) Ze rfl rfl H6.out.1 aP (by unfold maxLen;omega) Z8 ?_;intro v2 w9 y1 y2 y3 y4;obtain⟨As,cs2,rfl⟩:=ZG y1;have xz:=y3 w ↑ZW (ZY _) H6.out.2.2.2;have HA:=Z5 y1 (Z9 y2 (Z9 y4 xz));clear y1 y2 y3 y4 xz;go_wp2_with fail;refine⟨⟨i+1,Z8,rfl,?_,HA.out.2.2.2⟩,Rb hlt⟩;rw [take_one Z8];have mU:=BC (x:=Tz fs (g:Int) r) H6.out.2.1 (by rw [Pq];exact HA.out.1) HA.out.2.1 HA.out.2.2.1 H6.out.2.2.1 rfl;rw [<-HQ.out.2.2.1];exact mU
    ·obtain rfl:i=m:=Z8;have d3:=Za ((i:Int)<(i:Int));have HR:=Z5 hL hM;clear hL hM;go_wp2_with fail;go_ret2;refine⟨HR.out.2,.inr ⟨HB.out.2.1,_,rfl,?_⟩⟩;have JP:=HR.out.1.RU (F:=fun k=>w.heap.size<=k) (fun k hk=>(HR.out.1.lt k hk).1);rw [List.take_of_length_le Z8]at JP;exact JP.turn (Mod.refl ↑ZW _) (fun _ _ _ h=>h) (fun _ h _=>h) (fun _ _ _ hx=>hx.turn (Mod.refl ↑ZW _) (fun _ _ _ h=>h) (fun _ hk _=>hk.1))
end Go.Proofs.YthednemlahioeaaGreatDoor
