/-
  The reference's encoder: Frame of a frame that is not the sequence's.
-/
import Derived.Test.YthednemlahioeaaGreatDoorM33
namespace Go.Proofs.YthednemlahioeaaGreatDoor
open Go.RowKit
open List renaming getElem?_append_right→ZF,getElem?_append_left→Zv,set_append_right→WM
open Nat renaming sub_self→XY,le_refl→ZY,le_trans→ZQ
open Go.Proofs.Tryz
set_option maxRecDepth 100000
set_option maxHeartbeats 8000000
theorem aaM(w:World)(g:Nat)(W H G q tg nu:Int)(al:List Value)(hx:ZI w g 193 (Ta W H G q tg nu al))(X0 Y0 X1 Y1 X2 Y2:Int)(A0 A1 A2:Option Addr)(n0 c0 n1 c1 n2 c2:Nat)
  (zC:(Ye X0 Y0 n0 X1 Y1 n1 X2 Y2 n2&&(decide (X0=W)&&decide (Y0=H)))=false):
  Calls prog 58 #[↑(ZC g 0),.agg #[↑X0,↑Y0,.slice A0 n0 c0,↑X1,↑Y1,.slice A1 n1 c1,↑X2,↑Y2,.slice A2 n2 c2]] w fun e w'=>e=gP 61/\Mod ↑ZW w w':=by
 have KM:Ye X0 Y0 n0 X1 Y1 n1 X2 Y2 n2=false\/(Ye X0 Y0 n0 X1 Y1 n1 X2 Y2 n2=true/\X0≠W)\/(Ye X0 Y0 n0 X1 Y1 n1 X2 Y2 n2=true/\X0=W/\Y0≠H):=by
  cases hw:Ye X0 Y0 n0 X1 Y1 n1 X2 Y2 n2 with
  | false=>exact .inl rfl
  | true=>
   rw [hw]at zC;simp only [Bool.true_and,Bool.and_eq_false_iff,decide_eq_false_iff_not]at zC;by_cases e:X0=W
   ·rcases zC with h|h
    ·exact absurd e h
    ·exact .inr (.inr ⟨rfl,e,h⟩)
   ·exact .inr (.inl ⟨rfl,e⟩)
 clear zC;obtain⟨b,hb⟩:=ZL (Ye X0 Y0 n0 X1 Y1 n1 X2 Y2 n2);rw [<-hb]at KM;have h0:=((Sat.one ↑ZW hx).alloc 58 #[↑X0,↑Y0,.slice A0 n0 c0,↑X1,↑Y1,.slice A1 n1 c1,↑X2,↑Y2,.slice A2 n2 c2] rfl).alloc (g:=w.heap.size+1) 58 ↑WK Ze;have qE:=hx.lt;have HB:=Lib.hid hb;have M8:=Lib.hid h0;clear hb h0 hx;go_enter func58,ntmps58;go_upto_region 1 with(fail)
 have hS1:=M8.out;generalize ((w.alloc (.cells #[↑X0,↑Y0,.slice A0 n0 c0,↑X1,↑Y1,.slice A1 n1 c1,↑X2,↑Y2,.slice A2 n2 c2] 58)).alloc (.cells ↑WK 58))=w1 at hS1 ⊢;have hq:=hS1.ZX 1 rfl;dsimp only at hq;obtain⟨f0,ff⟩:=hq.both;have fl:=hq.lt;clear hq;have XZ:=Lib.hid hS1;clear hS1 M8;go_wp2_with fail;refine YX (IB _ X0 Y0 X1 Y1 X2 Y2 A0 A1 A2 n0 c0 n1 c1 n2 c2) fun w2 Y3=>?_;rw [<-HB.out];have JN:=XZ.out.quiet Y3;clear f0 ff fl Y3 XZ;go_upto_region 2 with(fail)
 have vH:=JN.drew;have hq:=JN.ZX 1 rfl;dsimp only at hq;have f0:=hq.cell 0;have f1:=hq.cell 1;have hg:=JN.ah1 0 rfl;dsimp only at hg;have s0:w2.cell? ↑g=some ↑W:=hg.cell 0;have s1:w2.cell? ⟨g,1,none⟩=some ↑H:=hg.cell 1;have fw:w2.cell? ↑w.heap.size=some ↑X0:=f0;have fh:w2.cell? ⟨w.heap.size,1,none⟩=some ↑Y0:=f1;have EX:=JN.ZX 0 rfl;dsimp only at EX;obtain⟨z0,zf⟩:=EX.both;have zl:=EX.lt;have zl':w.heap.size+1<w2.heap.size:=zl;have V4:=Z5 JN EX;clear JN vH f0 f1 hq EX hg zl;rcases KM with rfl|⟨rfl,h1⟩|⟨rfl,h1,h2⟩
 ·clear qE;go_quiet (fail)
  have EF:ZI (w2.drewN nq) (w.heap.size+1) 58 ↑WK:=ZI.keep V4.out.2 (Mod.drewN (Mod.refl ↑ZW w2) nq) (fun h=>h);have VK:=V4.out.1.mod.drewN nq;clear z0 zf zl' fw fh s0 s1 V4;generalize w2.drewN nq=w9 at *;obtain⟨z0,zf⟩:=EF.both;have zl:w.heap.size+1<w9.heap.size:=EF.lt;have H9:=Z5 VK EF;clear VK EF;go_wp2_with fail;have h9:=Qg H9.out.2 ↑Z0 ↑Z0 ↑Zd ↑Z0 ↑Z0 ↑Zd ↑Z0 ↑Z0 ↑Zd;refine bodyPost_ret (v:=.tuple #[↑Zd,.agg Sl.toArray,.int .i64 61]) (by simp [results,results58,go_sem,z0,Sl]) rfl ⟨rfl,H9.out.1.into h9.2 (fun i e=>.inr Z8)⟩
 ·have t1:(X0 != W)=true:=by simpa using h1
  have HH:=Lib.hid h1;clear h1;go_quiet (fail)
  have EF:ZI (w2.drewN nq) (w.heap.size+1) 58 ↑WK:=ZI.keep V4.out.2 (Mod.drewN (Mod.refl ↑ZW w2) nq) (fun h=>h);have VK:=V4.out.1.mod.drewN nq;clear z0 zf zl' fw fh s0 s1 V4;generalize w2.drewN nq=w9 at *;obtain⟨z0,zf⟩:=EF.both;have zl:w.heap.size+1<w9.heap.size:=EF.lt;have H9:=Z5 VK EF;clear VK EF;go_wp2_with fail;have h9:=Qg H9.out.2 ↑Z0 ↑Z0 ↑Zd ↑Z0 ↑Z0 ↑Zd ↑Z0 ↑Z0 ↑Zd;refine bodyPost_ret (v:=.tuple #[↑Zd,.agg Sl.toArray,.int .i64 61]) (by simp [results,results58,go_sem,z0,Sl]) rfl ⟨rfl,H9.out.1.into h9.2 (fun i e=>.inr Z8)⟩
 ·have t1:(X0 != W)=false:=by simpa using h1
  have t2:(Y0 != H)=true:=by simpa using h2
  have HH:=Z5 h1 h2;clear h1 h2;go_quiet (fail)
  have EF:ZI (w2.drewN nq) (w.heap.size+1) 58 ↑WK:=ZI.keep V4.out.2 (Mod.drewN (Mod.refl ↑ZW w2) nq) (fun h=>h);have VK:=V4.out.1.mod.drewN nq;clear z0 zf zl' fw fh s0 s1 V4;generalize w2.drewN nq=w9 at *;obtain⟨z0,zf⟩:=EF.both;have zl:w.heap.size+1<w9.heap.size:=EF.lt;have H9:=Z5 VK EF;clear VK EF;go_wp2_with fail;have h9:=Qg H9.out.2 ↑Z0 ↑Z0 ↑Zd ↑Z0 ↑Z0 ↑Zd ↑Z0 ↑Z0 ↑Zd;refine bodyPost_ret (v:=.tuple #[↑Zd,.agg Sl.toArray,.int .i64 61]) (by simp [results,results58,go_sem,z0,Sl]) rfl ⟨rfl,H9.out.1.into h9.2 (fun i e=>.inr Z8)⟩
def Oh(w:World)(m:Nat)(d:Yz)(G q tg nu:Nat)(Y7:Yy):Prop:=
 ∃al,al.length=9/\ZI w m 193 (Ta (d.W:Int) (d.H:Int) (G:Int) (q:Int) (tg:Int) (nu:Int) al)/\(nu≠0->∃B b0 k0 b1 k1 b2 k2,al=V9 d b0 k0 b1 k1 b2 k2/\MX w B d b0 k0 b1 k1 b2 k2 Y7)
theorem Oh.mod{w w':World}{S:Nat->Prop}{m:Nat}{d:Yz}{G q tg nu:Nat}{Y7:Yy}(h:Oh w m d G q tg nu Y7)(hm:Mod S w w')(hg:¬S m)(hS:∀j,S j->w.heap.size<=j\/∃t cs,ZI w j t cs/\t≠5):Oh w' m d G q tg nu Y7:=by
 obtain⟨al,hl,hb,hc⟩:=h;refine⟨al,hl,hb.keep hm hg,fun hn=>?_⟩;obtain⟨B,b0,k0,b1,k1,b2,k2,h1,h2⟩:=hc hn;exact⟨B,b0,k0,b1,k1,b2,k2,h1,h2.mod hm hS⟩
theorem Oh.quiet{w w':World}{m:Nat}{d:Yz}{G q tg nu:Nat}{Y7:Yy}(h:Oh w m d G q tg nu Y7)(hm:Mod ↑ZW w w'):Oh w' m d G q tg nu Y7:=h.mod hm (fun h=>h) (fun _ h=>h.elim)
theorem Ya.whole{f:Ya}{d:Yz}(hd:d.Ok)(h:f.UG d=true):Ye d.W d.H d.nY d.W2 d.H2 d.nC d.W2 d.H2 d.nC=true:=by
 obtain⟨hc,h0,h1,h2⟩:=Ya.good hd h;unfold Ya.UG at h;rw [Bool.and_eq_true]at h;have hw:=h.1;unfold Ya.cells NG at hc;simp only [List.cons.injEq,Value.int.injEq,Value.slice.injEq,true_and,and_true]at hc;obtain⟨a1,a2,_,a3,a4,_,a5,a6,_⟩:=hc;rw [a1,a2,a3,a4,a5,a6,h0,h1,h2]at hw;exact hw
def adT(w:World)(m:Nat)(d:Yz)(G q tg nu:Nat)(Y7:Yy)(f:Ya)(e:Ending)(w':World):Prop:=
 (f.UG d=false/\e=gP 61/\Mod ↑ZW w w') \/
 (f.UG d=true/\∃v e0 j0 e1 j1 e2 j2,e=.returned (.tuple #[v,.agg (V9 d e0 j0 e1 j1 e2 j2).toArray,↑Z0])/\Bytes w' w.heap.size v (Uy d f.ZJ Y7 nu q).1/\MX w' w.heap.size d e0 j0 e1 j1 e2 j2 (Uy d f.ZJ Y7 nu q).2 /\
  Oh w' m d G (Gu q tg G (Uy d f.ZJ Y7 nu q).1.length) tg (Ip nu G) (Uy d f.ZJ Y7 nu q).2/\Mod (·=m) w w')
theorem BR{w:World}{m:Nat}{d:Yz}{G q tg nu:Nat}{Y7:Yy}(h:Oh w m d G q tg nu Y7)(hd:d.Ok)(hW:d.W<=64)(hH:d.H<=64)(hG:1<=G/\G<=64)(RQ:seqRight (d.W:Int) (d.H:Int) (G:Int)=true)(hq:q<=31)(ht:tg<=1048576)(EU:nu<G)(f:Ya)(hf:f.In w):
  Calls prog 58 #[↑(ZC m 0),.agg f.cells.toArray] w (adT w m d G q tg nu Y7 f):=by
 obtain⟨al,Dj,hb,hc⟩:=h;cases hgd:f.UG d with
 | false=>exact(aaM w m _ _ _ _ _ _ al hb f.W0 f.H0 f.W1 f.H1 f.W2 f.H2 f.A0 f.A1 f.A2 f.n0 f.c0 f.n1 f.c1 f.n2 f.c2 hgd).mono (fun e w' k=>.inl ⟨hgd,k⟩)
 | true=>
  obtain⟨SB,_,_,_⟩:=Ya.good hd hgd;have eD:=Ya.gW hd hgd hf;rw [SB];refine(aep w m G q tg nu hG hq ht EU d hd hW hH RQ al Dj hb Y7 hc f.A0 f.A1 f.A2 f.c0 f.c1 f.c2 f.ZJ eD (Ya.whole hd hgd)).mono ?_;rintro e w' ⟨v,e0,j0,e1,j1,e2,j2,he,h1,h2,h3,h4⟩;exact .inr ⟨hgd,v,e0,j0,e1,j1,e2,j2,he,h1,h2,⟨_,rfl,h3,fun _=>⟨_,_,_,_,_,_,_,rfl,h2⟩⟩,h4⟩
theorem sW{w:World}{B:Nat}{e:TypeId}{size n c g:Nat}{xs:List Value}(h:w.ownsRow B e size ↑(ZZ g n c) n xs)(j:Nat)(u:Value):(w.setCell ⟨g,j,none⟩ u).ownsRow B e size ↑(ZZ g n c) n (xs.set j u):=by
 refine⟨by rw [List.length_set];exact h.1,.inr ?_⟩;rcases h.2 with⟨hv,_⟩|⟨g',cap,cur,hv,hb,hg,hn,hm,hs,ht⟩
 ·cases hv
 ·injection hv with e1 _ e2;injection e1 with e1;injection e1 with e1;subst e1 e2;have hb2:ZI w g e cur:=hg;refine⟨g,c,cur.setIfInBounds j u,rfl,hb,hb2.UY j u,hn,hm,by rw [Array.size_setIfInBounds];exact hs,?_⟩;rw [Array.toList_setIfInBounds,List.take_set,ht]
theorem WB.oQ{α:Type}{size:Nat}{R:α->List Value->Prop}{l:List α}{x:α}{xs:List Value}(h:WB size R (l++[x]) xs):∃ys c,xs=ys++c/\WB size R l ys/\R x c/\c.length=size:=by
 obtain⟨cs,h1,rfl,h3,h4⟩:=h;rw [List.length_append,List.length_singleton]at h1;have hne:cs≠[]:=fun e=>by rw [e]at h1;simp at h1
 have nD:=(List.dropLast_concat_getLast hne).symm;have hdl:cs.dropLast.length=l.length:=by rw [List.length_dropLast];omega
 have aiI:cs[l.length]?=some (cs.getLast hne):=by
  have h9:(cs.dropLast++[cs.getLast hne])[l.length]?=some (cs.getLast hne):=by
   rw [ZF Z8,hdl,XY];rfl
  rwa [List.dropLast_concat_getLast hne]at h9
 refine⟨cs.dropLast.flatten,cs.getLast hne,?_,⟨cs.dropLast,hdl,rfl,fun c hc=>h3 c (List.dropLast_subset cs hc),fun i y c hy hc=>?_⟩,?_,h3 _ (List.getLast_mem hne)⟩
 ·conv=>lhs;rw [nD]
  simp
 ·have hi:i<l.length:=(List.getElem?_eq_some_iff.1 hy).1;refine h4 i y c (by rw [Zv hi];exact hy) ?_;rw [nD,Zv Z8];exact hc
 ·exact h4 l.length x _ (by rw [ZF Z8];simp) aiI
theorem aeb{ys:List Value}{c0 c1 a b:Value}{k:Nat}(hk:ys.length=k):((ys++[c0,c1]).set k a).set (k+1) b=ys++[a,b]:=by
 subst hk;rw [WM _ _ (ZY _),XY,WM _ _ Z8];congr 1;simp
theorem Yr.setLast{α:Type}{w:World}{B:Nat}{e:TypeId}{g n c:Nat}{R R':α->List Value->Prop}{l:List α}{x x':α}{a b:Value}(h:Yr w B e 2 R ↑(ZZ g n c) (l++[x]))(hR:∀y∈l,∀c,R y c->R' y c)(hx:R' x' [a,b]):
  Yr ((w.setCell ⟨g,l.length*2,none⟩ a).setCell ⟨g,l.length*2+1,none⟩ b) B e 2 R' ↑(ZZ g n c) (l++[x']):=by
 obtain⟨xs,hrow,hc⟩:=h;obtain⟨ys,c2,rfl,hys,_,hc2⟩:=hc.oQ;have hn:(l++[x']).length=(l++[x]).length:=Ze;have Gn:(l++[x]).length=l.length+1:=Ze;have hen:n=(l++[x]).length:=by
  obtain⟨A,c',hv⟩:=ZG hrow;injection hv
 match c2,hc2 with
 | [c0,c1],_=>
  refine⟨ys++[a,b],?_,(hys.mono hR).snoc hx rfl⟩;rw [hn];rw [hen]at hrow ⊢;have h1:=sW (sW hrow (l.length*2) a) (l.length*2+1) b;rw [aeb (by rw [hys.len])]at h1;exact h1
theorem Ca(w:World)(F:Nat->Prop)(size:Nat):WA w F size ↑Zd 0 []:=⟨none,0,rfl,ZY _,fun _=>rfl,⟨Ze,fun _=>rfl,fun _ h=>by cases h⟩,fun _ h=>by cases h⟩
theorem acN(w:World)(F:Nat->Prop)(d:Yz):OQ w F d [] [↑Zd,↑Zd]:=⟨_,_,rfl,⟨[],Ca _ _ _,.nil⟩,⟨[],Ca _ _ _,.nil⟩⟩
structure jD where
 mb:Nat
 eg:Nat
 Z:Nat
 r:Rg
 G:Nat
 tg:Nat
 d:Yz
def jD.cells(p:jD)(v:Value):Array Value:=#[.string (strOf p.r.name),↑p.r.down,↑p.r.q,↑p.r.tg,↑p.d.W,↑p.d.H,↑p.G,v]
structure ak4(wb:World)(p:jD):Prop where
 m1:wb.heap.size<=p.mb
 m2:p.mb<p.Z
 e1:wb.heap.size<=p.eg
 e2:p.eg<p.Z
 ne:p.mb≠p.eg
structure Nh(wb:World)(p:jD)(v:Value)(l:List (List (List UInt8 × Yy)))(q nu:Nat)(Y7:Yy)(w:World):Prop where
 ok:ak4 wb p
 zl:p.Z<=w.heap.size
 box:ZI w p.mb 46 (p.cells v)
 enc:Oh w p.eg p.d p.G q p.tg nu Y7
 TD:Yr w p.Z 50 2 (OQ w (FM p.Z v) p.d) v l
 mod:Mod ↑ZW wb w
section
variable {wb : World} {p : jD} {v : Value} {l : List (List (List UInt8 × Yy))} {q nu : Nat} {Y7 : Yy} {w w' : World}
theorem Nh.quiet(h:Nh wb p v l q nu Y7 w)(hm:Mod ↑ZW w w'):Nh wb p v l q nu Y7 w':=
 ⟨h.ok,ZQ h.zl hm.size,h.box.keep hm (fun h=>h),h.enc.quiet hm,h.TD.turn hm (fun _ _ h=>h) (fun _ _ _ k=>k.turn hm (fun _ _ _ h=>h) (fun _ h _=>h)),h.mod.trans hm⟩
theorem Nh.rJ(h:Nh wb p v l q nu Y7 w)(hm:Mod (·=p.eg) w w'){q' bN:Nat}{ug:Yy}(he:Oh w' p.eg p.d p.G q' p.tg bN ug):Nh wb p v l q' bN ug w':=by
 have e2:=h.ok.e2;refine⟨h.ok,ZQ h.zl hm.size,h.box.keep hm h.ok.ne,he,h.TD.turn hm (fun g hg e=>?_) (fun _ _ _ k=>k.turn hm (fun g hg _ e=>?_) (fun _ h _=>h)),h.mod.into hm (fun i e=>.inr ?_)⟩
 ·have h1:=(h.TD.lt g hg).1;have e3:g=p.eg:=e;omega
 ·have h1:=hg.1;have e3:g=p.eg:=e;omega
 ·have e3:i=p.eg:=e;have:=h.ok.e1;omega
theorem yj{g:Nat}(h:Yr w p.Z 50 2 (OQ w (FM p.Z v) p.d) v l)(hg:v.ownBlock=some g):∃cs,ZI w g 50 cs:=by
 obtain⟨xs,h1,_⟩:=h;rcases h1.2 with⟨rfl,_⟩|⟨g',cap,cur,rfl,_,hb,_⟩
 ·cases hg
 ·simp only [Value.ownBlock,Option.some.injEq]at hg;subst hg;exact⟨cur,hb⟩
theorem Nh.open_{v':Value}{xs:List Value}(h:Nh wb p v l q nu Y7 w)(hc:WB 2 (OQ w (FM p.Z v) p.d) l xs)(y1:w'.ownsRow p.Z 50 2 v' (l.length+1) (xs++[.slice none 0 0,.slice none 0 0]))(y2:Mod (fun j=>v.ownBlock=some j) w w')(y4:∀g,v'.ownBlock=some g->v.ownBlock=some g\/w.heap.size<=g):
  Nh wb p v' (l++[[]]) q nu Y7 (w'.setCell ⟨p.mb,7,none⟩ v'):=by
 have m2:=h.ok.m2;have e2:=h.ok.e2;have hzl:=h.zl;have hlt:=h.TD.lt;have zz:∀k,FM p.Z v k->k<w.heap.size->¬v.ownBlock=some k:=fun k hk _=>hk.2;have r9:∀k,FM p.Z v k->k<w.heap.size->FM p.Z v' k:=fun k hk hl=>⟨hk.1,fun e=>(y4 k e).elim hk.2 (by omega)⟩
 have hL:Yr w' p.Z 50 2 (OQ w' (FM p.Z v') p.d) v' (l++[[]]):=Yr.push y1 (hc.mono (fun _ _ _ k=>k.turn y2 zz r9)) (acN _ _ _) rfl;have hb:ZI w' p.mb 46 (p.cells v):=h.box.keep y2 (fun e=>by have:=(hlt _ e).1;omega)
 have he:Oh w' p.eg p.d p.G q p.tg nu Y7:=h.enc.mod y2 (fun e=>by have:=(hlt _ e).1;omega) (fun j hj=>by
  obtain⟨cs,UQ⟩:=yj h.TD hj;exact .inr ⟨_,cs,UQ,by decide⟩)
 have hm:Mod (·=p.mb) w' (w'.setCell ⟨p.mb,7,none⟩ v'):=(Mod.refl (·=p.mb) w').setCell (p:=⟨p.mb,7,none⟩) (.inl rfl) _;have hM:Mod (fun _=>False) wb w':=h.mod.into y2 (fun i e=>.inr (by have:=(hlt i e).1;have:=h.ok.m1;omega));refine⟨h.ok,?_,?_,?_,?_,?_⟩
 ·have h1:=y2.size;have h2:=hm.size;omega
 ·have:=hb.UY 7 v';exact this
 ·exact he.mod hm (fun e=>h.ok.ne e.symm) (fun j hj=>by
   have e3:j=p.mb:=hj;exact .inr ⟨_,_,by rw [e3];exact hb,by decide⟩)
 ·refine hL.turn hm (fun g hg e=>?_) (fun _ _ _ k=>k.turn hm (fun g hg _ e=>?_) (fun _ h _=>h))
  ·have e3:g=p.mb:=e;have:=(hL.lt g hg).1;omega
  ·have e3:g=p.mb:=e;have:=hg.1;omega
 ·exact hM.into hm (fun i e=>.inr (by have e3:i=p.mb:=e;have:=h.ok.m1;omega))
theorem Nh.laid{g n c:Nat}{init:List (List (List UInt8 × Yy))}{s s':List (List UInt8 × Yy)}{a b:Value}(h:Nh wb p ↑(ZZ g n c) (init++[s]) q nu Y7 w)(hx:OQ w (FM p.Z ↑(ZZ g n c)) p.d s' [a,b]):
  Nh wb p ↑(ZZ g n c) (init++[s']) q nu Y7 ((w.setCell ⟨g,init.length*2,none⟩ a).setCell ⟨g,init.length*2+1,none⟩ b):=by
 have hm:Mod (·=g) w ((w.setCell ⟨g,init.length*2,none⟩ a).setCell ⟨g,init.length*2+1,none⟩ b):=((Mod.refl (·=g) w).setCell (p:=⟨g,init.length*2,none⟩) (.inl rfl) a).setCell (p:=⟨g,init.length*2+1,none⟩) (.inl rfl) b;have zz:∀k,FM p.Z ↑(ZZ g n c) k->k<w.heap.size->¬k=g:=fun k hk _ e=>hk.2 (by rw [e];rfl);have KO:=h.TD.lt g rfl;have m2:=h.ok.m2;have e2:=h.ok.e2;obtain⟨cs,UQ⟩:=yj h.TD (g:=g) rfl;refine⟨h.ok,ZQ h.zl hm.size,h.box.keep hm (fun e=>by have e3:p.mb=g:=e;omega),h.enc.mod hm (fun e=>by have e3:p.eg=g:=e;omega) (fun j hj=>?_),?_,h.mod.into hm (fun i e=>.inr (by have e3:i=g:=e;have:=h.ok.m1;omega))⟩
 ·have e3:j=g:=hj;exact .inr ⟨_,cs,by rw [e3];exact UQ,ZU⟩
 ·exact Yr.setLast h.TD (fun _ _ _ k=>k.turn hm zz (fun _ h _=>h)) (hx.turn hm zz (fun _ h _=>h))
end
end Go.Proofs.YthednemlahioeaaGreatDoor
namespace Go.Proofs.YthednemlahioeaaGreatDoor
open List renaming range→Zz,nodup_cons→WE,length_cons→Ue,all_eq_true→YM
open Region renaming Mode→Wv,ready→Zj,noSelect→Vv,noSelect_spec→XQ,free_spec→WY,before→Yo,wanted→ZH
open Bool renaming and_eq_true→ZT,not_true→VM,false_or→VL,or_eq_true→Xd,or_eq_false_iff→Wt,not_eq_true'→Xy
open Classical renaming byContradiction→Yf
set_option maxRecDepth 100000
set_option maxHeartbeats 8000000
inductive PTrP where
 | nil
 | seq (i:Nat) (t:PTrP)
 | fork (i j:Nat) (ti tj:PTrP)
 | pool (js:List Nat) (t:PTrP)
namespace PTrP
def depth:PTrP->Nat
 | .nil=>0
 | .seq _ t=>t.depth+1
 | .fork _ _ t _=>t.depth+1
 | .pool js t=>js.length+t.depth
def any(p:Nat->Bool):PTrP->Bool
 | .nil=>false
 | .seq i t=>p i || t.any p
 | .fork i j ti tj=>p i || p j || ti.any p || tj.any p
 | .pool js t=>js.any p || t.any p
def after:List Nat->PTrP->PTrP
 | [],t=>t
 | i :: is,t=>.seq i (after is t)
end PTrP
def XB(ops:Array Oper)(j:Nat):Option Tmp:=(ops[j]?).bind (·.dst)
def Xv(ops:Array Oper)(vals:Nat->Option Value):List Nat->Act->Act
 | [],a=>a
 | j :: js,a=>Xv ops vals js (match vals j with|some v=>a.put (XB ops j) v|none=>a)
def QZ(vals:Nat->Option Value)(i:Nat)(v:Value)(j:Nat):Option Value:=if j=i then some v else vals j
def EG(js:List Nat)(listed:Array Bool):Array Bool:=((Zz listed.size).map fun m=>listed.getD m false || js.contains m).toArray
def oq(md:Wv)(ops:Array Oper)(L0:Array Bool):List Nat->List Nat->Bool
 | _,[]=>true
 | pre,j :: js=>(match ops[j]? with
  | some o=>o.after.all fun e=>!Region.binds md e || (L0.getD e.on false || pre.contains e.on)
  | none=>false)&&oq md ops L0 (j :: pre) js
section
variable {P : Program} {ops : Array Oper} {md : Wv} {B : Array Nat} {loud ZO : List Nat} {S : World → Prop} {Q : Exit → Act → World → Prop}
def UL(P:Program)(ops:Array Oper)(B:Array Nat)(loud ZO:List Nat)(S:World->Prop)(Q:Exit->Act->World->Prop):PTrP->Act->World->Prop
 | .nil,a,w=>Q .normal a w
 | .seq i is,a,w=>if loud.contains i then wpOp P ops Q i (fun a' w'=>(Behind B ZO i->S w')/\UL P ops B loud ZO S Q is a' w') a w
  else if ZO.contains i then ∃o v,ops[i]?=some o/\YieldsIf P ops S o v a/\UL P ops B loud ZO S Q is (a.put o.dst v) w
  else stOp P ops w i (fun a'=>UL P ops B loud ZO S Q is a' w) a
 | .fork i j ti tj,a,w=>wpOp P ops Q i (fun a' w'=>(Behind B ZO i->S w')/\UL P ops B loud ZO S Q ti a' w') a w/\wpOp P ops Q j (fun a' w'=>(Behind B ZO j->S w')/\UL P ops B loud ZO S Q tj a' w') a w
 | .pool js t,a,w=>S w/\∃J:(Nat->Option Value)->World->Prop,J (fun _=>none) w /\
   (∀i∈js,∀vals w',S w'->J vals w'->vals i=none->(∀j∈js,(B.getD i 0).testBit j=true->(vals j).isSome=true) ->
    wpOp P ops Q i (fun a' w''=>S w''/\∃v,a'=(Xv ops vals js a).put (XB ops i) v/\J (QZ vals i v) w'') (Xv ops vals js a) w') /\
   ∀vals w',S w'->J vals w'->(∀j∈js,(vals j).isSome=true)->UL P ops B loud ZO S Q t (Xv ops vals js a) w'
def jR(md:Wv)(ops:Array Oper)(loud ZO:List Nat)(B:Array Nat):PTrP->Array Bool->Bool
 | .nil,listed=>decide (Zj md ops listed=[])
 | .seq i is,listed=>
   (if loud.contains i then decide (Zj md ops listed=[i])
    else(Zj md ops listed).contains i&&Region.free md ops listed i&&(ZO.contains i || loud.all fun j=>(B.getD j 0).testBit i || listed.getD j true)) &&
   jR md ops loud ZO B is (listed.setIfInBounds i true)
 | .fork i j ti tj,listed=>loud.contains i&&loud.contains j&&decide (Zj md ops listed=[i,j])&&decide (ti.depth=tj.depth) &&
   jR md ops loud ZO B ti (listed.setIfInBounds i true)&&jR md ops loud ZO B tj (listed.setIfInBounds j true)
 | .pool js t,listed=>(js.all fun j=>loud.contains j&&decide (j<listed.size) && !listed.getD j true)&&decide js.Nodup&&decide (listed.size=ops.size) &&
   ((Zz ops.size).all fun i=>listed.getD i true || js.contains i || js.all fun j=>(B.getD i 0).testBit j) &&
   (js.all fun i=>js.all fun j=>decide (i=j) || decide (XB ops i=none) || decide (XB ops i≠XB ops j)) &&
   oq md ops listed [] js&&jR md ops loud ZO B t (EG js listed)
def IK(B:Array Nat)(loud ZO:List Nat):PTrP->Bool
 | .nil=>true
 | .seq i is=>(!loud.contains i || !(is.any fun k=>ZO.contains k) || ZO.any fun p=>!(B.getD i 0).testBit p)&&IK B loud ZO is
 | .fork i j ti tj=>(!(ti.any fun k=>ZO.contains k) || ZO.any fun p=>!(B.getD i 0).testBit p)&&(!(tj.any fun k=>ZO.contains k) || ZO.any fun p=>!(B.getD j 0).testBit p)&&IK B loud ZO ti&&IK B loud ZO tj
 | .pool _ t=>!(t.any fun k=>ZO.contains k)&&IK B loud ZO t
theorem put_comm{a:Act}{d e:Option Tmp}{u v:Value}(h:d=none\/d≠e):(a.put d u).put e v=(a.put e v).put d u:=by
 cases d with
 | none=>rfl
 | some d=>
  cases e with
  | none=>rfl
  | some e=>
   have hne:d≠e:=fun he=>(h.resolve_left Ze) (by rw [he])
   unfold Act.put;simp only [Act.mk.injEq,and_true];exact Array.setIfInBounds_comm _ _ hne
theorem ac5{js:List Nat}{vals:Nat->Option Value}{i:Nat}{v:Value}(hd:∀j∈js,i=j\/XB ops i=none\/XB ops i≠XB ops j):∀(a:Act),i ∉ js->Xv ops vals js (a.put (XB ops i) v)=(Xv ops vals js a).put (XB ops i) v:=by
 induction js with
 | nil=>exact fun _ _=>rfl
 | cons j js ih=>
  intro a hni;have OG:i≠j:=fun e=>hni (by rw [e];simp);have o6:=(hd j Ze).resolve_left OG;unfold Xv;cases hv:vals j with
  | none=>exact ih (fun k hk=>hd k (by simp [hk])) a (fun h=>hni (by simp [h]))
  | some u=>
   show Xv ops vals js ((a.put (XB ops i) v).put (XB ops j) u)=_;rw [put_comm o6];exact ih (fun k hk=>hd k (by simp [hk])) _ (fun h=>hni (by simp [h]))
theorem BO{js:List Nat}{vals tN:Nat->Option Value}(h:∀j∈js,vals j=tN j):∀a,Xv ops vals js a=Xv ops tN js a:=by
 induction js with
 | nil=>exact fun _=>rfl
 | cons j js ih=>
  intro a;unfold Xv;rw [h j Ze];exact ih (fun k hk=>h k (by simp [hk])) _
theorem x9{js:List Nat}(hn:js.Nodup){vals:Nat->Option Value}{i:Nat}{v:Value}(hi:i∈js)(h0:vals i=none)(hd:∀j∈js,i=j\/XB ops i=none\/XB ops i≠XB ops j):∀a:Act,Xv ops (QZ vals i v) js a=(Xv ops vals js a).put (XB ops i) v:=by
 induction js with
 | nil=>cases hi
 | cons j js ih=>
  intro a;rw [WE]at hn;by_cases e:i=j
  ·subst e;unfold Xv;have h1:QZ vals i v i=some v:=by simp [QZ]
   rw [h1,h0];show Xv ops (QZ vals i v) js (a.put (XB ops i) v)=_;rw [BO (tN:=vals) (fun k hk=>by unfold QZ;rw [if_neg (fun e:k=i=>hn.1 (e▸hk))])];exact ac5 (fun k hk=>hd k (by simp [hk])) a hn.1
  ·have him:i∈js:=by
    rcases List.mem_cons.1 hi with h|h
    ·exact absurd h e
    ·exact h
   unfold Xv;have h1:QZ vals i v j=vals j:=by unfold QZ;rw [if_neg (fun h=>e h.symm)]
   rw [h1];exact ih hn.2 him (fun k hk=>hd k (by simp [hk])) _
theorem OE{js:List Nat}(hn:js.Nodup){vals:Nat->Option Value}{i:Nat}{v:Value}{t:Tmp}{a:Act}(hi:i∈js)(hv:vals i=some v)(ht:XB ops i=some t)(hs:t<a.tmps.size)(hd:∀j∈js,i=j\/XB ops i=none\/XB ops i≠XB ops j):(Xv ops vals js a).eval (.tmp t)=v:=by
 have key:=x9 (ops:=ops) hn (vals:=fun j=>if j=i then none else vals j) (v:=v) hi Ze hd a
 rw [BO (tN:=vals) (fun j _=>by
  unfold QZ;dsimp only;by_cases e:j=i
  ·rw [if_pos e,e,hv]
  ·rw [if_neg e,if_neg e])]at key
 rw [key,ht];have hsz:(Xv ops (fun j=>if j=i then none else vals j) js a).tmps.size=a.tmps.size:=by
  clear key hn hi hd
  induction js generalizing a with
  | nil=>rfl
  | cons k ks ih=>
   unfold Xv;split
   ·rw [ih]
    ·unfold Act.put;split<;>simp
    ·unfold Act.put;split<;>simpa using hs
   ·exact ih hs
 unfold Act.put Act.eval;simp [Array.getD_eq_getD_getElem?,hsz,hs]
theorem Qe{js:List Nat}{vals:Nat->Option Value}{t:Tmp}(hd:∀j∈js,XB ops j≠some t):∀a:Act,(Xv ops vals js a).eval (.tmp t)=a.eval (.tmp t):=by
 induction js with
 | nil=>exact fun _=>rfl
 | cons j js ih=>
  intro a;unfold Xv;rw [ih (fun k hk=>hd k (by simp [hk]))];split
  ·exact Act.eval_put (fun d hd2 he=>hd j Ze (by rw [hd2];injection he with he;rw [he]))
  ·rfl
theorem xW{L0:Array Bool}{vals:Nat->Option Value}{W:List Nat}:∀(js pre:List Nat),oq md ops L0 pre js=true->(∀p∈pre,p∈W/\(vals p).isSome=true)->(∀j∈js,j∈W)->(∃j,j∈js/\vals j=none) ->
  ∃j o,j∈js/\vals j=none/\ops[j]?=some o/\∀e∈o.after,Region.binds md e=true->L0.getD e.on false=true\/(e.on∈W/\(vals e.on).isSome=true)
 | [],_,_,_,_,h=>by obtain⟨j,hj,_⟩:=h;cases hj
 | j :: js,pre,ho,hp,hW,h=>by
  simp only [oq,ZT]at ho;obtain⟨h1,h2⟩:=ho;cases hv:vals j with
  | none=>
   cases hoj:ops[j]? with
   | none=>rw [hoj]at h1;cases h1
   | some o=>
    rw [hoj]at h1;refine⟨j,o,Ze,hv,hoj,fun e he hb=>?_⟩;have h3:=Array.all_eq_true'.1 h1 e he;rw [hb,VM,VL,Xd]at h3;rcases h3 with h3|h3
    ·exact .inl h3
    ·exact .inr (hp _ (by simpa using h3))
  | some u=>
   obtain⟨k,o,hk,r⟩:=xW (vals:=vals) (W:=W) js (j :: pre) h2 (fun p CF=>by
    rcases List.mem_cons.1 CF with e|CF
    ·rw [e];exact⟨hW j Ze,by rw [hv];rfl⟩
    ·exact hp p CF) (fun k hk=>hW k (by simp [hk])) (by
    obtain⟨k,hk,sG⟩:=h;rcases List.mem_cons.1 hk with e|hk
    ·rw [e,hv]at sG;cases sG
    ·exact⟨k,hk,sG⟩)
   exact⟨k,o,by simp [hk],r⟩
def LH(vals:Nat->Option Value)(js:List Nat):Nat:=(js.filter fun j=>(vals j).isNone).length
theorem adq{js:List Nat}(hn:js.Nodup){vals:Nat->Option Value}{i:Nat}{v:Value}(hi:i∈js)(h0:vals i=none):LH (QZ vals i v) js+1=LH vals js:=by
 induction js with
 | nil=>cases hi
 | cons j js ih=>
  rw [WE]at hn;unfold LH at *;by_cases e:i=j
  ·subst e;have h1:(QZ vals i v i).isNone=false:=by simp [QZ]
   have h2:(vals i).isNone=true:=by simp [h0]
   rw [List.filter_cons_of_neg (by simp [h1]),List.filter_cons_of_pos (by simp [h2]),Ue];congr 2;refine List.filter_congr (fun k hk=>?_);unfold QZ;rw [if_neg (fun e:k=i=>hn.1 (e▸hk))]
  ·have him:i∈js:=(List.mem_cons.1 hi).resolve_left e;have h1:QZ vals i v j=vals j:=by unfold QZ;rw [if_neg (fun h=>e h.symm)]
   by_cases h2:(vals j).isNone=true
   ·simp only [List.filter_cons,h1,h2,if_true,Ue];have:=ih hn.2 him;omega
   ·simp only [List.filter_cons,h1,h2,Bool.false_eq_true,if_false];exact ih hn.2 him
theorem aci{js:List Nat}:LH (fun _=>none) js=js.length:=by
 unfold LH;simp
theorem ach{js:List Nat}{vals:Nat->Option Value}(h:LH vals js=0):∀j∈js,(vals j).isSome=true:=by
 intro j hj;unfold LH at h;have:=List.filter_eq_nil_iff.1 (List.length_eq_zero_iff.1 h) j hj;cases hv:vals j with
 | none=>rw [hv]at this;exact absurd rfl this
 | some=>rfl
structure Ko(L0:Array Bool)(js:List Nat)(vals:Nat->Option Value)(listed:Array Bool):Prop where
 size:listed.size=L0.size
 at_:∀m,m<L0.size->listed.getD m false=(L0.getD m false || (js.contains m&&(vals m).isSome))
theorem Ko.set{L0:Array Bool}{js:List Nat}{vals:Nat->Option Value}{listed:Array Bool}(h:Ko L0 js vals listed){i:Nat}{v:Value}(hi:i∈js):Ko L0 js (QZ vals i v) (listed.setIfInBounds i true):=by
 refine⟨by simp [h.size],fun m hm=>?_⟩;have hb:=h.at_ m hm;by_cases e:i=m
 ·subst e;have h1:(QZ vals i v i).isSome=true:=by simp [QZ]
  rw [h1];have h2:js.contains i=true:=by simpa using hi
  rw [h2];simp [Array.getD_eq_getD_getElem?,h.size,hm]
 ·have h1:QZ vals i v m=vals m:=by unfold QZ;rw [if_neg (fun h=>e h.symm)]
  rw [h1,<-hb,getD_set_ne false e]
theorem Ko.full{L0:Array Bool}{js:List Nat}{vals:Nat->Option Value}{listed:Array Bool}(h:Ko L0 js vals listed)(ha:∀j∈js,(vals j).isSome=true):listed=EG js L0:=by
 refine Array.ext (by simp [EG,h.size]) (fun m h1 h2=>?_);have hm:m<L0.size:=by rw [<-h.size];exact h1
 have hb:=h.at_ m hm;have e1:listed.getD m false=listed[m]:=by simp [Array.getD_eq_getD_getElem?,h1]
 rw [e1]at hb;rw [hb];simp only [EG,List.getElem_toArray,List.getElem_map,List.getElem_range];by_cases hj:js.contains m=true
 ·rw [hj,ha m (by simpa using hj),Bool.and_true]
 ·have:js.contains m=false:=by simpa using hj
  rw [this,Bool.false_and]
theorem acI{B:Array Nat}(hB:N7 md ops B=true){js:List Nat}(hn:js.Nodup)(hl:∀j∈js,j∈loud)(hd:∀i∈js,∀j∈js,i=j\/XB ops i=none\/XB ops i≠XB ops j){L0:Array Bool}(hsz:L0.size=ops.size)(iR:oq md ops L0 [] js=true)
  (h0:∀j∈js,j<L0.size/\L0.getD j true=false)(hw:∀i,i<ops.size->L0.getD i true=false->i ∉ js->∀j∈js,(B.getD i 0).testBit j=true){J:(Nat->Option Value)->World->Prop}{a:Act}{n:Nat}
  (hstep:∀i∈js,∀vals w',S w'->J vals w'->vals i=none->(∀j∈js,(B.getD i 0).testBit j=true->(vals j).isSome=true) ->
    wpOp P ops Q i (fun a' w''=>S w''/\∃v,a'=(Xv ops vals js a).put (XB ops i) v/\J (QZ vals i v) w'') (Xv ops vals js a) w')
  (hend:∀vals w' listed,S w'->J vals w'->(∀j∈js,(vals j).isSome=true)->Ko L0 js vals listed->Closed md ops listed->pM P md ops B loud ZO S Q n listed (Xv ops vals js a) w'):
  ∀(k:Nat) (vals:Nat->Option Value) (listed:Array Bool) (w:World),LH vals js=k->Ko L0 js vals listed->Closed md ops listed->S w->J vals w->pM P md ops B loud ZO S Q (k+n) listed (Xv ops vals js a) w:=by
 intro k
 induction k with
 | zero=>
  intro vals listed w hk hp hc hS hJ;rw [Nat.zero_add];exact hend vals w listed hS hJ (ach hk) hp hc
 | succ k ih=>
  intro vals listed w hk hp hc hS hJ;rw [Nat.succ_add]
  have YZ:∀i∈Zj md ops listed,i∈js/\vals i=none/\∀j∈js,(B.getD i 0).testBit j=true->(vals j).isSome=true:=fun i hi=>by
   obtain⟨hun,o,ho,hall⟩:=mem_ready.1 hi;have hio:i<ops.size:=(Array.getElem?_eq_some_iff.1 ho).1
   have hgd:∀m,m<L0.size->listed.getD m true=listed.getD m false:=fun m hm=>by
    have:m<listed.size:=by rw [hp.size];exact hm
    simp [Array.getD_eq_getD_getElem?,this]
   have aiM:∀m,m<L0.size->L0.getD m true=L0.getD m false:=fun m hm=>by
    simp [Array.getD_eq_getD_getElem?,hm]
   have Br:∀j,j<ops.size->(B.getD i 0).testBit j=true->listed.getD j false=true:=fun j hj hb=>Q0 hB hc i i (Nat.le_refl _) o ho hall j hj hb
   have hjs:∀j∈js,(B.getD i 0).testBit j=true->(vals j).isSome=true:=fun j hj hb=>by
    have h1:=Br j (by rw [<-hsz];exact(h0 j hj).1) hb;rw [hp.at_ j (h0 j hj).1,<-aiM j (h0 j hj).1,(h0 j hj).2,VL,ZT]at h1;exact h1.2
   have hiL:i<L0.size:=by rw [hsz];exact hio
   have aS:=hun;rw [hgd i hiL,hp.at_ i hiL,Wt]at aS;by_cases xg:i∈js
   ·refine⟨xg,?_,hjs⟩;have:js.contains i=true:=by simpa using xg
    have h3:=aS.2;rw [this,Bool.true_and]at h3;cases hv:vals i with
    | none=>rfl
    | some=>rw [hv]at h3;cases h3
   ·exfalso;have ai3:=hw i hio (by rw [aiM i hiL];exact aS.1) xg;have:LH vals js=0:=by
     unfold LH;rw [List.length_eq_zero_iff,List.filter_eq_nil_iff];intro j hj h4;have h5:=hjs j hj (ai3 j hj);cases hv:vals j with
     | none=>rw [hv]at h5;cases h5
     | some=>rw [hv]at h4;cases h4
    omega
  have hex:∃i,i∈Zj md ops listed:=by
   refine Yf fun hno=>?_
   obtain⟨j,o,hj,hv,ho,hall⟩:=xW (W:=js) (vals:=vals) js [] iR (fun p hp=>by cases hp) (fun j hj=>hj) (by
    refine Yf fun akt=>?_;have:LH vals js=0:=by
     unfold LH;rw [List.length_eq_zero_iff,List.filter_eq_nil_iff];intro j hj h4
     exact akt ⟨j,hj,by cases hv:vals j with
      | none=>rfl
      | some=>rw [hv]at h4;cases h4⟩
    omega)
   refine hno ⟨j,mem_ready.2 ⟨?_,o,ho,fun e he hb=>?_⟩⟩
   ·have h1:=hp.at_ j (h0 j hj).1;have h2:L0.getD j false=false:=by
     have:=(h0 j hj).2;simpa [Array.getD_eq_getD_getElem?,(h0 j hj).1]using this
    rw [h2,hv]at h1;have GL:j<listed.size:=by rw [hp.size];exact(h0 j hj).1
    have h3:listed.getD j true=listed.getD j false:=by simp [Array.getD_eq_getD_getElem?,GL]
    rw [h3,h1];simp
   ·rcases hall e he hb with h1|⟨h1,h2⟩
    ·have hlt:e.on<L0.size:=by
      refine Yf fun yC=>?_;rw [Array.getD_eq_getD_getElem?,Array.getElem?_eq_none Z8]at h1;cases h1
     rw [hp.at_ _ hlt,h1,Bool.true_or]
    ·rw [hp.at_ _ (h0 _ h1).1,h2];have:js.contains e.on=true:=by simpa using h1
     rw [this];simp
  refine⟨fun h=>?_,fun i hi=>?_⟩
  ·obtain⟨i,hi⟩:=hex;rw [h]at hi;cases hi
  ·obtain⟨xg,hv,lY⟩:=YZ i hi;rw [if_pos (hl i xg)];refine wpOp_mono (fun a' w'' h'=>⟨fun _=>h'.1,?_⟩) (hstep i xg vals w hS hJ hv lY);obtain⟨ES,v,rfl,Gl⟩:=h';rw [<-x9 hn xg hv (hd i xg)];exact ih _ _ _ (by have:=adq hn (v:=v) xg hv;omega) (hp.set xg) (hc.set hi) ES Gl
theorem I6{i:Nat}{b:Bool}{w':World}(ht:(!b || ZO.any fun p=>!(B.getD i 0).testBit p)=true)(hb:Behind B ZO i->S w')(ha:b=true):S w':=hb (by
 rw [ha]at ht;simp only [VM,VL,List.any_eq_true,Xy]at ht;obtain⟨p,hp,hq⟩:=ht;exact⟨p,hp,hq⟩)
theorem QH(hB:N7 md ops B=true)(hs:Vv ops=true)(hQ:∀c a w d u,Q (.panic c) (a.put d u) w->Q (.panic c) a w):
  ∀(is:PTrP) (listed:Array Bool) (a:Act) (w:World),((is.any fun k=>ZO.contains k)=true->S w)->Closed md ops listed->IK B loud ZO is=true->jR md ops loud ZO B is listed=true->UL P ops B loud ZO S Q is a w->pM P md ops B loud ZO S Q is.depth listed a w
 | .nil,listed,a,w,_,hc,_,hp,h=>⟨by simpa [jR]using hp,h⟩
 | .seq i is,listed,a,w,hS,hc,ht,hp,h=>by
  simp only [jR,ZT]at hp;obtain⟨h1,h2⟩:=hp;rw [IK,ZT]at ht;obtain⟨uL,DJ⟩:=ht;have ES:(is.any fun k=>ZO.contains k)=true->S w:=fun h=>hS (by rw [PTrP.any,h,Bool.or_true]);unfold UL at h;by_cases hl:loud.contains i=true
  ·rw [if_pos hl,decide_eq_true_eq]at h1;rw [if_pos hl]at h;have hr:i∈Zj md ops listed:=by rw [h1];simp
   refine⟨fun h0=>(by rw [h0]at hr;cases hr),fun j hj=>?_⟩;rw [h1]at hj;obtain rfl:j=i:=by simpa using hj
   rw [if_pos (by simpa using hl)];rw [hl,VM,VL]at uL;exact wpOp_mono (fun a' w' h'=>⟨h'.1,QH hB hs hQ is _ a' w' (I6 uL h'.1) (hc.set hr) DJ h2 h'.2⟩) h
  ·rw [if_neg hl]at h1 h;simp only [ZT,Xd,YM]at h1;obtain⟨⟨hr,hf⟩,hw⟩:=h1;have Lp:i∈Zj md ops listed:=by simpa using hr
   have JC:i ∉ loud:=by simpa using hl
   by_cases EW:ZO.contains i=true
   ·rw [if_pos EW]at h;obtain⟨o,v,ho,hy,hk⟩:=h;exact vg hB (XQ hs) ho JC (by simpa using EW) hQ is.depth listed a w (hS (by rw [PTrP.any,EW,Bool.true_or])) hc (WY ho hf) Lp hy (QH hB hs hQ is _ _ w ES (hc.set Lp) DJ h2 hk)
   ·rw [if_neg EW]at h;have hw':=hw.resolve_left EW;obtain⟨_,o,ho,_⟩:=mem_ready.1 Lp;obtain⟨v,hy,hk⟩:=yieldsAt_of_stOp ho h;exact GG hB (XQ hs) ho JC is.depth listed a (fun j hj=>by simpa using hw' j hj) hc (WY ho hf) Lp hy (QH hB hs hQ is _ _ w ES (hc.set Lp) DJ h2 hk)
 | .fork i j ti tj,listed,a,w,hS,hc,ht,hp,h=>by
  simp only [jR,ZT,decide_eq_true_eq]at hp;obtain⟨⟨⟨⟨⟨li,lj⟩,hrd⟩,hd⟩,oi⟩,oj⟩:=hp;simp only [IK,ZT]at ht;obtain⟨⟨⟨t1,t2⟩,t3⟩,t4⟩:=ht;unfold UL at h;have aH:i∈Zj md ops listed:=by rw [hrd];simp
  have hrj:j∈Zj md ops listed:=by rw [hrd];simp
  refine⟨fun h0=>(by rw [h0]at aH;cases aH),fun k hk=>?_⟩;rw [hrd]at hk;have hk':k=i\/k=j:=by simpa using hk
  rcases hk' with rfl|rfl
  ·rw [if_pos (by simpa using li)];exact wpOp_mono (fun a' w' h'=>⟨h'.1,QH hB hs hQ ti _ a' w' (I6 t1 h'.1) (hc.set aH) t3 oi h'.2⟩) h.1
  ·rw [if_pos (by simpa using lj)];refine wpOp_mono (fun a' w' h'=>⟨h'.1,?_⟩) h.2;have:=QH hB hs hQ tj _ a' w' (I6 t2 h'.1) (hc.set hrj) t4 oj h'.2;rw [<-hd]at this;exact this
 | .pool js t,listed,a,w,hS,hc,ht,hp,h=>by
  simp only [jR,ZT,YM,decide_eq_true_eq]at hp;obtain⟨⟨⟨⟨⟨⟨h1,hn⟩,hsz⟩,h2⟩,h3⟩,iR⟩,h4⟩:=hp;simp only [IK,ZT]at ht;unfold UL at h;obtain⟨hSw,J,hJ,hstep,hend⟩:=h
  have hd:∀i∈js,∀j∈js,i=j\/XB ops i=none\/XB ops i≠XB ops j:=fun i hi j hj=>by
   have:=h3 i hi j hj;simp only [Xd,decide_eq_true_eq]at this;rcases this with(h|h)|h
   ·exact .inl h
   ·exact .inr (.inl h)
   ·exact .inr (.inr h)
  have h0:∀j∈js,j<listed.size/\listed.getD j true=false:=fun j hj=>by
   have:=h1 j hj;simp only [Xy]at this;exact⟨this.1.2,this.2⟩
  have hw:∀i,i<ops.size->listed.getD i true=false->i ∉ js->∀j∈js,(B.getD i 0).testBit j=true:=fun i hi Pq xg j hj=>by
   have:=h2 i (List.mem_range.2 hi);rw [Pq,VL,Xd,YM]at this;exact(this.resolve_left (by simpa using xg)) j hj
  have hp0:Ko listed js (fun _=>none) listed:=⟨rfl,fun m _=>by simp⟩
  have key:=acI (md:=md) (P:=P) (Q:=Q) (ZO:=ZO) (S:=S) (n:=t.depth) hB hn (fun j hj=>by simpa using(h1 j hj).1.1) hd hsz iR h0 hw hstep (fun vals w' l2 ES Gl ha hpa hc2=>by
   have he:=hpa.full ha;rw [he]at hc2 ⊢;exact QH hB hs hQ t _ _ w' (fun _=>ES) hc2 ht.2 h4 (hend vals w' ES Gl ha)) js.length (fun _=>none) listed w aci hp0 hc hSw hJ
  have hpa:∀a:Act,Xv ops (fun _=>none) js a=a:=by
   clear key hn h1 h2 h3 iR h4 hd h0 hw hp0 hstep hend hS ht
   induction js with
   | nil=>exact fun _=>rfl
   | cons j js ih=>exact fun a=>ih a
  rw [hpa]at key;exact key
structure QI(P:Program)(ops:Array Oper)(loud ZO:List Nat)(S:World->Prop)(Q:Exit->Act->World->Prop)(is:PTrP)(a:Act)(w:World):Prop where
 out:UL P ops (Yo ops) loud ZO S Q is a w
def oF(ops:Array Oper)(loud ZO:List Nat)(is:PTrP):Bool:=
 Vv ops&&N7 .any ops (Yo ops)&&decide (is.depth=ops.size)&&jR .any ops loud ZO (Yo ops) is (Array.replicate ops.size false)&&IK (Yo ops) loud ZO is
theorem LP{id:Nat}{a:Act}{w:World}(loud ZO:List Nat)(is:PTrP)(S:World->Prop)(hm:P.follows .mixedOrders=true)(hB:oF ops loud ZO is=true)
  (hQ:∀c a w d u,Q (.panic c) (a.put d u) w->Q (.panic c) a w)(hS:S w.drew)(h:QI P ops loud ZO S Q is a w.drew):(Code.region id ops true).wp P Q a w:=by
 simp only [oF,ZT,decide_eq_true_eq]at hB;obtain⟨⟨⟨⟨hs,hw⟩,hl⟩,hp⟩,ht⟩:=hB;refine wp_region_any hm ?_;have:=IQ _ _ _ _ (QH (md:=.any) hw hs hQ is _ a w.drew (fun _=>hS) (fun j oj _ hl=>by rw [getD_replicate_false]at hl;cases hl) ht hp h.out);rw [hl]at this;exact this
theorem NP{i:Nat}{is:PTrP}{o:Oper}{a:Act}{w:World}(hl:(loud.contains i || ZO.contains i)=false)(ho:ops[i]?=some o)
  (h:∀K:Act->Prop,(∀a',QI P ops loud ZO S Q is a' w->K a')->if ZH o (yielded ops a.tmps)then o.still P a w K else K (a.put o.dst undef)):QI P ops loud ZO S Q (.seq i is) a w:=by
 rw [Wt]at hl;refine⟨?_⟩;unfold UL;rw [if_neg (by simpa using hl.1),if_neg (by simpa using hl.2)];unfold stOp;simp only [ho];exact h _ (fun a' h'=>h'.out)
theorem OA{i:Nat}{is:PTrP}{o:Oper}{a:Act}{w:World}{v:Value}(hl:(!loud.contains i&&ZO.contains i)=true)(ho:ops[i]?=some o)(hg:ZH o (yielded ops a.tmps)=true)
  (hr:∀w,S w->(execOp a.eval o).run P w=.ok (.value v) w)(h:∀K:Act->Prop,(∀a',QI P ops loud ZO S Q is a' w->K a')->K (a.put o.dst v)):QI P ops loud ZO S Q (.seq i is) a w:=by
 rw [ZT,Xy]at hl;refine⟨?_⟩;unfold UL;rw [if_neg (by simpa using hl.1),if_pos hl.2];exact⟨o,v,ho,.inl ⟨hg,hr⟩,h _ (fun a' h'=>h'.out)⟩
theorem D9{i:Nat}{is:PTrP}{o:Oper}{a:Act}{w:World}(hl:(loud.contains i&&ZO.all fun p=>((Yo ops).getD i 0).testBit p)=true)(ho:ops[i]?=some o)
  (h:∀K:Act->World->Prop,(∀a w,QI P ops loud ZO S Q is a w->K a w)->if ZH o (yielded ops a.tmps)=true then Oper.wp P o a w K Q else K (a.put o.dst undef) w):QI P ops loud ZO S Q (.seq i is) a w:=by
 rw [ZT,YM]at hl;refine⟨?_⟩;unfold UL;rw [if_pos hl.1];exact wpOp_step ho (fun K hK=>h K (fun a w h2=>hK a w ⟨fun⟨p,hp,hq⟩=>(by rw [hl.2 p hp]at hq;cases hq),h2.out⟩))
theorem abr{js:List Nat}{t:PTrP}{a:Act}{w:World}(J:(Nat->Option Value)->World->Prop)(hS:S w)(hJ:J (fun _=>none) w)
  (hstep:∀i∈js,∀vals w',S w'->J vals w'->vals i=none->(∀j∈js,((Yo ops).getD i 0).testBit j=true->(vals j).isSome=true) ->
   wpOp P ops Q i (fun a' w''=>S w''/\∃v,a'=(Xv ops vals js a).put (XB ops i) v/\J (QZ vals i v) w'') (Xv ops vals js a) w')
  (h:∀vals w',S w'->J vals w'->(∀j∈js,(vals j).isSome=true)->QI P ops loud ZO S Q t (Xv ops vals js a) w'):QI P ops loud ZO S Q (.pool js t) a w:=
 ⟨⟨hS,J,hJ,hstep,fun vals w' h1 h2 h3=>(h vals w' h1 h2 h3).out⟩⟩
theorem Ea{i:Nat}{is:PTrP}{op:Oper}{a:Act}{w:World}(hl:(!loud.contains i&&ZO.contains i)=true)(ho:ops[i]?=some op)(ty:TypeId)(x:Operand)(hop:op.op=.load ty x)(hg:ZH op (yielded ops a.tmps)=true)
  (b o:Nat)(hx:a.eval x=↑(ZC b o))(cs:List Value)(d:TypeDesc)(hS:∀w,S w->w.rangeAt b o cs)
  (hu:P.underlying ty=some d)(hd:d.isRow=true)(hi:(P.info? ty).map (·.size)=some cs.length)
  (h:∀K:Act->Prop,(∀a',QI P ops loud ZO S Q is a' w->K a')->K (a.put op.dst (.agg cs.toArray))):QI P ops loud ZO S Q (.seq i is) a w:=
 OA hl ho hg (fun w' ES=>by
  unfold execOp;simp only [hop,hx,Instr.loadAt,Instr.sureAddr,Sem.run_bind,Sem.run_pure,Result.andThen_ok,run_loadVar_mid w' b o ty cs d (hS w' ES) hu hd hi]) h
theorem OI{i:Nat}{is:PTrP}{op:Oper}{a:Act}{w:World}(hl:(!loud.contains i&&ZO.contains i)=true)(ho:ops[i]?=some op)(ty:TypeId)(x:Operand)(hop:op.op=.load ty x)(hg:ZH op (yielded ops a.tmps)=true)
  (b o:Nat)(hx:a.eval x=↑(ZC b o))(v:Value)(d:TypeDesc)(hS:∀w,S w->w.cell? ⟨b,o,none⟩=some v)
  (hu:P.underlying ty=some d)(hd:d.isRow=false)
  (h:∀K:Act->Prop,(∀a',QI P ops loud ZO S Q is a' w->K a')->K (a.put op.dst v)):QI P ops loud ZO S Q (.seq i is) a w:=
 OA hl ho hg (fun w' ES=>by
  unfold execOp;simp only [hop,hx,Instr.loadAt,Instr.sureAddr,Sem.run_bind,Sem.run_pure,Result.andThen_ok,PD w' _ ty v d (hS w' ES) hu hd]) h
theorem TC{i:Nat}{is:PTrP}{o:Oper}{a a':Act}{w:World}{v:Value}(h:QI P ops loud ZO S Q is a' w)(hl:(!loud.contains i&&ZO.contains i)=true:=by exact rfl)(ho:ops[i]?=some o:=by exact rfl)(hg:ZH o (yielded ops a.tmps)=true:=by exact rfl)
  (hr:∀w,S w->(execOp a.eval o).run P w=.ok (.value v) w:=by exact fun _ _=>rfl)(hk:∀K:Act->Prop,K a'->K (a.put o.dst v):=by intro K hK;go_simp;exact hK):QI P ops loud ZO S Q (.seq i is) a w:=
 OA hl ho hg hr (fun K hK=>hk K (hK _ h))
theorem D8{a:Act}{w:World}(h:Q .normal a w):QI P ops loud ZO S Q .nil a w:=⟨h⟩
end
end Go.Proofs.YthednemlahioeaaGreatDoor
