/-
  ladder.makeOne: the memory while it makes a rendition, step by step.
-/
import Derived.Test.YthednemlahioeaaGreatDoorM18
namespace Go.Proofs.YthednemlahioeaaGreatDoor
open Go.RowKit
open Ne renaming symm→XP
open Nat renaming le_trans→ZQ,lt_of_lt_of_le→ZB,le_refl→ZY
open List renaming range→Zz
set_option maxRecDepth 100000
set_option maxHeartbeats 8000000
theorem VP{S:Nat->Prop}{n:Nat}{W w w':World}(h:KeepsFrom n W w)(hm:Mod S w w')(hS:∀k,S k->k<w.heap.size->∃t cs,ZI w k t cs):KeepsFrom n W w':=
 h.trans ⟨hm.size,fun k o _ ho hc=>(hm.block k (Array.getElem?_eq_some_iff.1 ho).1 (fun hs=>by
  obtain⟨t,cs,hb⟩:=hS k hs (Array.getElem?_eq_some_iff.1 ho).1;unfold ZI at hb;rw [hb]at ho;injection ho with ho;subst ho;cases hc)).trans ho⟩
structure qZ where
 r:Rg
 G:Nat
 tg:Nat
 d:Yz
 rb:Nat
 yg:Nat
 dE:Nat
 xb:Nat
 eb:Nat
 mb:Nat
 g:Nat
 cb:Nat
 jE:Nat
 L:Nat
def BB(r:Rg)(d:Yz)(G:Nat)(v:Value):List Value:=r.cells++[↑d.W,↑d.H,↑G,v]
def DV:Array Value:=#[.string (strOf []),↑Z0,↑Z0,↑Z0,↑Z0,↑Z0,↑Z0,↑Zd]
structure qZ.Ok(p:qZ)(B:Nat):Prop where
 low:B<=p.rb/\B<=p.yg/\B<=p.dE/\B<=p.xb/\B<=p.eb/\B<=p.mb/\B<=p.g/\B<=p.cb/\B<=p.jE
 high:p.rb<p.L/\p.yg<p.L/\p.dE<p.L/\p.xb<p.L/\p.eb<p.L/\p.mb<p.L/\p.g<p.L/\p.cb<p.L/\p.jE<p.L
 e_:p.rb≠p.eb/\p.yg≠p.eb/\p.dE≠p.eb/\p.xb≠p.eb/\p.mb≠p.eb/\p.g≠p.eb/\p.cb≠p.eb/\p.jE≠p.eb
 g_:p.rb≠p.g/\p.yg≠p.g/\p.dE≠p.g/\p.xb≠p.g/\p.mb≠p.g/\p.cb≠p.g/\p.jE≠p.g
 m_:p.rb≠p.mb/\p.yg≠p.mb/\p.dE≠p.mb/\p.xb≠p.mb/\p.cb≠p.mb/\p.jE≠p.mb
 c_:p.rb≠p.cb/\p.yg≠p.cb/\p.dE≠p.cb/\p.xb≠p.cb
def FF(L Z:Nat)(v:Value)(k:Nat):Prop:=L<=k/\k<Z/\v.ownBlock≠some k
def FS(gb T:Nat)(sv fv:Value)(k:Nat):Prop:=gb<k/\k<T/\sv.ownBlock≠some k/\fv.ownBlock≠some k
structure CQ(B:Nat)(p:qZ)(v:Value)(Z:Nat)(done:List (List (List UInt8 × Yy)))(w:World):Prop where
 rg:ZI w p.rb 38 p.r.cells.toArray
 res:ZI w p.yg 43 DV
 er:ZI w p.dE 26 #[↑Z0]
 xp:ZI w p.xb 186 #[↑(ZC p.g 0)]
 bJ:ZI w p.mb 43 (BB p.r p.d p.G v).toArray
 TD:Yr w p.L 49 2 (OQ w (FF p.L Z v) p.d) v done
 vz:∀k,v.ownBlock=some k->p.L<=k/\k<Z
 ok:p.Ok B
 lz:p.L<=Z/\Z<=w.heap.size
section
variable {B : Nat} {p : qZ} {v : Value} {Z : Nat} {done : List (List (List UInt8 × Yy))} {w w' : World}
theorem CQ.keep{S:Nat->Prop}(h:CQ B p v Z done w)(hm:Mod S w w')(hS:∀k,S k->k=p.g\/k=p.eb\/k=p.cb\/Z<=k):CQ B p v Z done w':=by
 obtain⟨g1,g2,g3,g4,g5,g6,g7,g8,g9⟩:=h.ok.high;obtain⟨e1,e2,e3,e4,e5,e6,e7,e8⟩:=h.ok.e_;obtain⟨f1,f2,f3,f4,f5,f6,f7⟩:=h.ok.g_;obtain⟨c1,c2,c3,c4⟩:=h.ok.c_;obtain⟨m1,m2,m3,m4,m5,m6⟩:=h.ok.m_;have lz:=h.lz.1;have no:∀x,x<p.L->x≠p.g->x≠p.eb->x≠p.cb->¬S x:=fun x h0 h1 h2 h3 hs=>by rcases hS x hs with e|e|e|e<;>omega
 have nF:∀k,p.L<=k->k<Z->¬S k:=fun k h1 h2 hs=>by rcases hS k hs with e|e|e|e<;>omega
 exact⟨h.rg.keep hm (no _ g1 f1 e1 c1),h.res.keep hm (no _ g2 f2 e2 c2),h.er.keep hm (no _ g3 f3 e3 c3),h.xp.keep hm (no _ g4 f4 e4 c4),h.bJ.keep hm (no _ g6 f5 e5 (XP m5)),
  h.TD.turn hm (fun k hk=>nF k (h.vz k hk).1 (h.vz k hk).2) (fun _ _ _ hx=>hx.turn hm (fun k hk _=>nF k hk.1 hk.2.1) (fun _ hk _=>hk)),h.vz,h.ok,⟨lz,ZQ h.lz.2 hm.size⟩⟩
theorem CQ.sc(h:CQ B p v Z done w)(hs:Tp w w'):CQ B p v Z done w':=
 ⟨h.rg.sc hs,h.res.sc hs,h.er.sc hs,h.xp.sc hs,h.bJ.sc hs,h.TD.sc hs (fun _ _ _ hx=>hx.sc hs),h.vz,h.ok,⟨h.lz.1,ZQ h.lz.2 hs.size⟩⟩
theorem CQ.raise(h:CQ B p v Z done w){Z':Nat}(hZ:Z<=Z')(hw:Z'<=w.heap.size):CQ B p v Z' done w:=
 ⟨h.rg,h.res,h.er,h.xp,h.bJ,h.TD.turn (Mod.refl ↑ZW w) (fun _ _ h=>h) (fun _ _ _ hx=>hx.turn (Mod.refl ↑ZW w) (fun _ _ _ h=>h) (fun _ hk _=>⟨hk.1,ZB hk.2.1 hZ,hk.2.2⟩)),fun k hk=>⟨(h.vz k hk).1,ZB (h.vz k hk).2 hZ⟩,h.ok,⟨ZQ h.lz.1 hZ,hw⟩⟩
end
structure Ux(B:Nat)(W:World)(p:qZ)(v:Value)(Z:Nat)(done:List (List (List UInt8 × Yy)))(gb T:Nat)(sv fv:Value)(ss:List (List UInt8))(ff:List Yy)(q nu:Nat)(Y7:Yy)(w:World):Prop where
 bs:CQ B p v Z done w
 e0:ZI w p.eb 26 #[↑Z0]
 enc:Uu w p.g p.d p.G q p.tg nu Y7
 uo:ZI w gb 49 #[sv,fv]
 yI:Yr w (gb+1) 54 1 (PM w (FS gb T sv fv)) sv ss
 wS:Yr w (gb+1) 58 9 (Wd w (FS gb T sv fv) p.d) fv ff
 zt:Z<=gb/\gb<T/\T<=w.heap.size
 own:(∀k,sv.ownBlock=some k->k<T)/\(∀k,fv.ownBlock=some k->k<T)
 kp:Lv p.cb p.jE W w
 kf:KeepsFrom p.L W w
 md:Mod (fun k=>k=p.g\/k=p.eb\/Z<=k) W w
section
variable {B : Nat} {W : World} {p : qZ} {v : Value} {Z : Nat} {done : List (List (List UInt8 × Yy))} {gb T : Nat} {sv fv : Value} {ss : List (List UInt8)} {ff : List Yy} {q nu : Nat} {Y7 : Yy} {w w' : World}
theorem Ux.kp_{S:Nat->Prop}(h:Ux B W p v Z done gb T sv fv ss ff q nu Y7 w)(hm:Mod S w w')(hS:∀k,S k->k=p.g\/k=p.eb\/Z<=k):Lv p.cb p.jE W w':=by
 obtain⟨g1,g2,g3,g4,g5,g6,g7,g8,g9⟩:=h.bs.ok.high;obtain⟨e1,e2,e3,e4,e5,e6,e7,e8⟩:=h.bs.ok.e_;obtain⟨f1,f2,f3,f4,f5,f6,f7⟩:=h.bs.ok.g_;have lz:=h.bs.lz;refine h.kp.trans ⟨hm.block _ Z8 (fun hs=>?_),hm.block _ Z8 (fun hs=>?_)⟩
 ·rcases hS _ hs with e|e|e<;>omega
 ·rcases hS _ hs with e|e|e<;>omega
theorem Ux.quiet(h:Ux B W p v Z done gb T sv fv ss ff q nu Y7 w)(hm:Mod ↑ZW w w'):Ux B W p v Z done gb T sv fv ss ff q nu Y7 w':=
 ⟨h.bs.keep hm (fun _ h=>h.elim),h.e0.keep hm (fun h=>h),h.enc.quiet hm,h.uo.keep hm (fun h=>h),h.yI.turn hm (fun _ _ h=>h) (fun _ _ _ k=>k.turn hm (fun _ _ _ h=>h) (fun _ hk _=>hk)),
  h.wS.turn hm (fun _ _ h=>h) (fun _ _ _ k=>k.turn hm (fun _ _ _ h=>h) (fun _ hk _=>hk)),⟨h.zt.1,h.zt.2.1,ZQ h.zt.2.2 hm.size⟩,h.own,h.kp_ hm (fun _ h=>h.elim),VP h.kf hm (fun _ h=>h.elim),h.md.into hm (fun _ h=>h.elim)⟩
theorem Ux.one{x:Nat}{t:TypeId}{cs:Array Value}(h:Ux B W p v Z done gb T sv fv ss ff q nu Y7 w)(hm:Mod (·=x) w w')(hb:ZI w x t cs)(ht:t≠5)(hx:T<=x):Ux B W p v Z done gb T sv fv ss ff q nu Y7 w':=by
 obtain⟨g1,g2,g3,g4,g5,g6,g7,g8,g9⟩:=h.bs.ok.high;obtain⟨z1,z2,z3⟩:=h.zt;have lz:=h.bs.lz;have hS:∀k,k=x->k=p.g\/k=p.eb\/Z<=k:=fun k e=>.inr (.inr Z8)
 exact⟨h.bs.keep hm (fun k e=>.inr (.inr (.inr Z8))),h.e0.keep hm Z8,h.enc.mod hm Z8 (fun j e=>⟨t,cs,by rw [show j=x from e];exact hb,ht⟩),h.uo.keep hm Z8,
  h.yI.turn hm (fun k hk e=>by have:=h.own.1 k hk;omega) (fun _ _ _ k=>k.turn hm (fun k hk _ e=>by have:=hk.2.1;omega) (fun _ hk _=>hk)),
  h.wS.turn hm (fun k hk e=>by have:=h.own.2 k hk;omega) (fun _ _ _ k=>k.turn hm (fun k hk _ e=>by have:=hk.2.1;omega) (fun _ hk _=>hk)),⟨z1,z2,ZQ z3 hm.size⟩,h.own,h.kp_ hm hS,
  VP h.kf hm (fun k e _=>⟨t,cs,by rw [show k=x from e];exact hb⟩),h.md.into hm (fun k e=>.inl (hS k e))⟩
theorem Ux.err(h:Ux B W p v Z done gb T sv fv ss ff q nu Y7 w)(hm:Mod (·=p.eb) w w')(hb:ZI w' p.eb 26 #[↑Z0]):Ux B W p v Z done gb T sv fv ss ff q nu Y7 w':=by
 obtain⟨g1,g2,g3,g4,g5,g6,g7,g8,g9⟩:=h.bs.ok.high;obtain⟨e1,e2,e3,e4,e5,e6,e7,e8⟩:=h.bs.ok.e_;obtain⟨z1,z2,z3⟩:=h.zt;have lz:=h.bs.lz;have hS:∀k,k=p.eb->k=p.g\/k=p.eb\/Z<=k:=fun k e=>.inr (.inl e)
 exact⟨h.bs.keep hm (fun k e=>.inr (.inl e)),hb,h.enc.mod hm e6 (fun j e=>⟨26,#[↑Z0],by rw [show j=p.eb from e];exact h.e0,ZU⟩),h.uo.keep hm Z8,
  h.yI.turn hm (fun k hk e=>by have:=(h.yI.lt k hk).1;omega) (fun _ _ _ k=>k.turn hm (fun k hk _ e=>by have:=hk.1;omega) (fun _ hk _=>hk)),
  h.wS.turn hm (fun k hk e=>by have:=(h.wS.lt k hk).1;omega) (fun _ _ _ k=>k.turn hm (fun k hk _ e=>by have:=hk.1;omega) (fun _ hk _=>hk)),⟨z1,z2,ZQ z3 hm.size⟩,h.own,h.kp_ hm hS,
  VP h.kf hm (fun k e _=>⟨26,#[↑Z0],by rw [show k=p.eb from e];exact h.e0⟩),h.md.into hm (fun k e=>.inl (hS k e))⟩
theorem Ux.code{q' bN:Nat}{ug:Yy}(h:Ux B W p v Z done gb T sv fv ss ff q nu Y7 w)(hm:Mod (·=p.g) w w')(he:Uu w' p.g p.d p.G q' p.tg bN ug):Ux B W p v Z done gb T sv fv ss ff q' bN ug w':=by
 obtain⟨g1,g2,g3,g4,g5,g6,g7,g8,g9⟩:=h.bs.ok.high;obtain⟨e1,e2,e3,e4,e5,e6,e7,e8⟩:=h.bs.ok.e_;obtain⟨z1,z2,z3⟩:=h.zt;have lz:=h.bs.lz;have hS:∀k,k=p.g->k=p.g\/k=p.eb\/Z<=k:=fun k e=>.inl e;have hgb:∃t cs,ZI w p.g t cs:=by obtain⟨al,hb,_⟩:=h.enc;exact⟨_,_,hb⟩
 exact⟨h.bs.keep hm (fun k e=>.inl e),h.e0.keep hm (XP e6),he,h.uo.keep hm Z8,
  h.yI.turn hm (fun k hk e=>by have:=(h.yI.lt k hk).1;omega) (fun _ _ _ k=>k.turn hm (fun k hk _ e=>by have:=hk.1;omega) (fun _ hk _=>hk)),
  h.wS.turn hm (fun k hk e=>by have:=(h.wS.lt k hk).1;omega) (fun _ _ _ k=>k.turn hm (fun k hk _ e=>by have:=hk.1;omega) (fun _ hk _=>hk)),⟨z1,z2,ZQ z3 hm.size⟩,h.own,h.kp_ hm hS,
  VP h.kf hm (fun k e _=>by rw [show k=p.g from e];exact hgb),h.md.into hm (fun k e=>.inl (hS k e))⟩
theorem Ux.raise(h:Ux B W p v Z done gb T sv fv ss ff q nu Y7 w):Ux B W p v Z done gb w.heap.size sv fv ss ff q nu Y7 w:=by
 have hT:=h.zt.2.2;have hm:=Mod.refl ↑ZW w
 exact⟨h.bs,h.e0,h.enc,h.uo,h.yI.turn hm (fun _ _ h=>h) (fun _ _ _ k=>k.turn hm (fun _ _ _ h=>h) (fun k hk _=>⟨hk.1,ZB hk.2.1 hT,hk.2.2⟩)),
  h.wS.turn hm (fun _ _ h=>h) (fun _ _ _ k=>k.turn hm (fun _ _ _ h=>h) (fun k hk _=>⟨hk.1,ZB hk.2.1 hT,hk.2.2⟩)),⟨h.zt.1,ZB h.zt.2.1 hT,ZY _⟩,
  ⟨fun k hk=>ZB (h.own.1 k hk) hT,fun k hk=>ZB (h.own.2 k hk) hT⟩,h.kp,h.kf,h.md⟩
theorem Yr.blk{α:Type}{C:Nat}{e:TypeId}{size:Nat}{R:α->List Value->Prop}{u:Value}{l:List α}(h:Yr w C e size R u l){k:Nat}(hk:u.ownBlock=some k):C<=k/\∃cs,ZI w k e cs:=by
 obtain⟨xs,h1,_⟩:=h;exact Kc h1 hk
theorem Ux.ahW{b:List UInt8}{bv u7:Value}{w1:World}{xs:List Value}(h:Ux B W p v Z done gb T sv fv ss ff q nu Y7 w)(hb:Nb w (FS gb T sv fv) bv b)(hc:WB 1 (PM w (FS gb T sv fv)) ss xs)
  (h1:w1.ownsRow (gb+1) 54 1 u7 (ss.length+1) (xs++[bv]))(hm:Mod (fun j=>sv.ownBlock=some j) w w1)(hg:∀k,u7.ownBlock=some k->sv.ownBlock=some k\/w.heap.size<=k):
  Ux B W p v Z done gb w1.heap.size u7 fv (ss++[b]) ff q nu Y7 (w1.setCell ↑gb u7):=by
 obtain⟨g1,g2,g3,g4,g5,g6,g7,g8,g9⟩:=h.bs.ok.high;obtain⟨z1,z2,z3⟩:=h.zt;have lz:=h.bs.lz;have KO:=h.uo.lt;have hsz:=hm.size;have Y6:Mod (·=gb) w1 (w1.setCell ↑gb u7):=(Mod.refl (·=gb) w1).setCell (p:=↑gb) (.inl rfl) _;have Ti:Mod (fun k=>sv.ownBlock=some k\/k=gb) w (w1.setCell ↑gb u7):=(hm.mono (fun _=>.inl)).into Y6 (fun k e=>.inl (.inr e));have hsk:∀k,sv.ownBlock=some k->gb+1<=k/\∃cs,ZI w k 54 cs:=fun k hk=>h.yI.blk hk;have Co:∀k,fv.ownBlock=some k->gb+1<=k/\∃cs,ZI w k 58 cs:=fun k hk=>h.wS.blk hk
 have hdf:∀k,fv.ownBlock=some k->sv.ownBlock≠some k:=fun k h1 h2=>by
  obtain⟨_,c1,b1⟩:=hsk k h2;obtain⟨_,c2,b2⟩:=Co k h1;exact b1.SL b2 ZU rfl
 have hS:∀k,(sv.ownBlock=some k\/k=gb)->k=p.g\/k=p.eb\/Z<=k:=fun k e=>.inr (.inr (by rcases e with e|e;have:=(hsk k e).1;omega;omega))
 have hB:∀k,(sv.ownBlock=some k\/k=gb)->∃t cs,ZI w k t cs/\t≠5:=fun k e=>by
  rcases e with e|e
  ·obtain⟨_,cs,hb⟩:=hsk k e;exact⟨_,cs,hb,ZU⟩
  ·exact⟨_,_,by rw [e];exact h.uo,ZU⟩
 have r9:∀k,FS gb T sv fv k->k<w.heap.size->FS gb w1.heap.size u7 fv k:=fun k hk hl=>⟨hk.1,Z8,fun e=>(hg k e).elim hk.2.2.1 Z8,hk.2.2.2⟩
 have zz:∀k,FS gb T sv fv k->k<w.heap.size->¬(sv.ownBlock=some k\/k=gb):=fun k hk _ e=>e.elim hk.2.2.1 (fun e=>by have:=hk.1;omega);have yE:∀k,u7.ownBlock=some k->gb+1<=k/\k<w1.heap.size:=fun k hk=>h1.lt k hk;refine⟨h.bs.keep Ti (fun k e=>(hS k e).imp id (fun e=>e.imp id .inr)),h.e0.keep Ti (fun e=>by rcases e with e|e;have:=(hsk _ e).1;omega;omega),h.enc.mod Ti (fun e=>by rcases e with e|e;have:=(hsk _ e).1;omega;omega) hB,?_,?_,?_,⟨z1,Z8,Y6.size⟩,⟨fun k hk=>(yE k hk).2,fun k hk=>by have:=h.own.2 k hk;omega⟩,h.kp_ Ti hS,VP h.kf Ti (fun k e _=>by obtain⟨t,cs,hb,_⟩:=hB k e;exact⟨t,cs,hb⟩),h.md.into Ti (fun k e=>.inl (hS k e))⟩
 ·have agj:=h.uo.keep hm (fun e=>by have:=(hsk _ e).1;omega);have:=agj.UY 0 u7;simpa using this
 ·refine Yr.push (XT h1 Y6 (fun k hk e=>by have:=(yE k hk).1;omega)) (hc.mono (fun x _ c k=>k.turn Ti zz r9)) ⟨bv,rfl,WA.turn hb Ti zz r9⟩ rfl
 ·exact h.wS.turn Ti (fun k hk e=>by rcases e with e|e;exact hdf k hk e;have:=(Co k hk).1;omega) (fun x _ c k=>k.turn Ti zz r9)
theorem Ux.ac4{f:Yy}{c9:List Value}{u7:Value}{w1:World}(h:Ux B W p v Z done gb T sv fv ss ff q nu Y7 w)(hb:Wd w (FS gb T sv fv) p.d f c9)(hm:Mod (fun j=>sv.ownBlock=some j) w w1)(hg:∀k,u7.ownBlock=some k->sv.ownBlock=some k\/w.heap.size<=k):
  Wd (w1.setCell ↑gb u7) (FS gb w1.heap.size u7 fv) p.d f c9:=by
 obtain⟨z1,z2,z3⟩:=h.zt;have KO:=h.uo.lt;have hsz:=hm.size;have Y6:Mod (·=gb) w1 (w1.setCell ↑gb u7):=(Mod.refl (·=gb) w1).setCell (p:=↑gb) (.inl rfl) _;have Ti:Mod (fun k=>sv.ownBlock=some k\/k=gb) w (w1.setCell ↑gb u7):=(hm.mono (fun _=>.inl)).into Y6 (fun k e=>.inl (.inr e));exact hb.turn Ti (fun k hk _ e=>e.elim hk.2.2.1 (fun e=>by have:=hk.1;omega)) (fun k hk hl=>⟨hk.1,Z8,fun e=>(hg k e).elim hk.2.2.1 Z8,hk.2.2.2⟩)
theorem Ux.ahV{f:Yy}{c9:List Value}{gX:Value}{w1:World}{xs:List Value}(h:Ux B W p v Z done gb T sv fv ss ff q nu Y7 w)(hb:Wd w (FS gb T sv fv) p.d f c9)(hl9:c9.length=9)(hc:WB 9 (Wd w (FS gb T sv fv) p.d) ff xs)
  (h1:w1.ownsRow (gb+1) 58 9 gX (ff.length+1) (xs++c9))(hm:Mod (fun j=>fv.ownBlock=some j) w w1)(hg:∀k,gX.ownBlock=some k->fv.ownBlock=some k\/w.heap.size<=k):
  Ux B W p v Z done gb w1.heap.size sv gX ss (ff++[f]) q nu Y7 (w1.setCell ⟨gb,1,none⟩ gX):=by
 obtain⟨g1,g2,g3,g4,g5,g6,g7,g8,g9⟩:=h.bs.ok.high;obtain⟨z1,z2,z3⟩:=h.zt;have lz:=h.bs.lz;have KO:=h.uo.lt;have hsz:=hm.size;have Y6:Mod (·=gb) w1 (w1.setCell ⟨gb,1,none⟩ gX):=(Mod.refl (·=gb) w1).setCell (p:=⟨gb,1,none⟩) (.inl rfl) _;have Ti:Mod (fun k=>fv.ownBlock=some k\/k=gb) w (w1.setCell ⟨gb,1,none⟩ gX):=(hm.mono (fun _=>.inl)).into Y6 (fun k e=>.inl (.inr e));have hsk:∀k,sv.ownBlock=some k->gb+1<=k/\∃cs,ZI w k 54 cs:=fun k hk=>h.yI.blk hk;have Co:∀k,fv.ownBlock=some k->gb+1<=k/\∃cs,ZI w k 58 cs:=fun k hk=>h.wS.blk hk
 have hdf:∀k,sv.ownBlock=some k->fv.ownBlock≠some k:=fun k h1 h2=>by
  obtain⟨_,c1,b1⟩:=hsk k h1;obtain⟨_,c2,b2⟩:=Co k h2;exact b1.SL b2 ZU rfl
 have hS:∀k,(fv.ownBlock=some k\/k=gb)->k=p.g\/k=p.eb\/Z<=k:=fun k e=>.inr (.inr (by rcases e with e|e;have:=(Co k e).1;omega;omega))
 have hB:∀k,(fv.ownBlock=some k\/k=gb)->∃t cs,ZI w k t cs/\t≠5:=fun k e=>by
  rcases e with e|e
  ·obtain⟨_,cs,hb⟩:=Co k e;exact⟨_,cs,hb,ZU⟩
  ·exact⟨_,_,by rw [e];exact h.uo,ZU⟩
 have r9:∀k,FS gb T sv fv k->k<w.heap.size->FS gb w1.heap.size sv gX k:=fun k hk hl=>⟨hk.1,Z8,hk.2.2.1,fun e=>(hg k e).elim hk.2.2.2 Z8⟩
 have zz:∀k,FS gb T sv fv k->k<w.heap.size->¬(fv.ownBlock=some k\/k=gb):=fun k hk _ e=>e.elim hk.2.2.2 (fun e=>by have:=hk.1;omega);have yE:∀k,gX.ownBlock=some k->gb+1<=k/\k<w1.heap.size:=fun k hk=>h1.lt k hk;refine⟨h.bs.keep Ti (fun k e=>(hS k e).imp id (fun e=>e.imp id .inr)),h.e0.keep Ti (fun e=>by rcases e with e|e;have:=(Co _ e).1;omega;omega),h.enc.mod Ti (fun e=>by rcases e with e|e;have:=(Co _ e).1;omega;omega) hB,?_,?_,?_,⟨z1,Z8,Y6.size⟩,⟨fun k hk=>by have:=h.own.1 k hk;omega,fun k hk=>(yE k hk).2⟩,h.kp_ Ti hS,VP h.kf Ti (fun k e _=>by obtain⟨t,cs,hb,_⟩:=hB k e;exact⟨t,cs,hb⟩),h.md.into Ti (fun k e=>.inl (hS k e))⟩
 ·have agj:=h.uo.keep hm (fun e=>by have:=(Co _ e).1;omega);have:=agj.UY 1 gX;simpa using this
 ·exact h.yI.turn Ti (fun k hk e=>by rcases e with e|e;exact hdf k hk e;have:=(hsk k hk).1;omega) (fun x _ c k=>k.turn Ti zz r9)
 ·exact Yr.push (XT h1 Y6 (fun k hk e=>by have:=(yE k hk).1;omega)) (hc.mono (fun x _ c k=>k.turn Ti zz r9)) (hb.turn Ti zz r9) hl9
end
structure qY(w0:World)(p:qZ)(Xa:List Yy)(q0 i:Nat)(W:World):Prop where
 st:∃v,CQ w0.heap.size p v W.heap.size ((Zz i).map (SI p.d p.G p.tg q0 Xa)) W
 e0:ZI W p.eb 26 #[↑Z0]
 enc:Uu W p.g p.d p.G (Xr p.d p.G p.tg q0 Xa (min (i*p.G) Xa.length)).1 p.tg 0 (Xr p.d p.G p.tg q0 Xa (min (i*p.G) Xa.length)).2
 cbk:∃x,ZI W p.cb 29 #[x]
 old:Mod ↑ZW w0 W
section
variable {w0 W W' : World} {p : qZ} {Xa : List Yy} {q0 i : Nat}
theorem qY.quiet(h:qY w0 p Xa q0 i W)(hm:Mod ↑ZW W W'):qY w0 p Xa q0 i W':=by
 obtain⟨⟨v,hv⟩,h1,h2,⟨x,hx⟩,h3⟩:=h;exact⟨⟨v,(hv.keep hm (fun _ h=>h.elim)).raise hm.size (ZY _)⟩,h1.keep hm (fun h=>h),h2.quiet hm,⟨x,hx.keep hm (fun h=>h)⟩,h3.trans hm⟩
theorem qY.turn{B:Nat}(hB:w0.heap.size<=B):OwnFrom B (fun(pre:List Nat) W=>qY w0 p Xa q0 pre.length W):=by
 intro pre W W' row h hg hr;have hs:=Tp.xR hg (fun r e=>(hr r e).2);obtain⟨⟨v,hv⟩,h1,h2,⟨x,hx⟩,h3⟩:=h;exact⟨⟨v,(hv.sc hs).raise hs.size (ZY _)⟩,h1.sc hs,h2.sc hs,⟨x,hx.sc hs⟩,h3.grown hg (fun k hk=>.inr (ZQ hB (hr k hk).1))⟩
theorem qY.state(h:qY w0 p Xa q0 i W)(u:Value):qY w0 p Xa q0 i (W.setCell ↑p.cb u):=by
 obtain⟨⟨v,hv⟩,h1,h2,⟨x,hx⟩,h3⟩:=h;obtain⟨e1,e2,e3,e4,e5,e6,e7,e8⟩:=hv.ok.e_;obtain⟨f1,f2,f3,f4,f5,f6,f7⟩:=hv.ok.g_;have hm:Mod (·=p.cb) W (W.setCell ↑p.cb u):=(Mod.refl (·=p.cb) W).setCell (p:=↑p.cb) (.inl rfl) _;have low:=hv.ok.low;exact⟨⟨v,(hv.keep hm (fun k e=>.inr (.inr (.inl e)))).raise hm.size (ZY _)⟩,h1.keep hm (XP e7),h2.mod hm (XP f6) (fun j e=>⟨29,#[x],by rw [show j=p.cb from e];exact hx,ZU⟩),⟨u,hx.put rfl⟩,h3.into hm (fun k e=>.inr Z8)⟩
theorem qY.start(h:qY w0 p Xa q0 i W):∃v,Ux w0.heap.size W p v W.heap.size ((Zz i).map (SI p.d p.G p.tg q0 Xa)) W.heap.size (W.heap.size+1) ↑Zd ↑Zd [] []
  (Xr p.d p.G p.tg q0 Xa (min (i*p.G) Xa.length)).1 0 (Xr p.d p.G p.tg q0 Xa (min (i*p.G) Xa.length)).2 (W.alloc (.cells #[↑Zd,↑Zd] 49)):=by
 obtain⟨⟨v,hv⟩,h1,h2,⟨x,hx⟩,h3⟩:=h;have hm:Mod ↑ZW W (W.alloc (.cells #[↑Zd,↑Zd] 49)):=(Mod.refl _ W).alloc _;obtain⟨g1,g2,g3,g4,g5,g6,g7,g8,g9⟩:=hv.ok.high;have lz:=hv.lz
 refine⟨v,hv.keep hm (fun _ h=>h.elim),h1.keep hm (fun h=>h),h2.quiet hm,ZI.new _ _ _,.nil _ _,.nil _ _,⟨ZY _,Z8,Ze⟩,⟨fun k hk=>by simp [Value.ownBlock]at hk,fun k hk=>by simp [Value.ownBlock]at hk⟩,⟨hm.block _ Z8 (fun h=>h),hm.block _ Z8 (fun h=>h)⟩,
  VP (KeepsFrom.refl _ _) hm (fun _ h=>h.elim),hm.mono (fun _ h=>h.elim)⟩
end
section
variable {w0 W : World} {p : qZ} {v : Value} {Z : Nat} {done : List (List (List UInt8 × Yy))} {gb T : Nat} {sv fv : Value} {ss : List (List UInt8)} {ff : List Yy} {q nu : Nat} {Y7 : Yy} {w w' : World}
theorem Ux.old(h:Ux w0.heap.size W p v Z done gb T sv fv ss ff q nu Y7 w)(ho:Mod ↑ZW w0 W):Mod ↑ZW w0 w:=by
 have low:=h.bs.ok.low;have lz:=h.bs.lz;have hi:=h.bs.ok.high;exact ho.into h.md (fun k e=>.inr (by rcases e with e|e|e<;>omega))
theorem Ux.akd{Xa:List Yy}{q0 i:Nat}{v':Value}{w1:World}{xs:List Value}(h:Ux w0.heap.size W p v Z ((Zz i).map (SI p.d p.G p.tg q0 Xa)) gb T sv fv ((SI p.d p.G p.tg q0 Xa i).map Prod.fst) ((SI p.d p.G p.tg q0 Xa i).map Prod.snd) q 0 Y7 w)(ho:Mod ↑ZW w0 W)(hcb:∃x,ZI W p.cb 29 #[x])
  (hq:q=(Xr p.d p.G p.tg q0 Xa (min ((i+1)*p.G) Xa.length)).1)(ha:Y7=(Xr p.d p.G p.tg q0 Xa (min ((i+1)*p.G) Xa.length)).2)
  (hc:WB 2 (OQ w (FF p.L Z v) p.d) ((Zz i).map (SI p.d p.G p.tg q0 Xa)) xs)
  (h1:w1.ownsRow p.L 49 2 v' (((Zz i).map (SI p.d p.G p.tg q0 Xa)).length+1) (xs++[sv,fv]))(hm:Mod (fun j=>v.ownBlock=some j) w w1)(hg:∀k,v'.ownBlock=some k->v.ownBlock=some k\/w.heap.size<=k):
  qY w0 p Xa q0 (i+1) (w1.setCell ⟨p.mb,7,none⟩ v')/\KeepsFrom p.L W (w1.setCell ⟨p.mb,7,none⟩ v')/\Lv p.cb p.jE W (w1.setCell ⟨p.mb,7,none⟩ v'):=by
 obtain⟨g1,g2,g3,g4,g5,g6,g7,g8,g9⟩:=h.bs.ok.high;obtain⟨e1,e2,e3,e4,e5,e6,e7,e8⟩:=h.bs.ok.e_;obtain⟨f1,f2,f3,f4,f5,f6,f7⟩:=h.bs.ok.g_;obtain⟨m1,m2,m3,m4,m5,m6⟩:=h.bs.ok.m_;obtain⟨z1,z2,z3⟩:=h.zt;have lz:=h.bs.lz;have low:=h.bs.ok.low;have hsz:=hm.size;have jc:=h.bs.vz;have Y6:Mod (·=p.mb) w1 (w1.setCell ⟨p.mb,7,none⟩ v'):=(Mod.refl (·=p.mb) w1).setCell (p:=⟨p.mb,7,none⟩) (.inl rfl) _;have Ti:Mod (fun k=>v.ownBlock=some k\/k=p.mb) w (w1.setCell ⟨p.mb,7,none⟩ v'):=(hm.mono (fun _=>.inl)).into Y6 (fun k e=>.inl (.inr e))
 have hB:∀k,(v.ownBlock=some k\/k=p.mb)->∃t cs,ZI w k t cs/\t≠5:=fun k e=>by
  rcases e with e|e
  ·obtain⟨_,cs,hb⟩:=h.bs.TD.blk e;exact⟨_,cs,hb,ZU⟩
  ·exact⟨_,_,by rw [e];exact h.bs.bJ,ZU⟩
 have nS:∀x,x<p.L->x≠p.mb->¬(v.ownBlock=some x\/x=p.mb):=fun x h1 h2 e=>e.elim (fun e=>by have:=(jc x e).1;omega) h2;have hv':∀k,v'.ownBlock=some k->p.L<=k/\k<w1.heap.size:=fun k hk=>h1.lt k hk;have r9:∀k,FF p.L Z v k->k<w.heap.size->FF p.L w1.heap.size v' k:=fun k hk hl=>⟨hk.1,Z8,fun e=>(hg k e).elim hk.2.2 Z8⟩
 have zz:∀k,FF p.L Z v k->k<w.heap.size->¬(v.ownBlock=some k\/k=p.mb):=fun k hk _ e=>e.elim hk.2.2 (fun e=>by have:=hk.1;omega);have hGF:∀k,FS gb T sv fv k->k<w.heap.size->FF p.L w1.heap.size v' k:=fun k hk hl=>⟨by have:=hk.1;omega,Z8,fun e=>(hg k e).elim (fun e=>by have:=(jc k e).2;have:=hk.1;omega) Z8⟩
 have hGn:∀k,FS gb T sv fv k->k<w.heap.size->¬(v.ownBlock=some k\/k=p.mb):=fun k hk _ e=>e.elim (fun e=>by have:=(jc k e).2;have:=hk.1;omega) (fun e=>by have:=hk.1;omega);have Jh:OQ (w1.setCell ⟨p.mb,7,none⟩ v') (FF p.L w1.heap.size v') p.d (SI p.d p.G p.tg q0 Xa i) [sv,fv]:=by
  refine⟨sv,fv,rfl,?_,?_⟩
  ·have:=h.yI.RU (F:=fun k=>sv.ownBlock=some k) (fun k hk=>hk)
   exact this.turn Ti (fun k hk hl e=>by
    have h1:=(h.yI.lt k hk).1;rcases e with e|e
    ·have:=(jc k e).2;omega
    ·omega) (fun k hk hl=>⟨by have:=(h.yI.lt k hk).1;omega,Z8,fun e=>(hg k e).elim (fun e=>by have:=(jc k e).2;have:=(h.yI.lt k hk).1;omega) Z8⟩) (fun _ _ _ k=>k.turn Ti hGn hGF)
  ·have:=h.wS.RU (F:=fun k=>fv.ownBlock=some k) (fun k hk=>hk)
   exact this.turn Ti (fun k hk hl e=>by
    have h1:=(h.wS.lt k hk).1;rcases e with e|e
    ·have:=(jc k e).2;omega
    ·omega) (fun k hk hl=>⟨by have:=(h.wS.lt k hk).1;omega,Z8,fun e=>(hg k e).elim (fun e=>by have:=(jc k e).2;have:=(h.wS.lt k hk).1;omega) Z8⟩) (fun _ _ _ k=>k.turn Ti hGn hGF)
 have yA:Lv p.cb p.jE w (w1.setCell ⟨p.mb,7,none⟩ v'):=⟨Ti.block _ Z8 (nS _ g8 m5),Ti.block _ Z8 (nS _ g9 m6)⟩
 refine⟨⟨⟨v',?_⟩,h.e0.keep Ti (nS _ g5 (XP e5)),?_,?_,(h.old ho).into Ti (fun k e=>.inr (e.elim (fun e=>by have:=(jc k e).1;omega) (fun e=>by omega)))⟩,VP h.kf Ti (fun k e _=>by obtain⟨t,cs,hb,_⟩:=hB k e;exact⟨t,cs,hb⟩),h.kp.trans yA⟩
 ·have hz2:=Y6.size;have Fy:=(h.bs.bJ.keep hm (fun e=>by have:=(jc _ e).1;omega)).UY 7 v';refine⟨h.bs.rg.keep Ti (nS _ g1 m1),h.bs.res.keep Ti (nS _ g2 m2),h.bs.er.keep Ti (nS _ g3 m3),h.bs.xp.keep Ti (nS _ g4 m4),?_,?_,fun k hk=>⟨(hv' k hk).1,by have:=(hv' k hk).2;omega⟩,h.bs.ok,⟨Z8,ZY _⟩⟩
  ·simpa [BB,Rg.cells]using Fy
  ·have hrow:Yr (w1.setCell ⟨p.mb,7,none⟩ v') p.L 49 2 (OQ (w1.setCell ⟨p.mb,7,none⟩ v') (FF p.L w1.heap.size v') p.d) v' ((Zz i).map (SI p.d p.G p.tg q0 Xa)++[SI p.d p.G p.tg q0 Xa i]):=
    Yr.push (XT h1 Y6 (fun k hk e=>by have:=(hv' k hk).1;omega)) (hc.mono (fun _ _ _ k=>k.turn Ti zz r9)) Jh rfl
   rw [List.range_succ,List.map_append];refine hrow.turn (Mod.refl ↑ZW _) (fun _ _ h=>h) (fun _ _ _ k=>k.turn (Mod.refl ↑ZW _) (fun _ _ _ h=>h) (fun k hk hl=>⟨hk.1,hl,hk.2.2⟩))
 ·rw [<-hq,<-ha];exact h.enc.mod Ti (nS _ g7 (XP f5)) hB
 ·obtain⟨x,hx⟩:=hcb;exact⟨x,(yA.1.trans h.kp.1).trans hx⟩
end
end Go.Proofs.YthednemlahioeaaGreatDoor
