/-
  ladder.makeOne: the memory while it makes a rendition, step by step.
-/
import Derived.Test.YtnnpoodcdibpiaaGreatDoorB31
namespace Go.Proofs.YtnnpoodcdibpiaaGreatDoor
open Go.RowKit
set_option maxRecDepth 100000
set_option maxHeartbeats 8000000
theorem keepsFrom_mod{S:Nat->Prop}{n:Nat}{W w w':World}(h:KeepsFrom n W w)(hm:Mod S w w')(hS:∀k,S k->k<w.heap.size->∃t cs,Blk w k t cs):KeepsFrom n W w':=
 h.trans ⟨hm.size,fun k o _ ho hc=>(hm.block k (Array.getElem?_eq_some_iff.1 ho).1 (fun hs=>by
  obtain⟨t,cs,hb⟩:=hS k hs (Array.getElem?_eq_some_iff.1 ho).1;unfold Blk at hb;rw [hb]at ho;injection ho with ho;subst ho;cases hc)).trans ho⟩
structure MkP where
 r:Rg
 G:Nat
 tg:Nat
 d:Dim
 rb:Nat
 resb:Nat
 erb:Nat
 xb:Nat
 eb:Nat
 mb:Nat
 g:Nat
 cb:Nat
 gpb:Nat
 L:Nat
def made8(r:Rg)(d:Dim)(G:Nat)(v:Value):List Value:=r.cells++[.int .i64 (d.W:Int),.int .i64 (d.H:Int),.int .i64 (G:Int),v]
def noMade:Array Value:=#[.string (strOf []),.int .i64 0,.int .i64 0,.int .i64 0,.int .i64 0,.int .i64 0,.int .i64 0,.slice none 0 0]
structure MkP.Ok(p:MkP)(B:Nat):Prop where
 low:B<=p.rb/\B<=p.resb/\B<=p.erb/\B<=p.xb/\B<=p.eb/\B<=p.mb/\B<=p.g/\B<=p.cb/\B<=p.gpb
 high:p.rb<p.L/\p.resb<p.L/\p.erb<p.L/\p.xb<p.L/\p.eb<p.L/\p.mb<p.L/\p.g<p.L/\p.cb<p.L/\p.gpb<p.L
 e_:p.rb≠p.eb/\p.resb≠p.eb/\p.erb≠p.eb/\p.xb≠p.eb/\p.mb≠p.eb/\p.g≠p.eb/\p.cb≠p.eb/\p.gpb≠p.eb
 g_:p.rb≠p.g/\p.resb≠p.g/\p.erb≠p.g/\p.xb≠p.g/\p.mb≠p.g/\p.cb≠p.g/\p.gpb≠p.g
 m_:p.rb≠p.mb/\p.resb≠p.mb/\p.erb≠p.mb/\p.xb≠p.mb/\p.cb≠p.mb/\p.gpb≠p.mb
 c_:p.rb≠p.cb/\p.resb≠p.cb/\p.erb≠p.cb/\p.xb≠p.cb
def FF(L Z:Nat)(v:Value)(k:Nat):Prop:=L<=k/\k<Z/\v.ownBlock≠some k
def FS(gb T:Nat)(sv fv:Value)(k:Nat):Prop:=gb<k/\k<T/\sv.ownBlock≠some k/\fv.ownBlock≠some k
structure MkBs(B:Nat)(p:MkP)(v:Value)(Z:Nat)(done:List (List (List UInt8 × Pix)))(w:World):Prop where
 rg:Blk w p.rb 68 p.r.cells.toArray
 res:Blk w p.resb 73 noMade
 er:Blk w p.erb 26 #[.int .i64 0]
 xp:Blk w p.xb 223 #[.pointer (some ⟨p.g,0,none⟩)]
 mbk:Blk w p.mb 73 (made8 p.r p.d p.G v).toArray
 segs:ListOwn w p.L 80 2 (SegR w (FF p.L Z v) p.d) v done
 vz:∀k,v.ownBlock=some k->p.L<=k/\k<Z
 ok:p.Ok B
 lz:p.L<=Z/\Z<=w.heap.size
section
variable {B : Nat} {p : MkP} {v : Value} {Z : Nat} {done : List (List (List UInt8 × Pix))} {w w' : World}
theorem MkBs.keep{S:Nat->Prop}(h:MkBs B p v Z done w)(hm:Mod S w w')(hS:∀k,S k->k=p.g\/k=p.eb\/k=p.cb\/Z<=k):MkBs B p v Z done w':=by
 obtain⟨g1,g2,g3,g4,g5,g6,g7,g8,g9⟩:=h.ok.high;obtain⟨e1,e2,e3,e4,e5,e6,e7,e8⟩:=h.ok.e_;obtain⟨f1,f2,f3,f4,f5,f6,f7⟩:=h.ok.g_;obtain⟨c1,c2,c3,c4⟩:=h.ok.c_;obtain⟨m1,m2,m3,m4,m5,m6⟩:=h.ok.m_;have lz:=h.lz.1;have no:∀x,x<p.L->x≠p.g->x≠p.eb->x≠p.cb->¬S x:=fun x h0 h1 h2 h3 hs=>by rcases hS x hs with e|e|e|e<;>omega
 have nF:∀k,p.L<=k->k<Z->¬S k:=fun k h1 h2 hs=>by rcases hS k hs with e|e|e|e<;>omega
 exact⟨h.rg.keep hm (no _ g1 f1 e1 c1),h.res.keep hm (no _ g2 f2 e2 c2),h.er.keep hm (no _ g3 f3 e3 c3),h.xp.keep hm (no _ g4 f4 e4 c4),h.mbk.keep hm (no _ g6 f5 e5 (Ne.symm m5)),
  h.segs.turn hm (fun k hk=>nF k (h.vz k hk).1 (h.vz k hk).2) (fun _ _ _ hx=>hx.turn hm (fun k hk _=>nF k hk.1 hk.2.1) (fun _ hk _=>hk)),h.vz,h.ok,⟨lz,Nat.le_trans h.lz.2 hm.size⟩⟩
theorem MkBs.sc(h:MkBs B p v Z done w)(hs:SameC w w'):MkBs B p v Z done w':=
 ⟨h.rg.sc hs,h.res.sc hs,h.er.sc hs,h.xp.sc hs,h.mbk.sc hs,h.segs.sc hs (fun _ _ _ hx=>hx.sc hs),h.vz,h.ok,⟨h.lz.1,Nat.le_trans h.lz.2 hs.size⟩⟩
theorem MkBs.raise(h:MkBs B p v Z done w){Z':Nat}(hZ:Z<=Z')(hw:Z'<=w.heap.size):MkBs B p v Z' done w:=
 ⟨h.rg,h.res,h.er,h.xp,h.mbk,h.segs.turn (Mod.refl (fun _=>False) w) (fun _ _ h=>h) (fun _ _ _ hx=>hx.turn (Mod.refl (fun _=>False) w) (fun _ _ _ h=>h) (fun _ hk _=>⟨hk.1,Nat.lt_of_lt_of_le hk.2.1 hZ,hk.2.2⟩)),fun k hk=>⟨(h.vz k hk).1,Nat.lt_of_lt_of_le (h.vz k hk).2 hZ⟩,h.ok,⟨Nat.le_trans h.lz.1 hZ,hw⟩⟩
end
structure MkIn(B:Nat)(W:World)(p:MkP)(v:Value)(Z:Nat)(done:List (List (List UInt8 × Pix)))(gb T:Nat)(sv fv:Value)(ss:List (List UInt8))(ff:List Pix)(q nu:Nat)(ahd:Pix)(w:World):Prop where
 bs:MkBs B p v Z done w
 e0:Blk w p.eb 26 #[.int .i64 0]
 enc:EncAt w p.g p.d p.G q p.tg nu ahd
 gbx:Blk w gb 80 #[sv,fv]
 smp:ListOwn w (gb+1) 22 1 (SampR w (FS gb T sv fv)) sv ss
 frs:ListOwn w (gb+1) 110 9 (FrameF w (FS gb T sv fv) p.d) fv ff
 zt:Z<=gb/\gb<T/\T<=w.heap.size
 own:(∀k,sv.ownBlock=some k->k<T)/\(∀k,fv.ownBlock=some k->k<T)
 kp:Keep2 p.cb p.gpb W w
 kf:KeepsFrom p.L W w
 md:Mod (fun k=>k=p.g\/k=p.eb\/Z<=k) W w
section
variable {B : Nat} {W : World} {p : MkP} {v : Value} {Z : Nat} {done : List (List (List UInt8 × Pix))} {gb T : Nat} {sv fv : Value} {ss : List (List UInt8)} {ff : List Pix} {q nu : Nat} {ahd : Pix} {w w' : World}
theorem MkIn.kp_{S:Nat->Prop}(h:MkIn B W p v Z done gb T sv fv ss ff q nu ahd w)(hm:Mod S w w')(hS:∀k,S k->k=p.g\/k=p.eb\/Z<=k):Keep2 p.cb p.gpb W w':=by
 obtain⟨g1,g2,g3,g4,g5,g6,g7,g8,g9⟩:=h.bs.ok.high;obtain⟨e1,e2,e3,e4,e5,e6,e7,e8⟩:=h.bs.ok.e_;obtain⟨f1,f2,f3,f4,f5,f6,f7⟩:=h.bs.ok.g_;have lz:=h.bs.lz;refine h.kp.trans ⟨hm.block _ (by omega) (fun hs=>?_),hm.block _ (by omega) (fun hs=>?_)⟩
 ·rcases hS _ hs with e|e|e<;>omega
 ·rcases hS _ hs with e|e|e<;>omega
theorem MkIn.quiet(h:MkIn B W p v Z done gb T sv fv ss ff q nu ahd w)(hm:Mod (fun _=>False) w w'):MkIn B W p v Z done gb T sv fv ss ff q nu ahd w':=
 ⟨h.bs.keep hm (fun _ h=>h.elim),h.e0.keep hm (fun h=>h),h.enc.quiet hm,h.gbx.keep hm (fun h=>h),h.smp.turn hm (fun _ _ h=>h) (fun _ _ _ k=>k.turn hm (fun _ _ _ h=>h) (fun _ hk _=>hk)),
  h.frs.turn hm (fun _ _ h=>h) (fun _ _ _ k=>k.turn hm (fun _ _ _ h=>h) (fun _ hk _=>hk)),⟨h.zt.1,h.zt.2.1,Nat.le_trans h.zt.2.2 hm.size⟩,h.own,h.kp_ hm (fun _ h=>h.elim),keepsFrom_mod h.kf hm (fun _ h=>h.elim),h.md.into hm (fun _ h=>h.elim)⟩
theorem MkIn.one{x:Nat}{t:TypeId}{cs:Array Value}(h:MkIn B W p v Z done gb T sv fv ss ff q nu ahd w)(hm:Mod (·=x) w w')(hb:Blk w x t cs)(ht:t≠5)(hx:T<=x):MkIn B W p v Z done gb T sv fv ss ff q nu ahd w':=by
 obtain⟨g1,g2,g3,g4,g5,g6,g7,g8,g9⟩:=h.bs.ok.high;obtain⟨z1,z2,z3⟩:=h.zt;have lz:=h.bs.lz;have hS:∀k,k=x->k=p.g\/k=p.eb\/Z<=k:=fun k e=>.inr (.inr (by omega))
 exact⟨h.bs.keep hm (fun k e=>.inr (.inr (.inr (by omega)))),h.e0.keep hm (by omega),h.enc.mod hm (by omega) (fun j e=>⟨t,cs,by rw [show j=x from e];exact hb,ht⟩),h.gbx.keep hm (by omega),
  h.smp.turn hm (fun k hk e=>by have:=h.own.1 k hk;omega) (fun _ _ _ k=>k.turn hm (fun k hk _ e=>by have:=hk.2.1;omega) (fun _ hk _=>hk)),
  h.frs.turn hm (fun k hk e=>by have:=h.own.2 k hk;omega) (fun _ _ _ k=>k.turn hm (fun k hk _ e=>by have:=hk.2.1;omega) (fun _ hk _=>hk)),⟨z1,z2,Nat.le_trans z3 hm.size⟩,h.own,h.kp_ hm hS,
  keepsFrom_mod h.kf hm (fun k e _=>⟨t,cs,by rw [show k=x from e];exact hb⟩),h.md.into hm (fun k e=>.inl (hS k e))⟩
theorem MkIn.err(h:MkIn B W p v Z done gb T sv fv ss ff q nu ahd w)(hm:Mod (·=p.eb) w w')(hb:Blk w' p.eb 26 #[.int .i64 0]):MkIn B W p v Z done gb T sv fv ss ff q nu ahd w':=by
 obtain⟨g1,g2,g3,g4,g5,g6,g7,g8,g9⟩:=h.bs.ok.high;obtain⟨e1,e2,e3,e4,e5,e6,e7,e8⟩:=h.bs.ok.e_;obtain⟨z1,z2,z3⟩:=h.zt;have lz:=h.bs.lz;have hS:∀k,k=p.eb->k=p.g\/k=p.eb\/Z<=k:=fun k e=>.inr (.inl e)
 exact⟨h.bs.keep hm (fun k e=>.inr (.inl e)),hb,h.enc.mod hm e6 (fun j e=>⟨26,#[.int .i64 0],by rw [show j=p.eb from e];exact h.e0,by decide⟩),h.gbx.keep hm (by omega),
  h.smp.turn hm (fun k hk e=>by have:=(h.smp.lt k hk).1;omega) (fun _ _ _ k=>k.turn hm (fun k hk _ e=>by have:=hk.1;omega) (fun _ hk _=>hk)),
  h.frs.turn hm (fun k hk e=>by have:=(h.frs.lt k hk).1;omega) (fun _ _ _ k=>k.turn hm (fun k hk _ e=>by have:=hk.1;omega) (fun _ hk _=>hk)),⟨z1,z2,Nat.le_trans z3 hm.size⟩,h.own,h.kp_ hm hS,
  keepsFrom_mod h.kf hm (fun k e _=>⟨26,#[.int .i64 0],by rw [show k=p.eb from e];exact h.e0⟩),h.md.into hm (fun k e=>.inl (hS k e))⟩
theorem MkIn.code{q' nu':Nat}{ahd':Pix}(h:MkIn B W p v Z done gb T sv fv ss ff q nu ahd w)(hm:Mod (·=p.g) w w')(he:EncAt w' p.g p.d p.G q' p.tg nu' ahd'):MkIn B W p v Z done gb T sv fv ss ff q' nu' ahd' w':=by
 obtain⟨g1,g2,g3,g4,g5,g6,g7,g8,g9⟩:=h.bs.ok.high;obtain⟨e1,e2,e3,e4,e5,e6,e7,e8⟩:=h.bs.ok.e_;obtain⟨z1,z2,z3⟩:=h.zt;have lz:=h.bs.lz;have hS:∀k,k=p.g->k=p.g\/k=p.eb\/Z<=k:=fun k e=>.inl e;have hgb:∃t cs,Blk w p.g t cs:=by obtain⟨al,hb,_⟩:=h.enc;exact⟨_,_,hb⟩
 exact⟨h.bs.keep hm (fun k e=>.inl e),h.e0.keep hm (Ne.symm e6),he,h.gbx.keep hm (by omega),
  h.smp.turn hm (fun k hk e=>by have:=(h.smp.lt k hk).1;omega) (fun _ _ _ k=>k.turn hm (fun k hk _ e=>by have:=hk.1;omega) (fun _ hk _=>hk)),
  h.frs.turn hm (fun k hk e=>by have:=(h.frs.lt k hk).1;omega) (fun _ _ _ k=>k.turn hm (fun k hk _ e=>by have:=hk.1;omega) (fun _ hk _=>hk)),⟨z1,z2,Nat.le_trans z3 hm.size⟩,h.own,h.kp_ hm hS,
  keepsFrom_mod h.kf hm (fun k e _=>by rw [show k=p.g from e];exact hgb),h.md.into hm (fun k e=>.inl (hS k e))⟩
theorem MkIn.raise(h:MkIn B W p v Z done gb T sv fv ss ff q nu ahd w):MkIn B W p v Z done gb w.heap.size sv fv ss ff q nu ahd w:=by
 have hT:=h.zt.2.2;have hm:=Mod.refl (fun _=>False) w
 exact⟨h.bs,h.e0,h.enc,h.gbx,h.smp.turn hm (fun _ _ h=>h) (fun _ _ _ k=>k.turn hm (fun _ _ _ h=>h) (fun k hk _=>⟨hk.1,Nat.lt_of_lt_of_le hk.2.1 hT,hk.2.2⟩)),
  h.frs.turn hm (fun _ _ h=>h) (fun _ _ _ k=>k.turn hm (fun _ _ _ h=>h) (fun k hk _=>⟨hk.1,Nat.lt_of_lt_of_le hk.2.1 hT,hk.2.2⟩)),⟨h.zt.1,Nat.lt_of_lt_of_le h.zt.2.1 hT,Nat.le_refl _⟩,
  ⟨fun k hk=>Nat.lt_of_lt_of_le (h.own.1 k hk) hT,fun k hk=>Nat.lt_of_lt_of_le (h.own.2 k hk) hT⟩,h.kp,h.kf,h.md⟩
theorem ListOwn.blk{α:Type}{C:Nat}{e:TypeId}{size:Nat}{R:α->List Value->Prop}{u:Value}{l:List α}(h:ListOwn w C e size R u l){k:Nat}(hk:u.ownBlock=some k):C<=k/\∃cs,Blk w k e cs:=by
 obtain⟨xs,h1,_⟩:=h;exact own_blk h1 hk
theorem MkIn.push1{b:List UInt8}{bv sv':Value}{w1:World}{xs:List Value}(h:MkIn B W p v Z done gb T sv fv ss ff q nu ahd w)(hb:BytesF w (FS gb T sv fv) bv b)(hc:CellsOf 1 (SampR w (FS gb T sv fv)) ss xs)
  (h1:w1.ownsRow (gb+1) 22 1 sv' (ss.length+1) (xs++[bv]))(hm:Mod (fun j=>sv.ownBlock=some j) w w1)(hg:∀k,sv'.ownBlock=some k->sv.ownBlock=some k\/w.heap.size<=k):
  MkIn B W p v Z done gb w1.heap.size sv' fv (ss++[b]) ff q nu ahd (w1.setCell ⟨gb,0,none⟩ sv'):=by
 obtain⟨g1,g2,g3,g4,g5,g6,g7,g8,g9⟩:=h.bs.ok.high;obtain⟨z1,z2,z3⟩:=h.zt;have lz:=h.bs.lz;have hgl:=h.gbx.lt;have hsz:=hm.size;have hm1:Mod (·=gb) w1 (w1.setCell ⟨gb,0,none⟩ sv'):=(Mod.refl (·=gb) w1).setCell (p:=⟨gb,0,none⟩) (.inl rfl) _;have hmm:Mod (fun k=>sv.ownBlock=some k\/k=gb) w (w1.setCell ⟨gb,0,none⟩ sv'):=(hm.mono (fun _=>.inl)).into hm1 (fun k e=>.inl (.inr e));have hsk:∀k,sv.ownBlock=some k->gb+1<=k/\∃cs,Blk w k 22 cs:=fun k hk=>h.smp.blk hk;have hfk:∀k,fv.ownBlock=some k->gb+1<=k/\∃cs,Blk w k 110 cs:=fun k hk=>h.frs.blk hk
 have hdf:∀k,fv.ownBlock=some k->sv.ownBlock≠some k:=fun k h1 h2=>by
  obtain⟨_,c1,b1⟩:=hsk k h2;obtain⟨_,c2,b2⟩:=hfk k h1;exact b1.ne_ b2 (by decide) rfl
 have hS:∀k,(sv.ownBlock=some k\/k=gb)->k=p.g\/k=p.eb\/Z<=k:=fun k e=>.inr (.inr (by rcases e with e|e;have:=(hsk k e).1;omega;omega))
 have hB:∀k,(sv.ownBlock=some k\/k=gb)->∃t cs,Blk w k t cs/\t≠5:=fun k e=>by
  rcases e with e|e
  ·obtain⟨_,cs,hb⟩:=hsk k e;exact⟨_,cs,hb,by decide⟩
  ·exact⟨_,_,by rw [e];exact h.gbx,by decide⟩
 have hFF:∀k,FS gb T sv fv k->k<w.heap.size->FS gb w1.heap.size sv' fv k:=fun k hk hl=>⟨hk.1,by omega,fun e=>(hg k e).elim hk.2.2.1 (by omega),hk.2.2.2⟩
 have hFn:∀k,FS gb T sv fv k->k<w.heap.size->¬(sv.ownBlock=some k\/k=gb):=fun k hk _ e=>e.elim hk.2.2.1 (fun e=>by have:=hk.1;omega);have hsv:∀k,sv'.ownBlock=some k->gb+1<=k/\k<w1.heap.size:=fun k hk=>h1.lt k hk;refine⟨h.bs.keep hmm (fun k e=>(hS k e).imp id (fun e=>e.imp id .inr)),h.e0.keep hmm (fun e=>by rcases e with e|e;have:=(hsk _ e).1;omega;omega),h.enc.mod hmm (fun e=>by rcases e with e|e;have:=(hsk _ e).1;omega;omega) hB,?_,?_,?_,⟨z1,by omega,hm1.size⟩,⟨fun k hk=>(hsv k hk).2,fun k hk=>by have:=h.own.2 k hk;omega⟩,h.kp_ hmm hS,keepsFrom_mod h.kf hmm (fun k e _=>by obtain⟨t,cs,hb,_⟩:=hB k e;exact⟨t,cs,hb⟩),h.md.into hmm (fun k e=>.inl (hS k e))⟩
 ·have hgb1:=h.gbx.keep hm (fun e=>by have:=(hsk _ e).1;omega);have:=hgb1.set_ 0 sv';simpa using this
 ·refine ListOwn.push (own_mod h1 hm1 (fun k hk e=>by have:=(hsv k hk).1;omega)) (hc.mono (fun x _ c k=>k.turn hmm hFn hFF)) ⟨bv,rfl,RowIn.turn hb hmm hFn hFF⟩ rfl
 ·exact h.frs.turn hmm (fun k hk e=>by rcases e with e|e;exact hdf k hk e;have:=(hfk k hk).1;omega) (fun x _ c k=>k.turn hmm hFn hFF)
theorem MkIn.push1_fr{f:Pix}{c9:List Value}{sv':Value}{w1:World}(h:MkIn B W p v Z done gb T sv fv ss ff q nu ahd w)(hb:FrameF w (FS gb T sv fv) p.d f c9)(hm:Mod (fun j=>sv.ownBlock=some j) w w1)(hg:∀k,sv'.ownBlock=some k->sv.ownBlock=some k\/w.heap.size<=k):
  FrameF (w1.setCell ⟨gb,0,none⟩ sv') (FS gb w1.heap.size sv' fv) p.d f c9:=by
 obtain⟨z1,z2,z3⟩:=h.zt;have hgl:=h.gbx.lt;have hsz:=hm.size;have hm1:Mod (·=gb) w1 (w1.setCell ⟨gb,0,none⟩ sv'):=(Mod.refl (·=gb) w1).setCell (p:=⟨gb,0,none⟩) (.inl rfl) _;have hmm:Mod (fun k=>sv.ownBlock=some k\/k=gb) w (w1.setCell ⟨gb,0,none⟩ sv'):=(hm.mono (fun _=>.inl)).into hm1 (fun k e=>.inl (.inr e));exact hb.turn hmm (fun k hk _ e=>e.elim hk.2.2.1 (fun e=>by have:=hk.1;omega)) (fun k hk hl=>⟨hk.1,by omega,fun e=>(hg k e).elim hk.2.2.1 (by omega),hk.2.2.2⟩)
theorem MkIn.push2{f:Pix}{c9:List Value}{fv':Value}{w1:World}{xs:List Value}(h:MkIn B W p v Z done gb T sv fv ss ff q nu ahd w)(hb:FrameF w (FS gb T sv fv) p.d f c9)(hl9:c9.length=9)(hc:CellsOf 9 (FrameF w (FS gb T sv fv) p.d) ff xs)
  (h1:w1.ownsRow (gb+1) 110 9 fv' (ff.length+1) (xs++c9))(hm:Mod (fun j=>fv.ownBlock=some j) w w1)(hg:∀k,fv'.ownBlock=some k->fv.ownBlock=some k\/w.heap.size<=k):
  MkIn B W p v Z done gb w1.heap.size sv fv' ss (ff++[f]) q nu ahd (w1.setCell ⟨gb,1,none⟩ fv'):=by
 obtain⟨g1,g2,g3,g4,g5,g6,g7,g8,g9⟩:=h.bs.ok.high;obtain⟨z1,z2,z3⟩:=h.zt;have lz:=h.bs.lz;have hgl:=h.gbx.lt;have hsz:=hm.size;have hm1:Mod (·=gb) w1 (w1.setCell ⟨gb,1,none⟩ fv'):=(Mod.refl (·=gb) w1).setCell (p:=⟨gb,1,none⟩) (.inl rfl) _;have hmm:Mod (fun k=>fv.ownBlock=some k\/k=gb) w (w1.setCell ⟨gb,1,none⟩ fv'):=(hm.mono (fun _=>.inl)).into hm1 (fun k e=>.inl (.inr e));have hsk:∀k,sv.ownBlock=some k->gb+1<=k/\∃cs,Blk w k 22 cs:=fun k hk=>h.smp.blk hk;have hfk:∀k,fv.ownBlock=some k->gb+1<=k/\∃cs,Blk w k 110 cs:=fun k hk=>h.frs.blk hk
 have hdf:∀k,sv.ownBlock=some k->fv.ownBlock≠some k:=fun k h1 h2=>by
  obtain⟨_,c1,b1⟩:=hsk k h1;obtain⟨_,c2,b2⟩:=hfk k h2;exact b1.ne_ b2 (by decide) rfl
 have hS:∀k,(fv.ownBlock=some k\/k=gb)->k=p.g\/k=p.eb\/Z<=k:=fun k e=>.inr (.inr (by rcases e with e|e;have:=(hfk k e).1;omega;omega))
 have hB:∀k,(fv.ownBlock=some k\/k=gb)->∃t cs,Blk w k t cs/\t≠5:=fun k e=>by
  rcases e with e|e
  ·obtain⟨_,cs,hb⟩:=hfk k e;exact⟨_,cs,hb,by decide⟩
  ·exact⟨_,_,by rw [e];exact h.gbx,by decide⟩
 have hFF:∀k,FS gb T sv fv k->k<w.heap.size->FS gb w1.heap.size sv fv' k:=fun k hk hl=>⟨hk.1,by omega,hk.2.2.1,fun e=>(hg k e).elim hk.2.2.2 (by omega)⟩
 have hFn:∀k,FS gb T sv fv k->k<w.heap.size->¬(fv.ownBlock=some k\/k=gb):=fun k hk _ e=>e.elim hk.2.2.2 (fun e=>by have:=hk.1;omega);have hsv:∀k,fv'.ownBlock=some k->gb+1<=k/\k<w1.heap.size:=fun k hk=>h1.lt k hk;refine⟨h.bs.keep hmm (fun k e=>(hS k e).imp id (fun e=>e.imp id .inr)),h.e0.keep hmm (fun e=>by rcases e with e|e;have:=(hfk _ e).1;omega;omega),h.enc.mod hmm (fun e=>by rcases e with e|e;have:=(hfk _ e).1;omega;omega) hB,?_,?_,?_,⟨z1,by omega,hm1.size⟩,⟨fun k hk=>by have:=h.own.1 k hk;omega,fun k hk=>(hsv k hk).2⟩,h.kp_ hmm hS,keepsFrom_mod h.kf hmm (fun k e _=>by obtain⟨t,cs,hb,_⟩:=hB k e;exact⟨t,cs,hb⟩),h.md.into hmm (fun k e=>.inl (hS k e))⟩
 ·have hgb1:=h.gbx.keep hm (fun e=>by have:=(hfk _ e).1;omega);have:=hgb1.set_ 1 fv';simpa using this
 ·exact h.smp.turn hmm (fun k hk e=>by rcases e with e|e;exact hdf k hk e;have:=(hsk k hk).1;omega) (fun x _ c k=>k.turn hmm hFn hFF)
 ·exact ListOwn.push (own_mod h1 hm1 (fun k hk e=>by have:=(hsv k hk).1;omega)) (hc.mono (fun x _ c k=>k.turn hmm hFn hFF)) (hb.turn hmm hFn hFF) hl9
end
structure MkI(w0:World)(p:MkP)(fsP:List Pix)(q0 i:Nat)(W:World):Prop where
 st:∃v,MkBs w0.heap.size p v W.heap.size ((List.range i).map (segOf p.d p.G p.tg q0 fsP)) W
 e0:Blk W p.eb 26 #[.int .i64 0]
 enc:EncAt W p.g p.d p.G (encSt p.d p.G p.tg q0 fsP (min (i*p.G) fsP.length)).1 p.tg 0 (encSt p.d p.G p.tg q0 fsP (min (i*p.G) fsP.length)).2
 cbk:∃x,Blk W p.cb 52 #[x]
 old:Mod (fun _=>False) w0 W
section
variable {w0 W W' : World} {p : MkP} {fsP : List Pix} {q0 i : Nat}
theorem MkI.quiet(h:MkI w0 p fsP q0 i W)(hm:Mod (fun _=>False) W W'):MkI w0 p fsP q0 i W':=by
 obtain⟨⟨v,hv⟩,h1,h2,⟨x,hx⟩,h3⟩:=h;exact⟨⟨v,(hv.keep hm (fun _ h=>h.elim)).raise hm.size (Nat.le_refl _)⟩,h1.keep hm (fun h=>h),h2.quiet hm,⟨x,hx.keep hm (fun h=>h)⟩,h3.trans hm⟩
theorem MkI.turn{B:Nat}(hB:w0.heap.size<=B):OwnFrom B (fun(pre:List Nat) W=>MkI w0 p fsP q0 pre.length W):=by
 intro pre W W' row h hg hr;have hs:=SameC.of_grown hg (fun r e=>(hr r e).2);obtain⟨⟨v,hv⟩,h1,h2,⟨x,hx⟩,h3⟩:=h;exact⟨⟨v,(hv.sc hs).raise hs.size (Nat.le_refl _)⟩,h1.sc hs,h2.sc hs,⟨x,hx.sc hs⟩,h3.grown hg (fun k hk=>.inr (Nat.le_trans hB (hr k hk).1))⟩
theorem MkI.state(h:MkI w0 p fsP q0 i W)(u:Value):MkI w0 p fsP q0 i (W.setCell ⟨p.cb,0,none⟩ u):=by
 obtain⟨⟨v,hv⟩,h1,h2,⟨x,hx⟩,h3⟩:=h;obtain⟨e1,e2,e3,e4,e5,e6,e7,e8⟩:=hv.ok.e_;obtain⟨f1,f2,f3,f4,f5,f6,f7⟩:=hv.ok.g_;have hm:Mod (·=p.cb) W (W.setCell ⟨p.cb,0,none⟩ u):=(Mod.refl (·=p.cb) W).setCell (p:=⟨p.cb,0,none⟩) (.inl rfl) _;have low:=hv.ok.low;exact⟨⟨v,(hv.keep hm (fun k e=>.inr (.inr (.inl e)))).raise hm.size (Nat.le_refl _)⟩,h1.keep hm (Ne.symm e7),h2.mod hm (Ne.symm f6) (fun j e=>⟨52,#[x],by rw [show j=p.cb from e];exact hx,by decide⟩),⟨u,hx.put rfl⟩,h3.into hm (fun k e=>.inr (by omega))⟩
theorem MkI.start(h:MkI w0 p fsP q0 i W):∃v,MkIn w0.heap.size W p v W.heap.size ((List.range i).map (segOf p.d p.G p.tg q0 fsP)) W.heap.size (W.heap.size+1) (.slice none 0 0) (.slice none 0 0) [] []
  (encSt p.d p.G p.tg q0 fsP (min (i*p.G) fsP.length)).1 0 (encSt p.d p.G p.tg q0 fsP (min (i*p.G) fsP.length)).2 (W.alloc (.cells #[.slice none 0 0,.slice none 0 0] 80)):=by
 obtain⟨⟨v,hv⟩,h1,h2,⟨x,hx⟩,h3⟩:=h;have hm:Mod (fun _=>False) W (W.alloc (.cells #[.slice none 0 0,.slice none 0 0] 80)):=(Mod.refl _ W).alloc _;obtain⟨g1,g2,g3,g4,g5,g6,g7,g8,g9⟩:=hv.ok.high;have lz:=hv.lz
 refine⟨v,hv.keep hm (fun _ h=>h.elim),h1.keep hm (fun h=>h),h2.quiet hm,Blk.new _ _ _,.nil _ _,.nil _ _,⟨Nat.le_refl _,by omega,by simp⟩,⟨fun k hk=>by simp [Value.ownBlock]at hk,fun k hk=>by simp [Value.ownBlock]at hk⟩,⟨hm.block _ (by omega) (fun h=>h),hm.block _ (by omega) (fun h=>h)⟩,
  keepsFrom_mod (KeepsFrom.refl _ _) hm (fun _ h=>h.elim),hm.mono (fun _ h=>h.elim)⟩
end
section
variable {w0 W : World} {p : MkP} {v : Value} {Z : Nat} {done : List (List (List UInt8 × Pix))} {gb T : Nat} {sv fv : Value} {ss : List (List UInt8)} {ff : List Pix} {q nu : Nat} {ahd : Pix} {w w' : World}
theorem MkIn.old(h:MkIn w0.heap.size W p v Z done gb T sv fv ss ff q nu ahd w)(ho:Mod (fun _=>False) w0 W):Mod (fun _=>False) w0 w:=by
 have low:=h.bs.ok.low;have lz:=h.bs.lz;have hi:=h.bs.ok.high;exact ho.into h.md (fun k e=>.inr (by rcases e with e|e|e<;>omega))
theorem MkIn.seg_{fsP:List Pix}{q0 i:Nat}{v':Value}{w1:World}{xs:List Value}(h:MkIn w0.heap.size W p v Z ((List.range i).map (segOf p.d p.G p.tg q0 fsP)) gb T sv fv ((segOf p.d p.G p.tg q0 fsP i).map Prod.fst) ((segOf p.d p.G p.tg q0 fsP i).map Prod.snd) q 0 ahd w)(ho:Mod (fun _=>False) w0 W)(hcb:∃x,Blk W p.cb 52 #[x])
  (hq:q=(encSt p.d p.G p.tg q0 fsP (min ((i+1)*p.G) fsP.length)).1)(ha:ahd=(encSt p.d p.G p.tg q0 fsP (min ((i+1)*p.G) fsP.length)).2)
  (hc:CellsOf 2 (SegR w (FF p.L Z v) p.d) ((List.range i).map (segOf p.d p.G p.tg q0 fsP)) xs)
  (h1:w1.ownsRow p.L 80 2 v' (((List.range i).map (segOf p.d p.G p.tg q0 fsP)).length+1) (xs++[sv,fv]))(hm:Mod (fun j=>v.ownBlock=some j) w w1)(hg:∀k,v'.ownBlock=some k->v.ownBlock=some k\/w.heap.size<=k):
  MkI w0 p fsP q0 (i+1) (w1.setCell ⟨p.mb,7,none⟩ v')/\KeepsFrom p.L W (w1.setCell ⟨p.mb,7,none⟩ v')/\Keep2 p.cb p.gpb W (w1.setCell ⟨p.mb,7,none⟩ v'):=by
 obtain⟨g1,g2,g3,g4,g5,g6,g7,g8,g9⟩:=h.bs.ok.high;obtain⟨e1,e2,e3,e4,e5,e6,e7,e8⟩:=h.bs.ok.e_;obtain⟨f1,f2,f3,f4,f5,f6,f7⟩:=h.bs.ok.g_;obtain⟨m1,m2,m3,m4,m5,m6⟩:=h.bs.ok.m_;obtain⟨z1,z2,z3⟩:=h.zt;have lz:=h.bs.lz;have low:=h.bs.ok.low;have hsz:=hm.size;have hvz:=h.bs.vz;have hm1:Mod (·=p.mb) w1 (w1.setCell ⟨p.mb,7,none⟩ v'):=(Mod.refl (·=p.mb) w1).setCell (p:=⟨p.mb,7,none⟩) (.inl rfl) _;have hmm:Mod (fun k=>v.ownBlock=some k\/k=p.mb) w (w1.setCell ⟨p.mb,7,none⟩ v'):=(hm.mono (fun _=>.inl)).into hm1 (fun k e=>.inl (.inr e))
 have hB:∀k,(v.ownBlock=some k\/k=p.mb)->∃t cs,Blk w k t cs/\t≠5:=fun k e=>by
  rcases e with e|e
  ·obtain⟨_,cs,hb⟩:=h.bs.segs.blk e;exact⟨_,cs,hb,by decide⟩
  ·exact⟨_,_,by rw [e];exact h.bs.mbk,by decide⟩
 have nS:∀x,x<p.L->x≠p.mb->¬(v.ownBlock=some x\/x=p.mb):=fun x h1 h2 e=>e.elim (fun e=>by have:=(hvz x e).1;omega) h2;have hv':∀k,v'.ownBlock=some k->p.L<=k/\k<w1.heap.size:=fun k hk=>h1.lt k hk;have hFF:∀k,FF p.L Z v k->k<w.heap.size->FF p.L w1.heap.size v' k:=fun k hk hl=>⟨hk.1,by omega,fun e=>(hg k e).elim hk.2.2 (by omega)⟩
 have hFn:∀k,FF p.L Z v k->k<w.heap.size->¬(v.ownBlock=some k\/k=p.mb):=fun k hk _ e=>e.elim hk.2.2 (fun e=>by have:=hk.1;omega);have hGF:∀k,FS gb T sv fv k->k<w.heap.size->FF p.L w1.heap.size v' k:=fun k hk hl=>⟨by have:=hk.1;omega,by omega,fun e=>(hg k e).elim (fun e=>by have:=(hvz k e).2;have:=hk.1;omega) (by omega)⟩
 have hGn:∀k,FS gb T sv fv k->k<w.heap.size->¬(v.ownBlock=some k\/k=p.mb):=fun k hk _ e=>e.elim (fun e=>by have:=(hvz k e).2;have:=hk.1;omega) (fun e=>by have:=hk.1;omega);have hseg:SegR (w1.setCell ⟨p.mb,7,none⟩ v') (FF p.L w1.heap.size v') p.d (segOf p.d p.G p.tg q0 fsP i) [sv,fv]:=by
  refine⟨sv,fv,rfl,?_,?_⟩
  ·have:=h.smp.in_ (F:=fun k=>sv.ownBlock=some k) (fun k hk=>hk)
   exact this.turn hmm (fun k hk hl e=>by
    have h1:=(h.smp.lt k hk).1;rcases e with e|e
    ·have:=(hvz k e).2;omega
    ·omega) (fun k hk hl=>⟨by have:=(h.smp.lt k hk).1;omega,by omega,fun e=>(hg k e).elim (fun e=>by have:=(hvz k e).2;have:=(h.smp.lt k hk).1;omega) (by omega)⟩) (fun _ _ _ k=>k.turn hmm hGn hGF)
  ·have:=h.frs.in_ (F:=fun k=>fv.ownBlock=some k) (fun k hk=>hk)
   exact this.turn hmm (fun k hk hl e=>by
    have h1:=(h.frs.lt k hk).1;rcases e with e|e
    ·have:=(hvz k e).2;omega
    ·omega) (fun k hk hl=>⟨by have:=(h.frs.lt k hk).1;omega,by omega,fun e=>(hg k e).elim (fun e=>by have:=(hvz k e).2;have:=(h.frs.lt k hk).1;omega) (by omega)⟩) (fun _ _ _ k=>k.turn hmm hGn hGF)
 have hkk:Keep2 p.cb p.gpb w (w1.setCell ⟨p.mb,7,none⟩ v'):=⟨hmm.block _ (by omega) (nS _ g8 m5),hmm.block _ (by omega) (nS _ g9 m6)⟩
 refine⟨⟨⟨v',?_⟩,h.e0.keep hmm (nS _ g5 (Ne.symm e5)),?_,?_,(h.old ho).into hmm (fun k e=>.inr (e.elim (fun e=>by have:=(hvz k e).1;omega) (fun e=>by omega)))⟩,keepsFrom_mod h.kf hmm (fun k e _=>by obtain⟨t,cs,hb,_⟩:=hB k e;exact⟨t,cs,hb⟩),h.kp.trans hkk⟩
 ·have hz2:=hm1.size;have hmb:=(h.bs.mbk.keep hm (fun e=>by have:=(hvz _ e).1;omega)).set_ 7 v';refine⟨h.bs.rg.keep hmm (nS _ g1 m1),h.bs.res.keep hmm (nS _ g2 m2),h.bs.er.keep hmm (nS _ g3 m3),h.bs.xp.keep hmm (nS _ g4 m4),?_,?_,fun k hk=>⟨(hv' k hk).1,by have:=(hv' k hk).2;omega⟩,h.bs.ok,⟨by omega,Nat.le_refl _⟩⟩
  ·simpa [made8,Rg.cells]using hmb
  ·have hrow:ListOwn (w1.setCell ⟨p.mb,7,none⟩ v') p.L 80 2 (SegR (w1.setCell ⟨p.mb,7,none⟩ v') (FF p.L w1.heap.size v') p.d) v' ((List.range i).map (segOf p.d p.G p.tg q0 fsP)++[segOf p.d p.G p.tg q0 fsP i]):=
    ListOwn.push (own_mod h1 hm1 (fun k hk e=>by have:=(hv' k hk).1;omega)) (hc.mono (fun _ _ _ k=>k.turn hmm hFn hFF)) hseg rfl
   rw [List.range_succ,List.map_append];refine hrow.turn (Mod.refl (fun _=>False) _) (fun _ _ h=>h) (fun _ _ _ k=>k.turn (Mod.refl (fun _=>False) _) (fun _ _ _ h=>h) (fun k hk hl=>⟨hk.1,hl,hk.2.2⟩))
 ·rw [<-hq,<-ha];exact h.enc.mod hmm (nS _ g7 (Ne.symm f5)) hB
 ·obtain⟨x,hx⟩:=hcb;exact⟨x,(hkk.1.trans h.kp.1).trans hx⟩
end
end Go.Proofs.YtnnpoodcdibpiaaGreatDoor
