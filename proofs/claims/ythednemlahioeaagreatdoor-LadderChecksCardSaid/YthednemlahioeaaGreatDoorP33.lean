/-
  ladder.makeOne: its loops' relations, and what its calls do there.
-/
import Derived.Test.YthednemlahioeaaGreatDoorP31
import Derived.Test.YthednemlahioeaaGreatDoorP32
import Derived.Test.YthednemlahioeaaGreatDoorP29
import Derived.Test.YthednemlahioeaaGreatDoorP30
import Derived.Maps.OwnIn
namespace Go.Proofs.YthednemlahioeaaGreatDoor
open Go.RowKit
set_option maxRecDepth 100000
set_option maxHeartbeats 8000000
def outsN (d:Dim) (G tg q:Nat) (fs:List Pix) (i j:Nat):List (List UInt8 × Pix):=(List.range j).map fun t=>outSt d G tg q fs (i * G + t)
theorem outsN_succ (d:Dim) (G tg q:Nat) (fs:List Pix) (i j:Nat):outsN d G tg q fs i (j + 1) = outsN d G tg q fs i j ++ [outSt d G tg q fs (i * G + j)]:=by
 unfold outsN
 rw [List.range_succ,List.map_append]
 rfl
def OneRel (B:Nat) (W:World) (p:MkP) (v:Value) (Z:Nat) (done:List (List (List UInt8 × Pix))) (gb:Nat) (fsP:List Pix) (q0 i:Nat) (v55:Value) (wr:World):Prop:=
 ∃ (j T:Nat) (sv fv:Value),j ≤ segLen p.G fsP.length i ∧ v55 = .int .i64 (j:Int) ∧
  MkIn B W p v Z done gb T sv fv ((outsN p.d p.G p.tg q0 fsP i j).map Prod.fst) ((outsN p.d p.G p.tg q0 fsP i j).map Prod.snd) (encSt p.d p.G p.tg q0 fsP (i * p.G + j)).1 (j % p.G) (encSt p.d p.G p.tg q0 fsP (i * p.G + j)).2 wr
structure FxAt (w:World) (fb eb:Nat) (d:Dim) (P:Pix) (fx:FrX):Prop where
 blk:Blk w fb 58 fx.cells.toArray
 in_:fx.In w
 good:fx.goodB d = true
 pix:fx.pix = P
 off:∀ ad,(fx.A0 = some ad ∨ fx.A1 = some ad ∨ fx.A2 = some ad) → ad.block ≠ fb ∧ ad.block ≠ eb
theorem FrX.In.mod {f:FrX} {w w':World} {S:Nat → Prop} (h:f.In w) (hm:Mod S w w') (hS:∀ ad,(f.A0 = some ad ∨ f.A1 = some ad ∨ f.A2 = some ad) → ¬ S ad.block):f.In w':=
 ⟨h.b0.mod hm (fun _ ad e=>hS ad (.inl e)),h.b1.mod hm (fun _ ad e=>hS ad (.inr (.inl e))),h.b2.mod hm (fun _ ad e=>hS ad (.inr (.inr e))),h.k0,h.k1,h.k2,h.m0,h.m1,h.m2⟩
theorem FrX.In.quiet' {f:FrX} {w w':World} (h:f.In w) (hm:Mod (fun _=>False) w w'):f.In w':=h.mod hm (fun _ _ h=>h)
def DownRel (B:Nat) (W:World) (p:MkP) (v:Value) (Z:Nat) (done:List (List (List UInt8 × Pix))) (gb T:Nat) (sv fv:Value) (ss:List (List UInt8)) (ff:List Pix) (q nu:Nat) (ahd:Pix) (fb dn:Nat) (d0:Dim) (P:Pix) (v61:Value) (wq:World):Prop:=
 ∃ (m:Nat) (fx:FrX),m ≤ dn ∧ v61 = .int .i64 (m:Int) ∧ FxAt wq fb p.eb (d0.downs m) (downsPix d0 P m) fx ∧ MkIn B W p v Z done gb T sv fv ss ff q nu ahd wq
theorem goodB_of {d:Dim} (hd:d.Ok) (g0 g1 g2:Nat) (P:Pix):(FrX.mk (d.W:Int) (d.H:Int) (some ⟨g0,0,none⟩) d.nY d.nY (d.W2:Int) (d.H2:Int) (some ⟨g1,0,none⟩) d.nC d.nC (d.W2:Int) (d.H2:Int) (some ⟨g2,0,none⟩) d.nC d.nC P.Y P.U P.V).goodB d = true:=by
 have hs:=hd.sides
 have hh:=hd.half
 have a1:=hd.w2
 have a2:=hd.h2
 have b1:=hd.w16
 have b2:=hd.h16
 have c1:((d.nY:Nat):Int) = (d.W:Int) * (d.H:Int):=by rw [hd.ny,Int.natCast_mul]
 have c2:((d.nC:Nat):Int) = (d.W2:Int) * (d.H2:Int):=by rw [hd.nc,Int.natCast_mul]
 obtain ⟨x1,x2,x3,x4,x5,x6⟩:=area_le hs
 obtain ⟨y1,y2,y3,y4,y5,y6⟩:=area_le hh
 have s0:sidesI (d.W:Int) (d.H:Int) = true:=by unfold sidesI;simp;omega
 have s1:sidesI (d.W2:Int) (d.H2:Int) = true:=by unfold sidesI;simp;omega
 have r0:rightI (d.W:Int) (d.H:Int) d.nY = true:=by unfold rightI;rw [s0,decide_eq_true c1];rfl
 have r1:rightI (d.W2:Int) (d.H2:Int) d.nC = true:=by unfold rightI;rw [s1,decide_eq_true c2];rfl
 unfold FrX.goodB wholeI
 dsimp only
 rw [decide_eq_true (p:=(d.W:Int) = (d.W:Int)) rfl,decide_eq_true (p:=(d.H:Int) = (d.H:Int)) rfl,Bool.and_true,Bool.and_true]
 exact decide_eq_true ⟨r0,r1,r1,by omega,by omega,by omega,by omega,by omega,by omega⟩
theorem Dim.Ok.whole1 {d:Dim} (hd:d.Ok):wholeI d.W d.H d.nY d.W2 d.H2 d.nC d.W2 d.H2 d.nC = true:=by
 have h1:=goodB_of hd 0 0 0 noPix
 unfold FrX.goodB at h1
 rw [Bool.and_eq_true] at h1
 exact h1.1
theorem pDownX (w:World) (d:Dim) (hd:d.Ok) (hdd:d.down.Ok) (hW:d.W % 32 = 0) (hH:d.H % 32 = 0) (fx:FrX) (hg:fx.goodB d = true) (hin:fx.In w) :
  Calls Tryz.prog 20 #[.agg fx.cells.toArray] w fun e w'=>∃ fy:FrX,e = .returned (.tuple #[.agg fy.cells.toArray,.int .i64 0]) ∧ fy.In w' ∧ fy.goodB d.down = true ∧ fy.pix = downPix d fx.pix ∧ (∀ ad,(fy.A0 = some ad ∨ fy.A1 = some ad ∨ fy.A2 = some ad) → w.heap.size ≤ ad.block) ∧ Mod (fun _=>False) w w':=by
 have hw:=hd.whole1
 obtain ⟨hcl,h0,h1,h2⟩:=FrX.good hd hg
 have i0:=hin.b0
 have i1:=hin.b1
 have i2:=hin.b2
 rw [h0] at i0
 rw [h1] at i1
 rw [h2] at i2
 rw [hcl]
 refine (pDown w d hd hW hH fx.A0 fx.A1 fx.A2 fx.c0 fx.c1 fx.c2 fx.pix i0 i1 i2 hw).mono ?_
 rintro e w' ⟨p,rfl,⟨g0,g1,g2,rfl,hf,l0,l1,l2⟩,hm⟩
 refine ⟨FrX.mk (d.down.W:Int) (d.down.H:Int) (some ⟨g0,0,none⟩) d.down.nY d.down.nY (d.down.W2:Int) (d.down.H2:Int) (some ⟨g1,0,none⟩) d.down.nC d.down.nC (d.down.W2:Int) (d.down.H2:Int) (some ⟨g2,0,none⟩) d.down.nC d.down.nC (downPix d fx.pix).Y (downPix d fx.pix).U (downPix d fx.pix).V,rfl,
  ⟨blkIn hf.by_ hf.ly hdd.nyle,blkIn hf.bu hf.lu hdd.ncle,blkIn hf.bv hf.lv hdd.ncle,Nat.le_refl _,Nat.le_refl _,Nat.le_refl _,?_,?_,?_⟩,goodB_of hdd g0 g1 g2 _,rfl,?_,hm⟩
 ·show d.down.nY ≤ _
  have:=hdd.nyle
  omega
 ·show d.down.nC ≤ _
  have:=hdd.ncle
  omega
 ·show d.down.nC ≤ _
  have:=hdd.ncle
  omega
 ·rintro ad (e | e | e) <;> (injection e with e;subst e;assumption)
def FramePost15 (w:World) (g:Nat) (d:Dim) (G q tg nu:Nat) (r:List UInt8 × Pix) (e:Ending) (w':World):Prop:=
 ∃ A c g0 g1 g2,e = .returned (.tuple #[.slice A r.1.length c,.agg (frameV d g0 g1 g2).toArray,.int .i64 0]) ∧ Bytes w' w.heap.size (.slice A r.1.length c) r.1 ∧ FrameAt w' d g0 g1 g2 r.2 ∧ (w.heap.size ≤ g0 ∧ w.heap.size ≤ g1 ∧ w.heap.size ≤ g2) ∧
   EncAt w' g d G (newQ q tg G r.1.length) tg (newN nu G) r.2 ∧ Mod (· = g) w w'
theorem encFrameGood {w:World} {g:Nat} {d:Dim} {G q tg nu:Nat} {ahd:Pix} (h:EncAt w g d G q tg nu ahd) (he:EnvP w) (hd:d.Ok) (hW:d.W ≤ 64) (hH:d.H ≤ 64) (hG:1 ≤ G ∧ G ≤ 64) (hq:q ≤ 31) (ht:tg ≤ 1048576) (hnu:nu < G) (f:FrX) (hf:f.In w) (hg:f.goodB d = true) {r:List UInt8 × Pix} (hr:eframe d f.pix ahd nu q = r) :
  Calls Tryz.prog 97 #[.pointer (some ⟨g,0,none⟩),.agg f.cells.toArray] w (FramePost15 w g d G q tg nu r):=by
 refine (encFrameAt h he hd hW hH hG hq ht hnu f hf).mono ?_
 rintro e w' (⟨h1,_⟩ | ⟨_,v,p,rfl,hB,⟨g0,g1,g2,rfl,hfp,l0,l1,l2⟩,hE,hm⟩)
 ·exact absurd (h1.symm.trans hg) (by decide)
 ·rw [hr] at hB hfp hE
  obtain ⟨A,c,rfl⟩:=own_shape hB
  exact ⟨A,c,g0,g1,g2,rfl,hB,hfp,⟨l0,l1,l2⟩,hE,hm⟩
theorem FrX.low {f:FrX} {d:Dim} {w:World} (hd:d.Ok) (hg:f.goodB d = true) (h:f.In w):∀ ad,(f.A0 = some ad ∨ f.A1 = some ad ∨ f.A2 = some ad) → ad.block < w.heap.size:=by
 obtain ⟨_,h0,h1,h2⟩:=FrX.good hd hg
 obtain ⟨_,a1,_,a3,_,a5⟩:=area_le hd.sides
 obtain ⟨_,b1,_,b3,_,b5⟩:=area_le hd.half
 rintro ad (e | e | e)
 ·exact h.b0.2.2.2 (by rw [h0,hd.ny];exact Nat.mul_pos a1 a3) ad e
 ·exact h.b1.2.2.2 (by rw [h1,hd.nc];exact Nat.mul_pos b1 b3) ad e
 ·exact h.b2.2.2.2 (by rw [h2,hd.nc];exact Nat.mul_pos b1 b3) ad e
section
variable {B : Nat} {W : World} {p : MkP} {v : Value} {Z : Nat} {done : List (List (List UInt8 × Pix))} {gb T : Nat} {sv fv : Value} {ss : List (List UInt8)} {ff : List Pix} {q nu : Nat} {ahd : Pix} {w w' : World}
theorem MkIn.ne_ (h:MkIn B W p v Z done gb T sv fv ss ff q nu ahd w) {x:Nat} (hx:T ≤ x):x ≠ p.eb ∧ x ≠ p.g:=by
 obtain ⟨g1,g2,g3,g4,g5,g6,g7,g8,g9⟩:=h.bs.ok.high
 have:=h.zt
 have:=h.bs.lz
 omega
theorem down_step {fb:Nat} {d:Dim} {P:Pix} {fy:FrX} {x0 x1 x2 x3 x4 x5 x6 x7 x8:Value} (h:MkIn B W p v Z done gb T sv fv ss ff q nu ahd w) (hT:T ≤ fb) (hb:Blk w fb 58 #[x0,x1,x2,x3,x4,x5,x6,x7,x8]) (hin:fy.In w) (hg:fy.goodB d = true) (hP:fy.pix = P)
  (ho:∀ ad,(fy.A0 = some ad ∨ fy.A1 = some ad ∨ fy.A2 = some ad) → fb < ad.block) :
  FxAt ((((((((((w.setCell ⟨fb,0,none⟩ (.int .i64 fy.W0)).setCell ⟨fb,1,none⟩ (.int .i64 fy.H0)).setCell ⟨fb,2,none⟩ (.slice fy.A0 fy.n0 fy.c0)).setCell ⟨fb,3,none⟩ (.int .i64 fy.W1)).setCell ⟨fb,4,none⟩ (.int .i64 fy.H1)).setCell ⟨fb,5,none⟩ (.slice fy.A1 fy.n1 fy.c1)).setCell ⟨fb,6,none⟩ (.int .i64 fy.W2)).setCell ⟨fb,7,none⟩ (.int .i64 fy.H2)).setCell ⟨fb,8,none⟩ (.slice fy.A2 fy.n2 fy.c2)).setCell ⟨p.eb,0,none⟩ (.int .i64 0)) fb p.eb d P fy ∧
  MkIn B W p v Z done gb T sv fv ss ff q nu ahd ((((((((((w.setCell ⟨fb,0,none⟩ (.int .i64 fy.W0)).setCell ⟨fb,1,none⟩ (.int .i64 fy.H0)).setCell ⟨fb,2,none⟩ (.slice fy.A0 fy.n0 fy.c0)).setCell ⟨fb,3,none⟩ (.int .i64 fy.W1)).setCell ⟨fb,4,none⟩ (.int .i64 fy.H1)).setCell ⟨fb,5,none⟩ (.slice fy.A1 fy.n1 fy.c1)).setCell ⟨fb,6,none⟩ (.int .i64 fy.W2)).setCell ⟨fb,7,none⟩ (.int .i64 fy.H2)).setCell ⟨fb,8,none⟩ (.slice fy.A2 fy.n2 fy.c2)).setCell ⟨p.eb,0,none⟩ (.int .i64 0)):=by
 obtain ⟨b9,m9⟩:=fr_lay9 hb (.int .i64 fy.W0) (.int .i64 fy.H0) (.slice fy.A0 fy.n0 fy.c0) (.int .i64 fy.W1) (.int .i64 fy.H1) (.slice fy.A1 fy.n1 fy.c1) (.int .i64 fy.W2) (.int .i64 fy.H2) (.slice fy.A2 fy.n2 fy.c2)
 have hne:=h.ne_ hT
 have h9:=h.one m9 hb (by decide) hT
 generalize (((((((((w.setCell ⟨fb,0,none⟩ (.int .i64 fy.W0)).setCell ⟨fb,1,none⟩ (.int .i64 fy.H0)).setCell ⟨fb,2,none⟩ (.slice fy.A0 fy.n0 fy.c0)).setCell ⟨fb,3,none⟩ (.int .i64 fy.W1)).setCell ⟨fb,4,none⟩ (.int .i64 fy.H1)).setCell ⟨fb,5,none⟩ (.slice fy.A1 fy.n1 fy.c1)).setCell ⟨fb,6,none⟩ (.int .i64 fy.W2)).setCell ⟨fb,7,none⟩ (.int .i64 fy.H2)).setCell ⟨fb,8,none⟩ (.slice fy.A2 fy.n2 fy.c2)) = w9 at b9 m9 h9 ⊢
 have hm:Mod (· = p.eb) w9 (w9.setCell ⟨p.eb,0,none⟩ (.int .i64 0)):=(Mod.refl (· = p.eb) w9).setCell (p:=⟨p.eb,0,none⟩) (.inl rfl) _
 have hlt:p.eb < T:=by
  obtain ⟨g1,g2,g3,g4,g5,g6,g7,g8,g9⟩:=h.bs.ok.high
  have:=h.zt
  have:=h.bs.lz
  omega
 exact ⟨⟨b9.keep hm hne.1,(hin.mod m9 (fun ad e e2=>by have:=ho ad e;have e3:ad.block = fb:=e2;omega)).mod hm (fun ad e e2=>by have:=ho ad e;have e3:ad.block = p.eb:=e2;omega),hg,hP,fun ad e=>by have:=ho ad e;omega⟩,h9.err hm (h9.e0.put rfl)⟩
end
theorem newN_mod {j G:Nat} (hG:1 ≤ G):newN (j % G) G = (j + 1) % G:=by
 unfold newN
 have h:=Nat.mod_lt j (show G > 0 by omega)
 have h1:(j + 1) % G = (j % G + 1) % G:=by rw [Nat.add_mod,Nat.mod_add_mod];simp [Nat.add_mod]
 rw [h1]
 split
 ·rename_i h2
  exact (Nat.mod_eq_of_lt h2).symm
 ·rw [show j % G + 1 = G by omega,Nat.mod_self]
theorem MkIn.coded {B:Nat} {W:World} {p:MkP} {v:Value} {Z:Nat} {done:List (List (List UInt8 × Pix))} {gb T:Nat} {sv fv:Value} {ss:List (List UInt8)} {ff:List Pix} {q0 k j:Nat} {fsP:List Pix} {w w':World} (h:MkIn B W p v Z done gb T sv fv ss ff (encSt p.d p.G p.tg q0 fsP k).1 (j % p.G) (encSt p.d p.G p.tg q0 fsP k).2 w) (hG:1 ≤ p.G)
  (hm:Mod (· = p.g) w w') (he:EncAt w' p.g p.d p.G (newQ (encSt p.d p.G p.tg q0 fsP k).1 p.tg p.G (outSt p.d p.G p.tg q0 fsP k).1.length) p.tg (newN (j % p.G) p.G) (outSt p.d p.G p.tg q0 fsP k).2) :
  MkIn B W p v Z done gb w'.heap.size sv fv ss ff (encSt p.d p.G p.tg q0 fsP (k + 1)).1 ((j + 1) % p.G) (encSt p.d p.G p.tg q0 fsP (k + 1)).2 w':=by
 rw [newN_mod hG] at he
 exact (h.code hm he).raise
theorem map_getD {fs:List FrX} {k:Nat} {g:FrX → Pix} (hk:k < fs.length):(fs.map g).getD k noPix = g (fs.getD k FrX.zero):=by
 rw [List.getD_eq_getElem?_getD,List.getD_eq_getElem?_getD,List.getElem?_map,List.getElem?_eq_getElem hk]
 rfl
theorem bs_info:(Tryz.prog.info? 54).map (fun i=>(i.zero,i.size,i.bytes)) = some (some (.slice none 0 0),1,24):=by kernel_rfl
theorem fr_info:(Tryz.prog.info? 58).map (fun i=>(i.zero,i.size,i.bytes)) = some (some (.agg #[.int .i64 0,.int .i64 0,.slice none 0 0,.int .i64 0,.int .i64 0,.slice none 0 0,.int .i64 0,.int .i64 0,.slice none 0 0]),9,120):=by kernel_rfl
theorem sg_info:(Tryz.prog.info? 49).map (fun i=>(i.zero,i.size,i.bytes)) = some (some (.agg #[.slice none 0 0,.slice none 0 0]),2,48):=by kernel_rfl
theorem made_lay {w:World} {rb eb:Nat} (h:Blk w rb 43 noMade) (he:Blk w eb 26 #[.int .i64 0]) (hne:rb ≠ eb) (a0 a1 a2 a3 a4 a5 a6 a7:Value) :
  Blk (((((((((w.setCell ⟨rb,0,none⟩ a0).setCell ⟨rb,1,none⟩ a1).setCell ⟨rb,2,none⟩ a2).setCell ⟨rb,3,none⟩ a3).setCell ⟨rb,4,none⟩ a4).setCell ⟨rb,5,none⟩ a5).setCell ⟨rb,6,none⟩ a6).setCell ⟨rb,7,none⟩ a7).setCell ⟨eb,0,none⟩ (.int .i64 0)) rb 43 #[a0,a1,a2,a3,a4,a5,a6,a7] ∧
  Blk (((((((((w.setCell ⟨rb,0,none⟩ a0).setCell ⟨rb,1,none⟩ a1).setCell ⟨rb,2,none⟩ a2).setCell ⟨rb,3,none⟩ a3).setCell ⟨rb,4,none⟩ a4).setCell ⟨rb,5,none⟩ a5).setCell ⟨rb,6,none⟩ a6).setCell ⟨rb,7,none⟩ a7).setCell ⟨eb,0,none⟩ (.int .i64 0)) eb 26 #[.int .i64 0] ∧
  Mod (fun j=>j = rb ∨ j = eb) w (((((((((w.setCell ⟨rb,0,none⟩ a0).setCell ⟨rb,1,none⟩ a1).setCell ⟨rb,2,none⟩ a2).setCell ⟨rb,3,none⟩ a3).setCell ⟨rb,4,none⟩ a4).setCell ⟨rb,5,none⟩ a5).setCell ⟨rb,6,none⟩ a6).setCell ⟨rb,7,none⟩ a7).setCell ⟨eb,0,none⟩ (.int .i64 0)):=by
 have z:=(((((((h.set_ 0 a0).set_ 1 a1).set_ 2 a2).set_ 3 a3).set_ 4 a4).set_ 5 a5).set_ 6 a6).set_ 7 a7
 unfold noMade at z
 have m8:Mod (fun j=>j = rb ∨ j = eb) w ((((((((w.setCell ⟨rb,0,none⟩ a0).setCell ⟨rb,1,none⟩ a1).setCell ⟨rb,2,none⟩ a2).setCell ⟨rb,3,none⟩ a3).setCell ⟨rb,4,none⟩ a4).setCell ⟨rb,5,none⟩ a5).setCell ⟨rb,6,none⟩ a6).setCell ⟨rb,7,none⟩ a7):=
  ((((((((Mod.refl (fun j=>j = rb ∨ j = eb) w).setCell (.inl (.inl rfl)) a0).setCell (.inl (.inl rfl)) a1).setCell (.inl (.inl rfl)) a2).setCell (.inl (.inl rfl)) a3).setCell (.inl (.inl rfl)) a4).setCell (.inl (.inl rfl)) a5).setCell (.inl (.inl rfl)) a6).setCell (.inl (.inl rfl)) a7
 have e8:Blk ((((((((w.setCell ⟨rb,0,none⟩ a0).setCell ⟨rb,1,none⟩ a1).setCell ⟨rb,2,none⟩ a2).setCell ⟨rb,3,none⟩ a3).setCell ⟨rb,4,none⟩ a4).setCell ⟨rb,5,none⟩ a5).setCell ⟨rb,6,none⟩ a6).setCell ⟨rb,7,none⟩ a7) eb 26 #[.int .i64 0]:=
  (((((((he.far (Ne.symm hne) a0).far (Ne.symm hne) a1).far (Ne.symm hne) a2).far (Ne.symm hne) a3).far (Ne.symm hne) a4).far (Ne.symm hne) a5).far (Ne.symm hne) a6).far (Ne.symm hne) a7
 generalize ((((((((w.setCell ⟨rb,0,none⟩ a0).setCell ⟨rb,1,none⟩ a1).setCell ⟨rb,2,none⟩ a2).setCell ⟨rb,3,none⟩ a3).setCell ⟨rb,4,none⟩ a4).setCell ⟨rb,5,none⟩ a5).setCell ⟨rb,6,none⟩ a6).setCell ⟨rb,7,none⟩ a7) = w8 at z m8 e8 ⊢
 refine ⟨Blk.far (p:=⟨eb,0,none⟩) ?_ hne _,e8.put rfl,m8.setCell (p:=⟨eb,0,none⟩) (.inl (.inr rfl)) _⟩
 simpa using z
def makeB (fs:List FrX) (G:Int) (rs:List Rg):Bool:=clipB fs && ladderB (fs.getD 0 FrX.zero).W0 (fs.getD 0 FrX.zero).H0 G rs
def dim0 (fs:List FrX):Dim:=mkDim (fs.getD 0 FrX.zero).W0 (fs.getD 0 FrX.zero).H0
def madeX (fs:List FrX) (G:Int) (r:Rg):MadeX:=
 ⟨r,G,(dim0 fs).downs r.down.toNat,segsOf ((dim0 fs).downs r.down.toNat) G.toNat r.tg.toNat r.q.toNat (fs.map fun f=>downsPix (dim0 fs) f.pix r.down.toNat)⟩
theorem whole_parts {f:FrX} (h:f.wholeB = true):(1 ≤ f.W0 ∧ f.W0 ≤ 4096 ∧ f.W0 % 16 = 0) ∧ (1 ≤ f.H0 ∧ f.H0 ≤ 4096 ∧ f.H0 % 16 = 0):=by
 unfold FrX.wholeB wholeI at h
 rw [decide_eq_true_eq] at h
 obtain ⟨r0,_,_,e1,e2,_⟩:=h
 unfold rightI sidesI at r0
 simp only [Bool.and_eq_true,decide_eq_true_eq] at r0
 omega
theorem dim_whole {f:FrX} (h:f.wholeB = true):(mkDim f.W0 f.H0).Ok ∧ ((mkDim f.W0 f.H0).W:Int) = f.W0 ∧ ((mkDim f.W0 f.H0).H:Int) = f.H0:=by
 obtain ⟨⟨a1,a2,a3⟩,b1,b2,b3⟩:=whole_parts h
 refine ⟨⟨?_,?_,?_,?_,?_,rfl,rfl⟩,?_,?_⟩
 ·show sidesB f.W0.toNat f.H0.toNat = true
  unfold sidesB
  simp
  omega
 ·show f.W0.toNat % 16 = 0
  omega
 ·show f.H0.toNat % 16 = 0
  omega
 ·show f.W0.toNat = 2 * (f.W0.toNat / 2)
  omega
 ·show f.H0.toNat = 2 * (f.H0.toNat / 2)
  omega
 ·show ((f.W0.toNat:Nat):Int) = f.W0
  omega
 ·show ((f.H0.toNat:Nat):Int) = f.H0
  omega
theorem clip_good {fs:List FrX} (h:clipB fs = true):(dim0 fs).Ok ∧ ((dim0 fs).W:Int) = (fs.getD 0 FrX.zero).W0 ∧ ((dim0 fs).H:Int) = (fs.getD 0 FrX.zero).H0 ∧ (1 ≤ fs.length ∧ fs.length ≤ 1024) ∧ ∀ i,i < fs.length → (fs.getD i FrX.zero).goodB (dim0 fs) = true:=by
 unfold clipB at h
 rw [Bool.and_eq_true,decide_eq_true_eq] at h
 obtain ⟨hl,hc⟩:=h
 have h0:=clipsB_at hc (show 0 < fs.length by omega)
 unfold FrX.likeB at h0
 rw [Bool.and_eq_true] at h0
 obtain ⟨d1,d2,d3⟩:=dim_whole h0.1
 refine ⟨d1,d2,d3,hl,fun i hi=>?_⟩
 have hi2:=clipsB_at hc hi
 unfold FrX.likeB FrX.wholeB at hi2
 simp only [Bool.and_eq_true,decide_eq_true_eq] at hi2
 unfold FrX.goodB
 rw [hi2.1]
 unfold dim0
 rw [d2,d3,decide_eq_true hi2.2.1,decide_eq_true hi2.2.2]
 rfl
theorem downs_ok (d0:Dim) (n:Nat) (h:d0.Ok) (a b:Nat) (ha:d0.W = a * 2 ^ n) (hb:d0.H = b * 2 ^ n) (ha16:a % 16 = 0) (hb16:b % 16 = 0) :
  (∀ m,m ≤ n → (d0.downs m).Ok) ∧ (∀ m,m < n → (d0.downs m).W % 32 = 0 ∧ (d0.downs m).H % 32 = 0):=by
 have h2:d0.W2 = d0.W / 2 ∧ d0.H2 = d0.H / 2:=by have:=h.w2;have:=h.h2;omega
 have key:∀ m,m < n → (d0.downs m).W % 32 = 0 ∧ (d0.downs m).H % 32 = 0:=fun m hm=>by
  obtain ⟨e1,e2,_,_⟩:=Dim.downs_sides d0 m h2
  obtain ⟨k,rfl⟩:∃ k,n = m + (k + 1):=⟨n - m - 1,by omega⟩
  have f1:d0.W / 2 ^ m = a * 2 ^ k * 2:=by
   rw [ha,Nat.pow_add,Nat.pow_succ,← Nat.mul_assoc,Nat.mul_comm a,Nat.mul_assoc,Nat.mul_div_cancel_left _ (Nat.pow_pos (by omega)),← Nat.mul_assoc]
  have f2:d0.H / 2 ^ m = b * 2 ^ k * 2:=by
   rw [hb,Nat.pow_add,Nat.pow_succ,← Nat.mul_assoc,Nat.mul_comm b,Nat.mul_assoc,Nat.mul_div_cancel_left _ (Nat.pow_pos (by omega)),← Nat.mul_assoc]
  have g1:a * 2 ^ k % 16 = 0:=by rw [Nat.mul_mod,ha16];simp
  have g2:b * 2 ^ k % 16 = 0:=by rw [Nat.mul_mod,hb16];simp
  rw [e1,e2,f1,f2]
  omega
 refine ⟨fun m=>?_,key⟩
 induction m with
 | zero=>exact fun _=>h
 | succ m ih=>exact fun hm=>(ih (by omega)).down (key m (by omega)).1 (key m (by omega)).2
theorem rung_parts {fs:List FrX} {G:Int} {r:Rg} (hc:clipB fs = true) (h:rungB (fs.getD 0 FrX.zero).W0 (fs.getD 0 FrX.zero).H0 G r = true) (hW:(fs.getD 0 FrX.zero).W0 ≤ 64) (hH:(fs.getD 0 FrX.zero).H0 ≤ 64) :
  ∃ (dn q tg g:Nat),r.down = (dn:Int) ∧ r.q = (q:Int) ∧ r.tg = (tg:Int) ∧ G = (g:Int) ∧ dn ≤ 3 ∧ q ≤ 31 ∧ tg ≤ 1048576 ∧ (1 ≤ g ∧ g ≤ 64) ∧ (∀ m,m ≤ dn → ((dim0 fs).downs m).Ok) ∧ (∀ m,m < dn → ((dim0 fs).downs m).W % 32 = 0 ∧ ((dim0 fs).downs m).H % 32 = 0) ∧
   seqRight (((dim0 fs).downs dn).W:Int) (((dim0 fs).downs dn).H:Int) (g:Int) = true ∧ ((dim0 fs).downs dn).W ≤ 64 ∧ ((dim0 fs).downs dn).H ≤ 64:=by
 obtain ⟨hd,w0,h0,_,_⟩:=clip_good hc
 obtain ⟨nm,dn,q,tg⟩:=r
 unfold rungB at h
 dsimp only at h
 simp only [Bool.and_eq_true,decide_eq_true_eq] at h
 obtain ⟨_,ha,hs,m1,m2⟩:=h
 unfold rungArgsB at ha
 rw [decide_eq_true_eq] at ha
 dsimp only at ha
 have hsr:=hs
 unfold seqRight at hsr
 rw [decide_eq_true_eq] at hsr
 obtain ⟨n,rfl⟩:∃ n:Nat,dn = (n:Int):=⟨dn.toNat,by omega⟩
 have h2:(dim0 fs).W2 = (dim0 fs).W / 2 ∧ (dim0 fs).H2 = (dim0 fs).H / 2:=by have:=hd.w2;have:=hd.h2;omega
 obtain ⟨e1,e2⟩:=halved_down (dim0 fs) h2 n
 rw [← w0] at hs hsr m1
 rw [← h0] at hs hsr m2
 rw [e1,e2] at hs hsr
 rw [e1] at m1
 rw [e2] at m2
 have m1':(dim0 fs).W = ((dim0 fs).downs n).W * 2 ^ n:=by
  have:(n:Int).toNat = n:=rfl
  rw [this] at m1
  exact_mod_cast m1.symm
 have m2':(dim0 fs).H = ((dim0 fs).downs n).H * 2 ^ n:=by
  have:(n:Int).toNat = n:=rfl
  rw [this] at m2
  exact_mod_cast m2.symm
 obtain ⟨k1,k2⟩:=downs_ok (dim0 fs) n hd ((dim0 fs).downs n).W ((dim0 fs).downs n).H m1' m2' (by omega) (by omega)
 have p1:((dim0 fs).downs n).W * 1 ≤ ((dim0 fs).downs n).W * 2 ^ n:=Nat.mul_le_mul (Nat.le_refl _) (Nat.pow_pos (by omega))
 have p2:((dim0 fs).downs n).H * 1 ≤ ((dim0 fs).downs n).H * 2 ^ n:=Nat.mul_le_mul (Nat.le_refl _) (Nat.pow_pos (by omega))
 refine ⟨n,q.toNat,tg.toNat,G.toNat,rfl,show q = ((q.toNat:Nat):Int) by omega,show tg = ((tg.toNat:Nat):Int) by omega,by omega,by omega,by omega,by omega,by omega,k1,k2,?_,by omega,by omega⟩
 rw [show ((G.toNat:Nat):Int) = G by omega]
 exact hs
theorem ladder_at {W H G:Int} {rs:List Rg} (h:ladderB W H G rs = true) {i:Nat} (hi:i < rs.length):rungB W H G (rs.getD i Rg.zero) = true:=by
 unfold ladderB at h
 rw [Bool.and_eq_true] at h
 have h2:=h.2
 unfold rungsB at h2
 rw [List.all_eq_true] at h2
 have h3:=h2 i (List.mem_range.2 hi)
 rw [Bool.and_eq_true] at h3
 exact h3.1
def FM (B:Nat) (v:Value) (k:Nat):Prop:=B ≤ k ∧ v.ownBlock ≠ some k
theorem make_push {w w':World} {B:Nat} {e:TypeId} {v v':Value} {l:List MadeX} {x:MadeX} {xs cells:List Value} (hc:CellsOf 8 (MadeR w (FM B v)) l xs) (h1:w'.ownsRow B e 8 v' (l.length + 1) (xs ++ cells)) (hm:Mod (fun j=>v.ownBlock = some j) w w')
  (hg:∀ k,v'.ownBlock = some k → v.ownBlock = some k ∨ w.heap.size ≤ k) (hx:MadeR w (FM B v) x cells) (hl:cells.length = 8):ListOwn w' B e 8 (MadeR w' (FM B v')) v' (l ++ [x]):=by
 have hFn:∀ k,FM B v k → k < w.heap.size → ¬ v.ownBlock = some k:=fun k hk _=>hk.2
 have hFF:∀ k,FM B v k → k < w.heap.size → FM B v' k:=fun k hk hl=>⟨hk.1,fun e=>(hg k e).elim hk.2 (by omega)⟩
 exact ListOwn.push h1 (hc.mono (fun _ _ _ k=>k.turn hm hFn hFF)) (hx.turn hm hFn hFF) hl
theorem take_one {rs:List Rg} {i:Nat} (h:i < rs.length) (f:Rg → MadeX):(rs.take (i + 1)).map f = (rs.take i).map f ++ [f (rs.getD i Rg.zero)]:=by
 rw [List.take_add_one,List.map_append,List.getElem?_eq_getElem h,List.getD_eq_getElem?_getD,List.getElem?_eq_getElem h]
 rfl
theorem wpListIn_app_one {F:Fence} {nF:Nat} {P:Program} {ops:Array Oper} {rest:List Oper} {o:Oper} {a:Act} {Q:Exit → Act → World → Prop} (w:World) (hgd:o.guard = none) (s x:Operand) (t e:TypeId) (ho:o.op = .call { callee:=.builtin .append,args:=#[s,x],argTypes:=#[t,t] })
  (ht:P.underlying t = some (.slice e)) (z:Value) (size bytes:Nat) (hi:(P.info? e).map (fun i=>(i.zero,i.size,i.bytes)) = some (some z,size,bytes)) (hzs:z.cells.size = size) (hsz:0 < size)
  (B:Nat) (v:Value) (n:Nat) (xs cells:List Value) (hcl:cells.length = size) (h1:∀ u ∈ cells,u.oneCell' = true) (gq:Nat) (hgq:w.heap.size = gq) (hs:a.eval s = v) (hx:a.eval x = .slice (some ⟨gq,0,none⟩) 1 1)
  (hown:w.ownsRow B e size v n xs) (hB:B ≤ w.heap.size) (h63:n + 1 ≤ maxLen) (hby:(n + 1) * bytes ≤ 140737488355328)
  (h:∀ v' w',w'.ownsRow B e size v' (n + 1) (xs ++ cells) → Mod (fun j=>v.ownBlock = some j) w w' → (∀ (W:World) (S:Nat → Prop),W.heap.size ≤ B → Mod S W w → Mod S W w') → (∀ g,v'.ownBlock = some g → v.ownBlock = some g ∨ w.heap.size ≤ g) → wpListIn F nF P ops Q rest (a.put o.dst v') w') :
  wpListIn F nF P ops Q (o :: rest) a (w.alloc (.cells cells.toArray e)):=by
 obtain ⟨i0,hi0,hz0,hz1,hz2⟩:=info_parts hi
 subst hcl
 subst hgq
 have hsrc:=Src.new w e cells
 refine wpListIn_append_own_at _ hgd s x t ho B e i0 z cells.length bytes ht hi0 hz0 hz1 hz2 hzs hsz v n xs hs (own_mod hown ((Mod.refl (fun _=>False) w).alloc _) (fun _ _ h=>h)) ⟨w.heap.size,0,none⟩ 1 1 cells hx (by omega) (hsrc.2.2 _ rfl) h1 h63 hby (by simp;omega) ?_
 intro v' w' g1 g2 _ g3
 obtain ⟨m1,m2,m3⟩:=own_one w hown g2 g3
 exact h v' w' g1 m1 m2 m3
end Go.Proofs.YthednemlahioeaaGreatDoor

