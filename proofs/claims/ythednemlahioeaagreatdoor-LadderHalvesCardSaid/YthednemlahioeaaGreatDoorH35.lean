/-
  plane.Down.
-/
import Derived.Test.YthednemlahioeaaGreatDoorH34
import Derived.Test.YthednemlahioeaaGreatDoorH31
import Derived.Test.YthednemlahioeaaGreatDoorH33
namespace Go.Proofs.YthednemlahioeaaGreatDoor
open Go.RowKit
set_option maxRecDepth 100000
set_option maxHeartbeats 8000000
theorem pHalf' (w:World) (W H:Nat) (A:Option Addr) (m c:Nat) (pix:List UInt8) (h:sidesB W H = true) (hm:m = W * H) (hin:BytesIn w A m c pix) (W2 H2 N:Nat) (hw:W = 2 * W2) (hh:H = 2 * H2) (hN:N = W2 * H2) :
  Calls Tryz.prog 61 #[.agg #[.int .i64 (W:Int),.int .i64 (H:Int),.slice A m c]] w (HalfPost w W2 H2 N (hfL W H pix)):=by
 subst hm
 exact pHalf w W H A _ c pix h rfl hin W2 H2 N hw hh hN
theorem pDown (w:World) (d:Dim) (hd:d.Ok) (hW:d.W % 32 = 0) (hH:d.H % 32 = 0) (A0 A1 A2:Option Addr) (c0 c1 c2:Nat) (f:Pix) (i0:BytesIn w A0 d.nY c0 f.Y) (i1:BytesIn w A1 d.nC c1 f.U) (i2:BytesIn w A2 d.nC c2 f.V)
  (hwh:wholeI d.W d.H d.nY d.W2 d.H2 d.nC d.W2 d.H2 d.nC = true) :
  Calls Tryz.prog 20 #[.agg #[.int .i64 (d.W:Int),.int .i64 (d.H:Int),.slice A0 d.nY c0,.int .i64 (d.W2:Int),.int .i64 (d.H2:Int),.slice A1 d.nC c1,.int .i64 (d.W2:Int),.int .i64 (d.H2:Int),.slice A2 d.nC c2]] w fun e w'=>∃ p,e = .returned (.tuple #[p,.int .i64 0]) ∧ FrameMade w d.down (downPix d f) p w' ∧ Mod (fun _=>False) w w':=by
 have h0:=((Sat.nil (fun _=>False) w).alloc 58 #[.int .i64 (d.W:Int),.int .i64 (d.H:Int),.slice A0 d.nY c0,.int .i64 (d.W2:Int),.int .i64 (d.H2:Int),.slice A1 d.nC c1,.int .i64 (d.W2:Int),.int .i64 (d.H2:Int),.slice A2 d.nC c2] rfl).alloc (g:=w.heap.size + 1) 58 #[.int .i64 0,.int .i64 0,.slice none 0 0,.int .i64 0,.int .i64 0,.slice none 0 0,.int .i64 0,.int .i64 0,.slice none 0 0] (by simp)
 have H0:=Lib.hid (And.intro h0 (And.intro i0 (And.intro i1 i2)))
 have m1:((d.W:Int) % 32 != 0) = false:=by simp;omega
 have m2:((d.H:Int) % 32 != 0) = false:=by simp;omega
 have e1:d.W2 = 2 * (d.W2 / 2):=by have:=hd.w2;omega
 have e2:d.H2 = 2 * (d.H2 / 2):=by have:=hd.h2;omega
 have HD:=Lib.hid (And.intro hd (And.intro e1 (And.intro e2 (And.intro hW hH))))
 obtain ⟨fc,ff⟩:=(h0.own_ 1 rfl).both
 dsimp only at fc
 clear h0 i0 i1 i2 e1 e2 hd hW hH
 have HW:=Lib.hid hwh
 clear hwh
 go_enter Tryz.func20,Tryz.ntmps20
 go_wp2_with fail
 refine (pWholeI _ (d.W:Int) (d.H:Int) (d.W2:Int) (d.H2:Int) (d.W2:Int) (d.H2:Int) A0 A1 A2 d.nY c0 d.nC c1 d.nC c2).mono ?_
 rintro e w1 ⟨rfl,hm1⟩
 rw [HW.out]
 have hs1:=Sat.after hm1 H0.out.1
 clear fc ff
 obtain ⟨fc,ff⟩:=(hs1.own_ 1 rfl).both
 dsimp only at fc
 have fl:=(hs1.own_ 1 rfl).lt
 dsimp only at fl
 have H1:=Lib.hid hs1
 clear hs1 hm1
 go_wp2_with fail
 have hs2:=H1.out.alloc (g:=w1.heap.size) 58 #[.int .i64 0,.int .i64 0,.slice none 0 0,.int .i64 0,.int .i64 0,.slice none 0 0,.int .i64 0,.int .i64 0,.slice none 0 0] rfl
 refine (pHalf' _ d.W d.H A0 d.nY c0 f.Y HD.out.1.sides HD.out.1.ny (H0.out.2.1.quiet hs2.mod) d.W2 d.H2 d.nC HD.out.1.w2 HD.out.1.h2 HD.out.1.nc).mono ?_
 rintro e w2 ⟨q0,rfl,hb0,hl0,hm2⟩
 have hs3:=Sat.grew hm2 hs2 hb0 hl0
 obtain ⟨fb,hfb⟩:∃ b,b = w1.heap.size:=⟨_,rfl⟩
 rw [← hfb] at hs3 ⊢
 have HX:=Lib.hid hfb
 clear fc ff hb0 hl0 hm2 hs2 fl hfb
 obtain ⟨fc,ff⟩:=(hs3.own_ 1 rfl).both
 dsimp only at fc
 have hl3:=(hs3.own_ 1 rfl).lt
 dsimp only at hl3
 have H3:=Lib.hid hs3
 clear hs3
 go_upto_region 5 with (fail)
 have hs4:Sat (fun _=>False) w (((w2.setCell ⟨fb,0,none⟩ (.int .i64 (d.W2:Int))).setCell ⟨fb,1,none⟩ (.int .i64 (d.H2:Int))).setCell ⟨fb,2,none⟩ (.slice (some ⟨q0,0,none⟩) d.nC d.nC)) [⟨q0,5,(u8s (hfL d.W d.H f.Y)).toArray⟩,⟨fb,58,#[.int .i64 (d.W2:Int),.int .i64 (d.H2:Int),.slice (some ⟨q0,0,none⟩) d.nC d.nC,.int .i64 0,.int .i64 0,.slice none 0 0,.int .i64 0,.int .i64 0,.slice none 0 0]⟩,⟨w.heap.size + 1,58,#[.int .i64 0,.int .i64 0,.slice none 0 0,.int .i64 0,.int .i64 0,.slice none 0 0,.int .i64 0,.int .i64 0,.slice none 0 0]⟩,⟨w.heap.size,58,#[.int .i64 (d.W:Int),.int .i64 (d.H:Int),.slice A0 d.nY c0,.int .i64 (d.W2:Int),.int .i64 (d.H2:Int),.slice A1 d.nC c1,.int .i64 (d.W2:Int),.int .i64 (d.H2:Int),.slice A2 d.nC c2]⟩] []:=
  ((H3.out.put (.there (.here rfl))).put (.there (.here rfl))).put (.there (.here rfl))
 clear fc ff hl3 H3
 generalize (((w2.setCell ⟨fb,0,none⟩ (.int .i64 (d.W2:Int))).setCell ⟨fb,1,none⟩ (.int .i64 (d.H2:Int))).setCell ⟨fb,2,none⟩ (.slice (some ⟨q0,0,none⟩) d.nC d.nC)) = w3 at *
 obtain ⟨fc,ff⟩:=(hs4.own_ 3 rfl).both
 dsimp only at fc
 have H4:=Lib.hid hs4
 clear hs4
 go_wp2_with fail
 refine (pHalf' _ d.W2 d.H2 A1 d.nC c1 f.U HD.out.1.half HD.out.1.nc (H0.out.2.2.1.quiet H4.out.mod) (d.W2 / 2) (d.H2 / 2) (d.W2 / 2 * (d.H2 / 2)) HD.out.2.1 HD.out.2.2.1 rfl).mono ?_
 rintro e w4 ⟨q1,rfl,hb1,hl1,hm4⟩
 have hs5:=Sat.grew hm4 H4.out hb1 hl1
 obtain ⟨W4,hW4⟩:∃ x,x = d.W2 / 2:=⟨_,rfl⟩
 obtain ⟨H4',hH4⟩:∃ x,x = d.H2 / 2:=⟨_,rfl⟩
 obtain ⟨N4,hN4⟩:∃ x,x = W4 * H4':=⟨_,rfl⟩
 rw [← hW4,← hH4,← hN4]
 have HE:=Lib.hid (And.intro hW4 (And.intro hH4 hN4))
 clear fc ff hb1 hl1 hm4 hW4 hH4 hN4
 obtain ⟨fc,ff⟩:=(hs5.own_ 2 rfl).both
 dsimp only at fc
 have hl3:=(hs5.own_ 2 rfl).lt
 dsimp only at hl3
 have H5:=Lib.hid hs5
 clear hs5
 go_upto_region 6 with (fail)
 have hs6:Sat (fun _=>False) w (((w4.setCell ⟨fb,3,none⟩ (.int .i64 (W4:Int))).setCell ⟨fb,4,none⟩ (.int .i64 (H4':Int))).setCell ⟨fb,5,none⟩ (.slice (some ⟨q1,0,none⟩) N4 N4)) [⟨q1,5,(u8s (hfL d.W2 d.H2 f.U)).toArray⟩,⟨q0,5,(u8s (hfL d.W d.H f.Y)).toArray⟩,⟨fb,58,#[.int .i64 (d.W2:Int),.int .i64 (d.H2:Int),.slice (some ⟨q0,0,none⟩) d.nC d.nC,.int .i64 (W4:Int),.int .i64 (H4':Int),.slice (some ⟨q1,0,none⟩) N4 N4,.int .i64 0,.int .i64 0,.slice none 0 0]⟩,⟨w.heap.size + 1,58,#[.int .i64 0,.int .i64 0,.slice none 0 0,.int .i64 0,.int .i64 0,.slice none 0 0,.int .i64 0,.int .i64 0,.slice none 0 0]⟩,⟨w.heap.size,58,#[.int .i64 (d.W:Int),.int .i64 (d.H:Int),.slice A0 d.nY c0,.int .i64 (d.W2:Int),.int .i64 (d.H2:Int),.slice A1 d.nC c1,.int .i64 (d.W2:Int),.int .i64 (d.H2:Int),.slice A2 d.nC c2]⟩] []:=
  ((H5.out.put (.there (.there (.here rfl)))).put (.there (.there (.here rfl)))).put (.there (.there (.here rfl)))
 clear fc ff hl3 H5
 generalize (((w4.setCell ⟨fb,3,none⟩ (.int .i64 (W4:Int))).setCell ⟨fb,4,none⟩ (.int .i64 (H4':Int))).setCell ⟨fb,5,none⟩ (.slice (some ⟨q1,0,none⟩) N4 N4)) = w5 at *
 obtain ⟨fc,ff⟩:=(hs6.own_ 4 rfl).both
 dsimp only at fc
 have H6:=Lib.hid hs6
 clear hs6
 go_wp2_with fail
 refine (pHalf' _ d.W2 d.H2 A2 d.nC c2 f.V HD.out.1.half HD.out.1.nc (H0.out.2.2.2.quiet H6.out.mod) W4 H4' N4 (by rw [HE.out.1];exact HD.out.2.1) (by rw [HE.out.2.1];exact HD.out.2.2.1) HE.out.2.2).mono ?_
 rintro e w6 ⟨q2,rfl,hb2,hl2,hm6⟩
 have hs7:=Sat.grew hm6 H6.out hb2 hl2
 clear fc ff hb2 hl2 hm6
 obtain ⟨fc,ff⟩:=(hs7.own_ 3 rfl).both
 dsimp only at fc
 have hl3:=(hs7.own_ 3 rfl).lt
 dsimp only at hl3
 have H7:=Lib.hid hs7
 clear hs7
 go_upto_region 7 with (fail)
 have hs8:Sat (fun _=>False) w (((w6.setCell ⟨fb,6,none⟩ (.int .i64 (W4:Int))).setCell ⟨fb,7,none⟩ (.int .i64 (H4':Int))).setCell ⟨fb,8,none⟩ (.slice (some ⟨q2,0,none⟩) N4 N4)) [⟨q2,5,(u8s (hfL d.W2 d.H2 f.V)).toArray⟩,⟨q1,5,(u8s (hfL d.W2 d.H2 f.U)).toArray⟩,⟨q0,5,(u8s (hfL d.W d.H f.Y)).toArray⟩,⟨fb,58,#[.int .i64 (d.W2:Int),.int .i64 (d.H2:Int),.slice (some ⟨q0,0,none⟩) d.nC d.nC,.int .i64 (W4:Int),.int .i64 (H4':Int),.slice (some ⟨q1,0,none⟩) N4 N4,.int .i64 (W4:Int),.int .i64 (H4':Int),.slice (some ⟨q2,0,none⟩) N4 N4]⟩,⟨w.heap.size + 1,58,#[.int .i64 0,.int .i64 0,.slice none 0 0,.int .i64 0,.int .i64 0,.slice none 0 0,.int .i64 0,.int .i64 0,.slice none 0 0]⟩,⟨w.heap.size,58,#[.int .i64 (d.W:Int),.int .i64 (d.H:Int),.slice A0 d.nY c0,.int .i64 (d.W2:Int),.int .i64 (d.H2:Int),.slice A1 d.nC c1,.int .i64 (d.W2:Int),.int .i64 (d.H2:Int),.slice A2 d.nC c2]⟩] []:=
  ((H7.out.put (.there (.there (.there (.here rfl))))).put (.there (.there (.there (.here rfl))))).put (.there (.there (.there (.here rfl))))
 clear fc ff hl3 H7
 generalize (((w6.setCell ⟨fb,6,none⟩ (.int .i64 (W4:Int))).setCell ⟨fb,7,none⟩ (.int .i64 (H4':Int))).setCell ⟨fb,8,none⟩ (.slice (some ⟨q2,0,none⟩) N4 N4)) = w7 at *
 obtain ⟨fc,ff⟩:=(hs8.own_ 3 rfl).both
 dsimp only at fc
 have fl:=(hs8.own_ 3 rfl).lt
 obtain ⟨rc,rf⟩:=(hs8.own_ 4 rfl).both
 dsimp only at rc fl
 have rl:=(hs8.own_ 4 rfl).lt
 dsimp only at rl
 have H8:=Lib.hid hs8
 clear hs8
 go_wp2_with fail
 have hr8:=H8.out.own_ 4 rfl
 dsimp only at hr8
 obtain ⟨b9,m9⟩:=fr_lay9 hr8 (.int .i64 (d.W2:Int)) (.int .i64 (d.H2:Int)) (.slice (some ⟨q0,0,none⟩) d.nC d.nC) (.int .i64 (W4:Int)) (.int .i64 (H4':Int)) (.slice (some ⟨q1,0,none⟩) N4 N4) (.int .i64 (W4:Int)) (.int .i64 (H4':Int)) (.slice (some ⟨q2,0,none⟩) N4 N4)
 skip
 have hs9:=H8.out.turn m9 b9 (.there (.there (.there (.there .here))))
 have p0:=b9.cell 0
 have p1:=b9.cell 1
 have p2:=b9.cell 2
 have p3:=b9.cell 3
 have p4:=b9.cell 4
 have p5:=b9.cell 5
 have p6:=b9.cell 6
 have p7:=b9.cell 7
 have p8:=b9.cell 8
 have y0:=hs9.own_ 2 rfl
 have y1:=hs9.own_ 1 rfl
 have y2:=hs9.own_ 0 rfl
 dsimp only at y0 y1 y2
 have n01:=hs9.apart 1 2 rfl rfl (by omega)
 have n02:=hs9.apart 0 2 rfl rfl (by omega)
 have n12:=hs9.apart 0 1 rfl rfl (by omega)
 have L0:=hs9.low 2 rfl
 have L1:=hs9.low 1 rfl
 have L2:=hs9.low 0 rfl
 dsimp only at n01 n02 n12 L0 L1 L2
 have hM:=hs9.mod
 have hv:frameV d.down q0 q1 q2 = [.int .i64 (d.W2:Int),.int .i64 (d.H2:Int),.slice (some ⟨q0,0,none⟩) d.nC d.nC,.int .i64 (W4:Int),.int .i64 (H4':Int),.slice (some ⟨q1,0,none⟩) N4 N4,.int .i64 (W4:Int),.int .i64 (H4':Int),.slice (some ⟨q2,0,none⟩) N4 N4]:=by
  have e3:N4 = d.W2 / 2 * (d.H2 / 2):=by rw [HE.out.2.2,HE.out.1,HE.out.2.1]
  rw [e3,HE.out.1,HE.out.2.1]
  rfl
 have ly:(downPix d f).Y.length = d.down.nY:=by
  show (hfL d.W d.H f.Y).length = d.nC
  rw [hfL_length,HD.out.1.nc]
  have a:=HD.out.1.w2
  have b:=HD.out.1.h2
  rw [show d.W / 2 = d.W2 by omega,show d.H / 2 = d.H2 by omega]
 have HZ:=Lib.hid (And.intro y0 (And.intro y1 (And.intro y2 (And.intro (And.intro n01 (And.intro n02 n12)) (And.intro (And.intro L0 (And.intro L1 L2)) (And.intro hM ly))))))
 clear y0 y1 y2 n01 n02 n12 L0 L1 L2 hM ly hs9 hr8 b9 m9 fc ff fl rc rf rl
 refine bodyPost_ret (v:=.tuple #[.agg (frameV d.down q0 q1 q2).toArray,.int .i64 0]) (by rw [hv];simp [results,Tryz.results20,go_sem,p0,p1,p2,p3,p4,p5,p6,p7,p8]) rfl ⟨_,rfl,⟨q0,q1,q2,rfl,⟨HZ.out.1,HZ.out.2.1,HZ.out.2.2.1,HZ.out.2.2.2.2.2.2,?_,?_,Ne.symm HZ.out.2.2.2.1.1,Ne.symm HZ.out.2.2.2.1.2.1,Ne.symm HZ.out.2.2.2.1.2.2⟩,HZ.out.2.2.2.2.1.1,HZ.out.2.2.2.2.1.2.1,HZ.out.2.2.2.2.1.2.2⟩,HZ.out.2.2.2.2.2.1⟩
 ·exact hfL_length d.W2 d.H2 f.U
 ·exact hfL_length d.W2 d.H2 f.V
def outsN (d:Dim) (G tg q:Nat) (fs:List Pix) (i j:Nat):List (List UInt8 × Pix):=(List.range j).map fun t=>outSt d G tg q fs (i * G + t)
theorem outsN_succ (d:Dim) (G tg q:Nat) (fs:List Pix) (i j:Nat):outsN d G tg q fs i (j + 1) = outsN d G tg q fs i j ++ [outSt d G tg q fs (i * G + j)]:=by
 unfold outsN
 rw [List.range_succ,List.map_append]
 rfl
def OneRel (B:Nat) (W:World) (p:MkP) (v:Value) (Z:Nat) (done:List (List (List UInt8 × Pix))) (gb:Nat) (fsP:List Pix) (q0 i:Nat) (v55:Value) (wr:World):Prop:=
 ∃ (j T:Nat) (sv fv:Value),j ≤ segLen p.G fsP.length i ∧ v55 = .int .i64 (j:Int) ∧
  MkIn B W p v Z done gb T sv fv ((outsN p.d p.G p.tg q0 fsP i j).map Prod.fst) ((outsN p.d p.G p.tg q0 fsP i j).map Prod.snd) (encSt p.d p.G p.tg q0 fsP (i * p.G + j)).1 (j % p.G) (encSt p.d p.G p.tg q0 fsP (i * p.G + j)).2 wr
structure FxAt (w:World) (fb eb:Nat) (d:Dim) (P:Pix) (fx:FrX):Prop where
 blk:Blk w fb 58 fx.cells.toArray
 in_:fx.In w
 good:fx.goodB d = true
 pix:fx.pix = P
 off:∀ ad,(fx.A0 = some ad ∨ fx.A1 = some ad ∨ fx.A2 = some ad) → ad.block ≠ fb ∧ ad.block ≠ eb
theorem FrX.In.mod {f:FrX} {w w':World} {S:Nat → Prop} (h:f.In w) (hm:Mod S w w') (hS:∀ ad,(f.A0 = some ad ∨ f.A1 = some ad ∨ f.A2 = some ad) → ¬ S ad.block):f.In w':=
 ⟨h.b0.mod hm (fun _ ad e=>hS ad (.inl e)),h.b1.mod hm (fun _ ad e=>hS ad (.inr (.inl e))),h.b2.mod hm (fun _ ad e=>hS ad (.inr (.inr e))),h.k0,h.k1,h.k2,h.m0,h.m1,h.m2⟩
theorem FrX.In.quiet' {f:FrX} {w w':World} (h:f.In w) (hm:Mod (fun _=>False) w w'):f.In w':=h.mod hm (fun _ _ h=>h)
def DownRel (B:Nat) (W:World) (p:MkP) (v:Value) (Z:Nat) (done:List (List (List UInt8 × Pix))) (gb T:Nat) (sv fv:Value) (ss:List (List UInt8)) (ff:List Pix) (q nu:Nat) (ahd:Pix) (fb dn:Nat) (d0:Dim) (P:Pix) (v61:Value) (wq:World):Prop:=
 ∃ (m:Nat) (fx:FrX),m ≤ dn ∧ v61 = .int .i64 (m:Int) ∧ FxAt wq fb p.eb (d0.downs m) (downsPix d0 P m) fx ∧ MkIn B W p v Z done gb T sv fv ss ff q nu ahd wq
theorem goodB_of {d:Dim} (hd:d.Ok) (g0 g1 g2:Nat) (P:Pix):(FrX.mk (d.W:Int) (d.H:Int) (some ⟨g0,0,none⟩) d.nY d.nY (d.W2:Int) (d.H2:Int) (some ⟨g1,0,none⟩) d.nC d.nC (d.W2:Int) (d.H2:Int) (some ⟨g2,0,none⟩) d.nC d.nC P.Y P.U P.V).goodB d = true:=by
 have hs:=hd.sides
 have hh:=hd.half
 have a1:=hd.w2
 have a2:=hd.h2
 have b1:=hd.w16
 have b2:=hd.h16
 have c1:((d.nY:Nat):Int) = (d.W:Int) * (d.H:Int):=by rw [hd.ny,Int.natCast_mul]
 have c2:((d.nC:Nat):Int) = (d.W2:Int) * (d.H2:Int):=by rw [hd.nc,Int.natCast_mul]
 obtain ⟨x1,x2,x3,x4,x5,x6⟩:=area_le hs
 obtain ⟨y1,y2,y3,y4,y5,y6⟩:=area_le hh
 have s0:sidesI (d.W:Int) (d.H:Int) = true:=by unfold sidesI;simp;omega
 have s1:sidesI (d.W2:Int) (d.H2:Int) = true:=by unfold sidesI;simp;omega
 have r0:rightI (d.W:Int) (d.H:Int) d.nY = true:=by unfold rightI;rw [s0,decide_eq_true c1];rfl
 have r1:rightI (d.W2:Int) (d.H2:Int) d.nC = true:=by unfold rightI;rw [s1,decide_eq_true c2];rfl
 unfold FrX.goodB wholeI
 dsimp only
 rw [decide_eq_true (p:=(d.W:Int) = (d.W:Int)) rfl,decide_eq_true (p:=(d.H:Int) = (d.H:Int)) rfl,Bool.and_true,Bool.and_true]
 exact decide_eq_true ⟨r0,r1,r1,by omega,by omega,by omega,by omega,by omega,by omega⟩
theorem Dim.Ok.whole1 {d:Dim} (hd:d.Ok):wholeI d.W d.H d.nY d.W2 d.H2 d.nC d.W2 d.H2 d.nC = true:=by
 have h1:=goodB_of hd 0 0 0 noPix
 unfold FrX.goodB at h1
 rw [Bool.and_eq_true] at h1
 exact h1.1
theorem pDownX (w:World) (d:Dim) (hd:d.Ok) (hdd:d.down.Ok) (hW:d.W % 32 = 0) (hH:d.H % 32 = 0) (fx:FrX) (hg:fx.goodB d = true) (hin:fx.In w) :
  Calls Tryz.prog 20 #[.agg fx.cells.toArray] w fun e w'=>∃ fy:FrX,e = .returned (.tuple #[.agg fy.cells.toArray,.int .i64 0]) ∧ fy.In w' ∧ fy.goodB d.down = true ∧ fy.pix = downPix d fx.pix ∧ (∀ ad,(fy.A0 = some ad ∨ fy.A1 = some ad ∨ fy.A2 = some ad) → w.heap.size ≤ ad.block) ∧ Mod (fun _=>False) w w':=by
 have hw:=hd.whole1
 obtain ⟨hcl,h0,h1,h2⟩:=FrX.good hd hg
 have i0:=hin.b0
 have i1:=hin.b1
 have i2:=hin.b2
 rw [h0] at i0
 rw [h1] at i1
 rw [h2] at i2
 rw [hcl]
 refine (pDown w d hd hW hH fx.A0 fx.A1 fx.A2 fx.c0 fx.c1 fx.c2 fx.pix i0 i1 i2 hw).mono ?_
 rintro e w' ⟨p,rfl,⟨g0,g1,g2,rfl,hf,l0,l1,l2⟩,hm⟩
 refine ⟨FrX.mk (d.down.W:Int) (d.down.H:Int) (some ⟨g0,0,none⟩) d.down.nY d.down.nY (d.down.W2:Int) (d.down.H2:Int) (some ⟨g1,0,none⟩) d.down.nC d.down.nC (d.down.W2:Int) (d.down.H2:Int) (some ⟨g2,0,none⟩) d.down.nC d.down.nC (downPix d fx.pix).Y (downPix d fx.pix).U (downPix d fx.pix).V,rfl,
  ⟨blkIn hf.by_ hf.ly hdd.nyle,blkIn hf.bu hf.lu hdd.ncle,blkIn hf.bv hf.lv hdd.ncle,Nat.le_refl _,Nat.le_refl _,Nat.le_refl _,?_,?_,?_⟩,goodB_of hdd g0 g1 g2 _,rfl,?_,hm⟩
 ·show d.down.nY ≤ _
  have:=hdd.nyle
  omega
 ·show d.down.nC ≤ _
  have:=hdd.ncle
  omega
 ·show d.down.nC ≤ _
  have:=hdd.ncle
  omega
 ·rintro ad (e | e | e) <;> (injection e with e;subst e;assumption)
def FramePost15 (w:World) (g:Nat) (d:Dim) (G q tg nu:Nat) (r:List UInt8 × Pix) (e:Ending) (w':World):Prop:=
 ∃ A c g0 g1 g2,e = .returned (.tuple #[.slice A r.1.length c,.agg (frameV d g0 g1 g2).toArray,.int .i64 0]) ∧ Bytes w' w.heap.size (.slice A r.1.length c) r.1 ∧ FrameAt w' d g0 g1 g2 r.2 ∧ (w.heap.size ≤ g0 ∧ w.heap.size ≤ g1 ∧ w.heap.size ≤ g2) ∧
   EncAt w' g d G (newQ q tg G r.1.length) tg (newN nu G) r.2 ∧ Mod (· = g) w w'
theorem encFrameGood {w:World} {g:Nat} {d:Dim} {G q tg nu:Nat} {ahd:Pix} (h:EncAt w g d G q tg nu ahd) (he:EnvP w) (hd:d.Ok) (hW:d.W ≤ 64) (hH:d.H ≤ 64) (hG:1 ≤ G ∧ G ≤ 64) (hq:q ≤ 31) (ht:tg ≤ 1048576) (hnu:nu < G) (f:FrX) (hf:f.In w) (hg:f.goodB d = true) {r:List UInt8 × Pix} (hr:eframe d f.pix ahd nu q = r) :
  Calls Tryz.prog 97 #[.pointer (some ⟨g,0,none⟩),.agg f.cells.toArray] w (FramePost15 w g d G q tg nu r):=by
 refine (encFrameAt h he hd hW hH hG hq ht hnu f hf).mono ?_
 rintro e w' (⟨h1,_⟩ | ⟨_,v,p,rfl,hB,⟨g0,g1,g2,rfl,hfp,l0,l1,l2⟩,hE,hm⟩)
 ·exact absurd (h1.symm.trans hg) (by decide)
 ·rw [hr] at hB hfp hE
  obtain ⟨A,c,rfl⟩:=own_shape hB
  exact ⟨A,c,g0,g1,g2,rfl,hB,hfp,⟨l0,l1,l2⟩,hE,hm⟩
theorem FrX.low {f:FrX} {d:Dim} {w:World} (hd:d.Ok) (hg:f.goodB d = true) (h:f.In w):∀ ad,(f.A0 = some ad ∨ f.A1 = some ad ∨ f.A2 = some ad) → ad.block < w.heap.size:=by
 obtain ⟨_,h0,h1,h2⟩:=FrX.good hd hg
 obtain ⟨_,a1,_,a3,_,a5⟩:=area_le hd.sides
 obtain ⟨_,b1,_,b3,_,b5⟩:=area_le hd.half
 rintro ad (e | e | e)
 ·exact h.b0.2.2.2 (by rw [h0,hd.ny];exact Nat.mul_pos a1 a3) ad e
 ·exact h.b1.2.2.2 (by rw [h1,hd.nc];exact Nat.mul_pos b1 b3) ad e
 ·exact h.b2.2.2.2 (by rw [h2,hd.nc];exact Nat.mul_pos b1 b3) ad e
section
variable {B : Nat} {W : World} {p : MkP} {v : Value} {Z : Nat} {done : List (List (List UInt8 × Pix))} {gb T : Nat} {sv fv : Value} {ss : List (List UInt8)} {ff : List Pix} {q nu : Nat} {ahd : Pix} {w w' : World}
theorem MkIn.ne_ (h:MkIn B W p v Z done gb T sv fv ss ff q nu ahd w) {x:Nat} (hx:T ≤ x):x ≠ p.eb ∧ x ≠ p.g:=by
 obtain ⟨g1,g2,g3,g4,g5,g6,g7,g8,g9⟩:=h.bs.ok.high
 have:=h.zt
 have:=h.bs.lz
 omega
theorem down_step {fb:Nat} {d:Dim} {P:Pix} {fy:FrX} {x0 x1 x2 x3 x4 x5 x6 x7 x8:Value} (h:MkIn B W p v Z done gb T sv fv ss ff q nu ahd w) (hT:T ≤ fb) (hb:Blk w fb 58 #[x0,x1,x2,x3,x4,x5,x6,x7,x8]) (hin:fy.In w) (hg:fy.goodB d = true) (hP:fy.pix = P)
  (ho:∀ ad,(fy.A0 = some ad ∨ fy.A1 = some ad ∨ fy.A2 = some ad) → fb < ad.block) :
  FxAt ((((((((((w.setCell ⟨fb,0,none⟩ (.int .i64 fy.W0)).setCell ⟨fb,1,none⟩ (.int .i64 fy.H0)).setCell ⟨fb,2,none⟩ (.slice fy.A0 fy.n0 fy.c0)).setCell ⟨fb,3,none⟩ (.int .i64 fy.W1)).setCell ⟨fb,4,none⟩ (.int .i64 fy.H1)).setCell ⟨fb,5,none⟩ (.slice fy.A1 fy.n1 fy.c1)).setCell ⟨fb,6,none⟩ (.int .i64 fy.W2)).setCell ⟨fb,7,none⟩ (.int .i64 fy.H2)).setCell ⟨fb,8,none⟩ (.slice fy.A2 fy.n2 fy.c2)).setCell ⟨p.eb,0,none⟩ (.int .i64 0)) fb p.eb d P fy ∧
  MkIn B W p v Z done gb T sv fv ss ff q nu ahd ((((((((((w.setCell ⟨fb,0,none⟩ (.int .i64 fy.W0)).setCell ⟨fb,1,none⟩ (.int .i64 fy.H0)).setCell ⟨fb,2,none⟩ (.slice fy.A0 fy.n0 fy.c0)).setCell ⟨fb,3,none⟩ (.int .i64 fy.W1)).setCell ⟨fb,4,none⟩ (.int .i64 fy.H1)).setCell ⟨fb,5,none⟩ (.slice fy.A1 fy.n1 fy.c1)).setCell ⟨fb,6,none⟩ (.int .i64 fy.W2)).setCell ⟨fb,7,none⟩ (.int .i64 fy.H2)).setCell ⟨fb,8,none⟩ (.slice fy.A2 fy.n2 fy.c2)).setCell ⟨p.eb,0,none⟩ (.int .i64 0)):=by
 obtain ⟨b9,m9⟩:=fr_lay9 hb (.int .i64 fy.W0) (.int .i64 fy.H0) (.slice fy.A0 fy.n0 fy.c0) (.int .i64 fy.W1) (.int .i64 fy.H1) (.slice fy.A1 fy.n1 fy.c1) (.int .i64 fy.W2) (.int .i64 fy.H2) (.slice fy.A2 fy.n2 fy.c2)
 have hne:=h.ne_ hT
 have h9:=h.one m9 hb (by decide) hT
 generalize (((((((((w.setCell ⟨fb,0,none⟩ (.int .i64 fy.W0)).setCell ⟨fb,1,none⟩ (.int .i64 fy.H0)).setCell ⟨fb,2,none⟩ (.slice fy.A0 fy.n0 fy.c0)).setCell ⟨fb,3,none⟩ (.int .i64 fy.W1)).setCell ⟨fb,4,none⟩ (.int .i64 fy.H1)).setCell ⟨fb,5,none⟩ (.slice fy.A1 fy.n1 fy.c1)).setCell ⟨fb,6,none⟩ (.int .i64 fy.W2)).setCell ⟨fb,7,none⟩ (.int .i64 fy.H2)).setCell ⟨fb,8,none⟩ (.slice fy.A2 fy.n2 fy.c2)) = w9 at b9 m9 h9 ⊢
 have hm:Mod (· = p.eb) w9 (w9.setCell ⟨p.eb,0,none⟩ (.int .i64 0)):=(Mod.refl (· = p.eb) w9).setCell (p:=⟨p.eb,0,none⟩) (.inl rfl) _
 have hlt:p.eb < T:=by
  obtain ⟨g1,g2,g3,g4,g5,g6,g7,g8,g9⟩:=h.bs.ok.high
  have:=h.zt
  have:=h.bs.lz
  omega
 exact ⟨⟨b9.keep hm hne.1,(hin.mod m9 (fun ad e e2=>by have:=ho ad e;have e3:ad.block = fb:=e2;omega)).mod hm (fun ad e e2=>by have:=ho ad e;have e3:ad.block = p.eb:=e2;omega),hg,hP,fun ad e=>by have:=ho ad e;omega⟩,h9.err hm (h9.e0.put rfl)⟩
end
theorem newN_mod {j G:Nat} (hG:1 ≤ G):newN (j % G) G = (j + 1) % G:=by
 unfold newN
 have h:=Nat.mod_lt j (show G > 0 by omega)
 have h1:(j + 1) % G = (j % G + 1) % G:=by rw [Nat.add_mod,Nat.mod_add_mod];simp [Nat.add_mod]
 rw [h1]
 split
 ·rename_i h2
  exact (Nat.mod_eq_of_lt h2).symm
 ·rw [show j % G + 1 = G by omega,Nat.mod_self]
theorem MkIn.coded {B:Nat} {W:World} {p:MkP} {v:Value} {Z:Nat} {done:List (List (List UInt8 × Pix))} {gb T:Nat} {sv fv:Value} {ss:List (List UInt8)} {ff:List Pix} {q0 k j:Nat} {fsP:List Pix} {w w':World} (h:MkIn B W p v Z done gb T sv fv ss ff (encSt p.d p.G p.tg q0 fsP k).1 (j % p.G) (encSt p.d p.G p.tg q0 fsP k).2 w) (hG:1 ≤ p.G)
  (hm:Mod (· = p.g) w w') (he:EncAt w' p.g p.d p.G (newQ (encSt p.d p.G p.tg q0 fsP k).1 p.tg p.G (outSt p.d p.G p.tg q0 fsP k).1.length) p.tg (newN (j % p.G) p.G) (outSt p.d p.G p.tg q0 fsP k).2) :
  MkIn B W p v Z done gb w'.heap.size sv fv ss ff (encSt p.d p.G p.tg q0 fsP (k + 1)).1 ((j + 1) % p.G) (encSt p.d p.G p.tg q0 fsP (k + 1)).2 w':=by
 rw [newN_mod hG] at he
 exact (h.code hm he).raise
theorem map_getD {fs:List FrX} {k:Nat} {g:FrX → Pix} (hk:k < fs.length):(fs.map g).getD k noPix = g (fs.getD k FrX.zero):=by
 rw [List.getD_eq_getElem?_getD,List.getD_eq_getElem?_getD,List.getElem?_map,List.getElem?_eq_getElem hk]
 rfl
theorem bs_info:(Tryz.prog.info? 54).map (fun i=>(i.zero,i.size,i.bytes)) = some (some (.slice none 0 0),1,24):=by kernel_rfl
theorem fr_info:(Tryz.prog.info? 58).map (fun i=>(i.zero,i.size,i.bytes)) = some (some (.agg #[.int .i64 0,.int .i64 0,.slice none 0 0,.int .i64 0,.int .i64 0,.slice none 0 0,.int .i64 0,.int .i64 0,.slice none 0 0]),9,120):=by kernel_rfl
theorem sg_info:(Tryz.prog.info? 49).map (fun i=>(i.zero,i.size,i.bytes)) = some (some (.agg #[.slice none 0 0,.slice none 0 0]),2,48):=by kernel_rfl
theorem made_lay {w:World} {rb eb:Nat} (h:Blk w rb 43 noMade) (he:Blk w eb 26 #[.int .i64 0]) (hne:rb ≠ eb) (a0 a1 a2 a3 a4 a5 a6 a7:Value) :
  Blk (((((((((w.setCell ⟨rb,0,none⟩ a0).setCell ⟨rb,1,none⟩ a1).setCell ⟨rb,2,none⟩ a2).setCell ⟨rb,3,none⟩ a3).setCell ⟨rb,4,none⟩ a4).setCell ⟨rb,5,none⟩ a5).setCell ⟨rb,6,none⟩ a6).setCell ⟨rb,7,none⟩ a7).setCell ⟨eb,0,none⟩ (.int .i64 0)) rb 43 #[a0,a1,a2,a3,a4,a5,a6,a7] ∧
  Blk (((((((((w.setCell ⟨rb,0,none⟩ a0).setCell ⟨rb,1,none⟩ a1).setCell ⟨rb,2,none⟩ a2).setCell ⟨rb,3,none⟩ a3).setCell ⟨rb,4,none⟩ a4).setCell ⟨rb,5,none⟩ a5).setCell ⟨rb,6,none⟩ a6).setCell ⟨rb,7,none⟩ a7).setCell ⟨eb,0,none⟩ (.int .i64 0)) eb 26 #[.int .i64 0] ∧
  Mod (fun j=>j = rb ∨ j = eb) w (((((((((w.setCell ⟨rb,0,none⟩ a0).setCell ⟨rb,1,none⟩ a1).setCell ⟨rb,2,none⟩ a2).setCell ⟨rb,3,none⟩ a3).setCell ⟨rb,4,none⟩ a4).setCell ⟨rb,5,none⟩ a5).setCell ⟨rb,6,none⟩ a6).setCell ⟨rb,7,none⟩ a7).setCell ⟨eb,0,none⟩ (.int .i64 0)):=by
 have z:=(((((((h.set_ 0 a0).set_ 1 a1).set_ 2 a2).set_ 3 a3).set_ 4 a4).set_ 5 a5).set_ 6 a6).set_ 7 a7
 unfold noMade at z
 have m8:Mod (fun j=>j = rb ∨ j = eb) w ((((((((w.setCell ⟨rb,0,none⟩ a0).setCell ⟨rb,1,none⟩ a1).setCell ⟨rb,2,none⟩ a2).setCell ⟨rb,3,none⟩ a3).setCell ⟨rb,4,none⟩ a4).setCell ⟨rb,5,none⟩ a5).setCell ⟨rb,6,none⟩ a6).setCell ⟨rb,7,none⟩ a7):=
  ((((((((Mod.refl (fun j=>j = rb ∨ j = eb) w).setCell (.inl (.inl rfl)) a0).setCell (.inl (.inl rfl)) a1).setCell (.inl (.inl rfl)) a2).setCell (.inl (.inl rfl)) a3).setCell (.inl (.inl rfl)) a4).setCell (.inl (.inl rfl)) a5).setCell (.inl (.inl rfl)) a6).setCell (.inl (.inl rfl)) a7
 have e8:Blk ((((((((w.setCell ⟨rb,0,none⟩ a0).setCell ⟨rb,1,none⟩ a1).setCell ⟨rb,2,none⟩ a2).setCell ⟨rb,3,none⟩ a3).setCell ⟨rb,4,none⟩ a4).setCell ⟨rb,5,none⟩ a5).setCell ⟨rb,6,none⟩ a6).setCell ⟨rb,7,none⟩ a7) eb 26 #[.int .i64 0]:=
  (((((((he.far (Ne.symm hne) a0).far (Ne.symm hne) a1).far (Ne.symm hne) a2).far (Ne.symm hne) a3).far (Ne.symm hne) a4).far (Ne.symm hne) a5).far (Ne.symm hne) a6).far (Ne.symm hne) a7
 generalize ((((((((w.setCell ⟨rb,0,none⟩ a0).setCell ⟨rb,1,none⟩ a1).setCell ⟨rb,2,none⟩ a2).setCell ⟨rb,3,none⟩ a3).setCell ⟨rb,4,none⟩ a4).setCell ⟨rb,5,none⟩ a5).setCell ⟨rb,6,none⟩ a6).setCell ⟨rb,7,none⟩ a7) = w8 at z m8 e8 ⊢
 refine ⟨Blk.far (p:=⟨eb,0,none⟩) ?_ hne _,e8.put rfl,m8.setCell (p:=⟨eb,0,none⟩) (.inl (.inr rfl)) _⟩
 simpa using z
end Go.Proofs.YthednemlahioeaaGreatDoor

