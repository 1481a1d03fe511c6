/-
  Renditions that were made, in memory.
-/
import Derived.Test.YthednemlahioeaaGreatDoorH0
import Derived.Test.YthednemlahioeaaGreatDoorH27
import Derived.Test.YthednemlahioeaaGreatDoorH1
import Derived.Test.YthednemlahioeaaGreatDoorH13
import Derived.BigQuiet
namespace Go.Proofs.YthednemlahioeaaGreatDoor
open Go.RowKit
set_option maxRecDepth 100000
set_option maxHeartbeats 8000000
structure FrameF (w:World) (F:Nat → Prop) (d:Dim) (f:Pix) (c:List Value):Prop where
 ex:∃ v0 v1 v2,c = [.int .i64 (d.W:Int),.int .i64 (d.H:Int),v0,.int .i64 (d.W2:Int),.int .i64 (d.H2:Int),v1,.int .i64 (d.W2:Int),.int .i64 (d.H2:Int),v2] ∧
  RowIn w F 1 v0 d.nY (u8s f.Y) ∧ RowIn w F 1 v1 d.nC (u8s f.U) ∧ RowIn w F 1 v2 d.nC (u8s f.V)
theorem RowIn.blk {w:World} {F:Nat → Prop} {g n:Nat} {l:List UInt8} (h:Blk w g 5 (u8s l).toArray) (hl:l.length = n) (hF:F g):RowIn w F 1 (.slice (some ⟨g,0,none⟩) n n) n (u8s l):=by
 refine ⟨_,_,rfl,Nat.le_refl _,fun e=>(by cases e),⟨by rw [u8s_length,hl,Nat.mul_one],fun e=>(by cases e),fun ad e j u hu=>?_⟩,fun ad e _=>?_⟩
 ·injection e with e
  subst e
  rw [addr_add,h.cell j]
  simpa using hu
 ·injection e with e
  subst e
  exact ⟨h.lt,hF⟩
theorem FrameF.of_at {w:World} {F:Nat → Prop} {d:Dim} {gy gu gv:Nat} {f:Pix} (h:FrameAt w d gy gu gv f) (h0:F gy) (h1:F gu) (h2:F gv):FrameF w F d f (frameV d gy gu gv):=
 ⟨_,_,_,rfl,.blk h.by_ h.ly h0,.blk h.bu h.lu h1,.blk h.bv h.lv h2⟩
theorem FrameF.turn {w w':World} {F F' S:Nat → Prop} {d:Dim} {f:Pix} {c:List Value} (h:FrameF w F d f c) (hm:Mod S w w') (hS:∀ k,F k → k < w.heap.size → ¬ S k) (hF:∀ k,F k → k < w.heap.size → F' k):FrameF w' F' d f c:=by
 obtain ⟨v0,v1,v2,h0,h1,h2,h3⟩:=h.ex
 exact ⟨v0,v1,v2,h0,h1.turn hm hS hF,h2.turn hm hS hF,h3.turn hm hS hF⟩
def SegR (w:World) (F:Nat → Prop) (d:Dim) (s:List (List UInt8 × Pix)) (c:List Value):Prop:=
 ∃ sv fv,c = [sv,fv] ∧ ListIn w F 1 (SampR w F) sv (s.map Prod.fst) ∧ ListIn w F 9 (FrameF w F d) fv (s.map Prod.snd)
theorem SegR.turn {w w':World} {F F' S:Nat → Prop} {d:Dim} {s:List (List UInt8 × Pix)} {c:List Value} (h:SegR w F d s c) (hm:Mod S w w') (hS:∀ k,F k → k < w.heap.size → ¬ S k) (hF:∀ k,F k → k < w.heap.size → F' k):SegR w' F' d s c:=by
 obtain ⟨sv,fv,h0,h1,h2⟩:=h
 exact ⟨sv,fv,h0,h1.turn hm hS hF (fun x _ c k=>k.turn hm hS hF),h2.turn hm hS hF (fun x _ c k=>k.turn hm hS hF)⟩
structure MadeX where
 r:Rg
 G:Int
 d:Dim
 segs:List (List (List UInt8 × Pix))
def MadeR (w:World) (F:Nat → Prop) (m:MadeX) (c:List Value):Prop:=
 ∃ sv,c = m.r.cells ++ [.int .i64 (m.d.W:Int),.int .i64 (m.d.H:Int),.int .i64 m.G,sv] ∧ ListIn w F 2 (SegR w F m.d) sv m.segs
theorem MadeR.turn {w w':World} {F F' S:Nat → Prop} {m:MadeX} {c:List Value} (h:MadeR w F m c) (hm:Mod S w w') (hS:∀ k,F k → k < w.heap.size → ¬ S k) (hF:∀ k,F k → k < w.heap.size → F' k):MadeR w' F' m c:=by
 obtain ⟨sv,h0,h1⟩:=h
 exact ⟨sv,h0,h1.turn hm hS hF (fun x _ c k=>k.turn hm hS hF)⟩
def MadesIn (w:World) (F:Nat → Prop) (v:Value) (ms:List MadeX):Prop:=ListIn w F 8 (MadeR w F) v ms
theorem MadesIn.turn {w w':World} {F F' S:Nat → Prop} {v:Value} {ms:List MadeX} (h:MadesIn w F v ms) (hm:Mod S w w') (hS:∀ k,F k → k < w.heap.size → ¬ S k) (hF:∀ k,F k → k < w.heap.size → F' k):MadesIn w' F' v ms:=
 ListIn.turn h hm hS hF (fun _ _ _ k=>k.turn hm hS hF)
theorem both_quiet {w w':World} {A B:Option Addr} {n c m k:Nat} (h:∃ l,BytesIn w A n c l ∧ BytesIn w B m k l) (hm:Mod (fun _=>False) w w'):∃ l,BytesIn w' A n c l ∧ BytesIn w' B m k l:=by
 obtain ⟨l,h1,h2⟩:=h
 exact ⟨l,h1.quiet hm,h2.quiet hm⟩
theorem fAlike (w:World) (W H:Int) (A B:Option Addr) (n c m k:Nat) (l:List UInt8) (ha:BytesIn w A n c l) (hb:BytesIn w B m k l) :
  Calls Tryz.prog 108 #[.agg #[.int .i64 W,.int .i64 H,.slice A n c],.agg #[.int .i64 W,.int .i64 H,.slice B m k]] w fun e w'=>e = .returned (.bool true) ∧ Mod (fun _=>False) w w':=by
 have M:=(((Mod.refl (fun _=>False) w).alloc (.cells #[.int .i64 W,.int .i64 H,.slice A n c] 56)).alloc (.cells #[.int .i64 W,.int .i64 H,.slice B m k] 56))
 have ha':=ha.quiet M
 have hb':=hb.quiet M
 have s1:=str_src _ A n c l ha'.1 ha'.2.2.1
 have s2:=str_src _ B m k l hb'.1 hb'.2.2.1
 have HM:=Lib.hid M
 clear M ha' hb' ha hb
 go_enter Tryz.func108,Tryz.ntmps108
 go_wp2_with fail
 go_ret
 exact ⟨rfl,HM.out⟩
theorem fAlike' (w:World) (W H:Int) (A B:Option Addr) (n c m k:Nat) (h:∃ l,BytesIn w A n c l ∧ BytesIn w B m k l) :
  Calls Tryz.prog 108 #[.agg #[.int .i64 W,.int .i64 H,.slice A n c],.agg #[.int .i64 W,.int .i64 H,.slice B m k]] w fun e w'=>e = .returned (.bool true) ∧ Mod (fun _=>False) w w':=by
 obtain ⟨l,h1,h2⟩:=h
 exact fAlike w W H A B n c m k l h1 h2
theorem fSame (w:World) (W H W1 H1 W2 H2:Int) (A B A1 B1 A2 B2:Option Addr) (n c m k n1 c1 m1 k1 n2 c2 m2 k2:Nat)
  (h:∃ l,BytesIn w A n c l ∧ BytesIn w B m k l) (h1:∃ l,BytesIn w A1 n1 c1 l ∧ BytesIn w B1 m1 k1 l) (h2:∃ l,BytesIn w A2 n2 c2 l ∧ BytesIn w B2 m2 k2 l) :
  Calls Tryz.prog 59 #[.agg #[.int .i64 W,.int .i64 H,.slice A n c,.int .i64 W1,.int .i64 H1,.slice A1 n1 c1,.int .i64 W2,.int .i64 H2,.slice A2 n2 c2],.agg #[.int .i64 W,.int .i64 H,.slice B m k,.int .i64 W1,.int .i64 H1,.slice B1 m1 k1,.int .i64 W2,.int .i64 H2,.slice B2 m2 k2]] w fun e w'=>e = .returned (.bool true) ∧ Mod (fun _=>False) w w':=by
 have HS0:=((Sat.nil (fun _=>False) w).alloc 58 #[.int .i64 W,.int .i64 H,.slice A n c,.int .i64 W1,.int .i64 H1,.slice A1 n1 c1,.int .i64 W2,.int .i64 H2,.slice A2 n2 c2] rfl).alloc (g:=w.heap.size + 1) 58 #[.int .i64 W,.int .i64 H,.slice B m k,.int .i64 W1,.int .i64 H1,.slice B1 m1 k1,.int .i64 W2,.int .i64 H2,.slice B2 m2 k2] (by simp)
 have E0:=Lib.hid (And.intro HS0 (And.intro h (And.intro h1 h2)))
 clear HS0 h h1 h2
 go_enter Tryz.func59,Tryz.ntmps59
 go_wp2_with fail
 refine (fAlike' _ W H A B n c m k (both_quiet E0.out.2.1 E0.out.1.mod)).mono ?_
 rintro e w1 ⟨rfl,hm⟩
 have HS1:=Sat.after hm E0.out.1
 obtain ⟨pc,pf⟩:=(HS1.own_ 1 rfl).both
 obtain ⟨qc,qf⟩:=(HS1.own_ 0 rfl).both
 have E1:=Lib.hid HS1
 clear HS1 hm
 go_wp2_with fail
 refine (fAlike' _ W1 H1 A1 B1 n1 c1 m1 k1 (both_quiet E0.out.2.2.1 E1.out.mod)).mono ?_
 rintro e w2 ⟨rfl,hm⟩
 have HS2:=Sat.after hm E1.out
 clear pc pf qc qf
 obtain ⟨pc,pf⟩:=(HS2.own_ 1 rfl).both
 obtain ⟨qc,qf⟩:=(HS2.own_ 0 rfl).both
 have E2:=Lib.hid HS2
 clear HS2 hm
 go_wp2_with fail
 refine (fAlike' _ W2 H2 A2 B2 n2 c2 m2 k2 (both_quiet E0.out.2.2.2 E2.out.mod)).mono ?_
 rintro e w3 ⟨rfl,hm⟩
 have E3:=Lib.hid (E2.out.quiet hm).mod
 clear hm pc pf qc qf
 go_wp2_with fail
 go_ret
 exact ⟨rfl,E3.out⟩
theorem RowIn.bytes {w:World} {F:Nat → Prop} {v:Value} {n:Nat} {l:List UInt8} (h:RowIn w F 1 v n (u8s l)):∃ A c,v = .slice A n c ∧ BytesIn w A n c l:=by
 have hl:=h.len
 rw [u8s_length,Nat.mul_one] at hl
 obtain ⟨A,c,h1,h2,h3,h4,h5⟩:=h.ex
 exact ⟨A,c,h1,hl,h3,h4,fun h0 ad e=>(h5 ad e h0).1⟩
theorem fSameF (w:World) (F1 F2:Nat → Prop) (d:Dim) (f:Pix) (c1 c2:List Value) (h1:FrameF w F1 d f c1) (h2:FrameF w F2 d f c2) :
  Calls Tryz.prog 59 #[.agg c1.toArray,.agg c2.toArray] w fun e w'=>e = .returned (.bool true) ∧ Mod (fun _=>False) w w':=by
 obtain ⟨x0,x1,x2,rfl,a0,a1,a2⟩:=h1.ex
 obtain ⟨y0,y1,y2,rfl,b0,b1,b2⟩:=h2.ex
 obtain ⟨A0,k0,rfl,i0⟩:=a0.bytes
 obtain ⟨A1,k1,rfl,i1⟩:=a1.bytes
 obtain ⟨A2,k2,rfl,i2⟩:=a2.bytes
 obtain ⟨B0,m0,rfl,j0⟩:=b0.bytes
 obtain ⟨B1,m1,rfl,j1⟩:=b1.bytes
 obtain ⟨B2,m2,rfl,j2⟩:=b2.bytes
 exact fSame w d.W d.H d.W2 d.H2 d.W2 d.H2 A0 B0 A1 B1 A2 B2 d.nY k0 d.nY m0 d.nC k1 d.nC m1 d.nC k2 d.nC m2 ⟨_,i0,j0⟩ ⟨_,i1,j1⟩ ⟨_,i2,j2⟩
theorem FrameF.cells {w:World} {F:Nat → Prop} {d:Dim} {f:Pix} {c:List Value} (h:FrameF w F d f c):∃ x0 x1 x2 x3 x4 x5 x6 x7 x8,c = [x0,x1,x2,x3,x4,x5,x6,x7,x8]:=by
 obtain ⟨x0,x1,x2,rfl,_⟩:=h.ex
 exact ⟨_,_,_,_,_,_,_,_,_,rfl⟩
theorem cellqL' {w w':World} {b o:Nat} (hm:Mod (fun _=>False) w w') (hb:b < w.heap.size):w'.cell? ⟨b,o,none⟩ = w.cell? ⟨b,o,none⟩:=World.cell?_of_block (hm.block b hb (fun h=>h))
def TillRel (n:Nat) (w:World) (v:Value) (wr:World):Prop:=∃ k:Nat,k ≤ n ∧ v = .int .i64 (k:Int) ∧ Mod (fun _=>False) w wr
section
variable {w wr : World} {F : Nat → Prop} {v : Value} {l : List (List UInt8)} {d : Dim} {fs : List Pix}
theorem samps_quiet (h:ListIn w F 1 (SampR w F) v l) (hm:Mod (fun _=>False) w wr):ListIn wr F 1 (SampR wr F) v l:=
 h.turn hm (fun _ _ _ h=>h) (fun _ h _=>h) (fun _ _ _ k=>k.turn hm (fun _ _ _ h=>h) (fun _ h _=>h))
theorem frames_quiet (h:ListIn w F 9 (FrameF w F d) v fs) (hm:Mod (fun _=>False) w wr):ListIn wr F 9 (FrameF wr F d) v fs:=
 h.turn hm (fun _ _ _ h=>h) (fun _ h _=>h) (fun _ _ _ k=>k.turn hm (fun _ _ _ h=>h) (fun _ h _=>h))
end
theorem lSame15 (w:World) (F1 F2:Nat → Prop) (v1 v2:Value) (l:List (List UInt8)) (h1:ListIn w F1 1 (SampR w F1) v1 l) (h2:ListIn w F2 1 (SampR w F2) v2 l) (hl:l.length ≤ 9223372036854775807) :
  Calls Tryz.prog 19 #[v1,v2] w fun e w'=>e = .returned (.bool true) ∧ Mod (fun _=>False) w w':=by
 obtain ⟨A1,c1,rfl,_⟩:=h1.shape
 obtain ⟨A2,c2,rfl,_⟩:=h2.shape
 obtain ⟨n,hn⟩:∃ n,n = l.length:=⟨_,rfl⟩
 rw [← hn] at h1 h2 hl ⊢
 have H0:=Lib.hid (And.intro h1 (And.intro h2 hn))
 clear h1 h2 hn
 go_enter Tryz.func19,Tryz.ntmps19
 go_wp2_with fail
 go_loopw [5] (TillRel n w) (fun v _=>n - (intOf v).toNat)
 case atStart=>exact ⟨0,by omega,rfl,Mod.refl _ _⟩
 case round=>
  rename World=>wr
  obtain ⟨k,hk,rfl,hM⟩:=hrel
  by_cases hlt:k < n
  ·have d1:decide ((k:Int) < (n:Int)) = true:=decide_eq_true (by omega)
   obtain ⟨x,hx⟩:∃ x,l[k]? = some x:=⟨_,List.getElem?_eq_getElem (by rw [← H0.out.2.2];exact hlt)⟩
   obtain ⟨b1,o1,cp1,cc1,hv1,_,_,_,⟨u1,rfl,hs1⟩,_,hx1⟩:=(samps_quiet H0.out.1 hM).at_ hx (by decide)
   obtain ⟨b2,o2,cp2,cc2,hv2,_,_,_,⟨u2,rfl,hs2⟩,_,hx2⟩:=(samps_quiet H0.out.2.1 hM).at_ hx (by decide)
   injection hv1 with e1 e3 e1'
   injection hv2 with e2 e4 e2'
   clear e3 e4
   subst e1 e1' e2 e2'
   obtain ⟨U1,d1',rfl,_,hin1⟩:=hs1.in_
   obtain ⟨U2,d2',rfl,_,hin2⟩:=hs2.in_
   have k1:wr.cell? ⟨b1,o1 + k,none⟩ = some (.slice U1 x.length d1'):=by have:=hx1 0 _ rfl;rwa [Nat.mul_one,Nat.add_zero] at this
   have k2:wr.cell? ⟨b2,o2 + k,none⟩ = some (.slice U2 x.length d2'):=by have:=hx2 0 _ rfl;rwa [Nat.mul_one,Nat.add_zero] at this
   have s1:=str_src wr.drew U1 _ d1' x rfl (hin1.quiet ((Mod.refl _ wr).drew)).2.2.1
   have s2:=str_src wr.drew U2 _ d2' x rfl (hin2.quiet ((Mod.refl _ wr).drew)).2.2.1
   have H1:=Lib.hid hM
   clear hM hx hx1 hx2 hs1 hs2 hin1 hin2
   go_upto_region 6 with (fail)
   refine wp_region_plan [] [] [0,1,2,3,4,5,6,7,8,9,10] (by kernel_rfl) (by kernel_rfl) (fun _ _ _ d _ h=>by cases d <;> exact h) ?_
   (iterate 11 (refine plan_still rfl rfl (fun K hK=>?_);go_simp;refine hK _ ?_;clear hK K))
   refine plan_done ?_
   have H2:=Lib.hid (H1.out.drew)
   clear k1 k2 s1 s2
   go_wp2_with fail
   go_roundw
   case rel=>first | exact ⟨k + 1,by omega,by go_num,H2.out⟩ | ((repeat apply Exists.intro);exact ⟨⟨k + 1,by omega,by go_num,H2.out⟩,rfl⟩)
   case measure=>simp [intOf];omega
  ·obtain rfl:k = n:=by omega
   have d1:decide ((k:Int) < (k:Int)) = false:=decide_eq_false (by omega)
   have H1:=Lib.hid hM
   clear hM
   go_wp2_with fail
   go_ret
   exact ⟨rfl,H1.out⟩
theorem rSameAll (w:World) (F1 F2:Nat → Prop) (d:Dim) (v1 v2:Value) (l:List Pix) (h1:ListIn w F1 9 (FrameF w F1 d) v1 l) (h2:ListIn w F2 9 (FrameF w F2 d) v2 l) (hl:l.length ≤ 9223372036854775807) :
  Calls Tryz.prog 18 #[v1,v2] w fun e w'=>e = .returned (.bool true) ∧ Mod (fun _=>False) w w':=by
 obtain ⟨A1,c1,rfl,_⟩:=h1.shape
 obtain ⟨A2,c2,rfl,_⟩:=h2.shape
 obtain ⟨n,hn⟩:∃ n,n = l.length:=⟨_,rfl⟩
 rw [← hn] at h1 h2 hl ⊢
 have H0:=Lib.hid (And.intro h1 (And.intro h2 hn))
 clear h1 h2 hn
 go_enter Tryz.func18,Tryz.ntmps18
 go_wp2_with fail
 go_loopw [5] (TillRel n w) (fun v _=>n - (intOf v).toNat)
 case atStart=>exact ⟨0,by omega,rfl,Mod.refl _ _⟩
 case round=>
  rename World=>wr
  obtain ⟨k,hk,rfl,hM⟩:=hrel
  by_cases hlt:k < n
  ·have d1:decide ((k:Int) < (n:Int)) = true:=decide_eq_true (by omega)
   obtain ⟨x,hx⟩:∃ x,l[k]? = some x:=⟨_,List.getElem?_eq_getElem (by rw [← H0.out.2.2];exact hlt)⟩
   obtain ⟨b1,o1,cp1,cc1,hv1,_,_,_,hs1,_,hx1⟩:=(frames_quiet H0.out.1 hM).at_ hx (by decide)
   obtain ⟨b2,o2,cp2,cc2,hv2,_,_,_,hs2,_,hx2⟩:=(frames_quiet H0.out.2.1 hM).at_ hx (by decide)
   injection hv1 with e1 e3 e1'
   injection hv2 with e2 e4 e2'
   clear e3 e4
   subst e1 e1' e2 e2'
   have hcall:=fun w' (hm:Mod (fun _=>False) wr w')=>fSameF w' F1 F2 d x cc1 cc2 (hs1.turn hm (fun _ _ _ h=>h) (fun _ h _=>h)) (hs2.turn hm (fun _ _ _ h=>h) (fun _ h _=>h))
   obtain ⟨p0,p1,p2,p3,p4,p5,p6,p7,p8,rfl⟩:=hs1.cells
   obtain ⟨q0,q1,q2,q3,q4,q5,q6,q7,q8,rfl⟩:=hs2.cells
   have k0:=hx1 0 _ rfl
   have k1:=hx1 1 _ rfl
   have k2:=hx1 2 _ rfl
   have k3:=hx1 3 _ rfl
   have k4:=hx1 4 _ rfl
   have k5:=hx1 5 _ rfl
   have k6:=hx1 6 _ rfl
   have k7:=hx1 7 _ rfl
   have k8:=hx1 8 _ rfl
   have l0:=hx2 0 _ rfl
   have l1:=hx2 1 _ rfl
   have l2:=hx2 2 _ rfl
   have l3:=hx2 3 _ rfl
   have l4:=hx2 4 _ rfl
   have l5:=hx2 5 _ rfl
   have l6:=hx2 6 _ rfl
   have l7:=hx2 7 _ rfl
   have l8:=hx2 8 _ rfl
   rw [Nat.add_zero] at k0 l0
   have H1:=Lib.hid (And.intro hM hcall)
   clear hM hx hx1 hx2 hs1 hs2 hcall
   go_upto_region 6 with (fail)
   refine wp_region_plan [8] [] [0,1,2,3,4,5,6,7,8,9] (by kernel_rfl) (by kernel_rfl) (fun _ _ _ d _ h=>by cases d <;> exact h) ?_
   (iterate 8 (refine plan_still rfl rfl (fun K hK=>?_);go_simp;refine hK _ ?_;clear hK K))
   refine plan_loud rfl rfl (fun K hK=>?_)
   go_simp
   refine (H1.out.2 _ ((Mod.refl _ wr).drew)).mono ?_
   rintro e w2 ⟨rfl,hm2⟩
   have H2:=Lib.hid ((H1.out.1.drew).trans hm2)
   clear hm2 k0 k1 k2 k3 k4 k5 k6 k7 k8 l0 l1 l2 l3 l4 l5 l6 l7 l8
   dsimp only []
   refine hK _ _ ?_
   clear hK K
   refine plan_still rfl rfl (fun K hK=>?_);go_simp;refine hK _ ?_;clear hK K
   refine plan_done ?_
   go_wp2_with fail
   go_roundw
   case rel=>first | exact ⟨k + 1,by omega,by go_num,H2.out⟩ | ((repeat apply Exists.intro);exact ⟨⟨k + 1,by omega,by go_num,H2.out⟩,rfl⟩)
   case measure=>simp [intOf];omega
  ·obtain rfl:k = n:=by omega
   have d1:decide ((k:Int) < (k:Int)) = false:=decide_eq_false (by omega)
   have H1:=Lib.hid hM
   clear hM
   go_wp2_with fail
   go_ret
   exact ⟨rfl,H1.out⟩
theorem segs_quiet {w wr:World} {F:Nat → Prop} {d:Dim} {v:Value} {l:List (List (List UInt8 × Pix))} (h:ListIn w F 2 (SegR w F d) v l) (hm:Mod (fun _=>False) w wr):ListIn wr F 2 (SegR wr F d) v l:=
 h.turn hm (fun _ _ _ h=>h) (fun _ h _=>h) (fun _ _ _ k=>k.turn hm (fun _ _ _ h=>h) (fun _ h _=>h))
theorem made_one {w:World} {F:Nat → Prop} {v:Value} {m:MadeX} (h:MadesIn w F v [m]):∃ b o c A k,v = .slice (some ⟨b,o,none⟩) 1 c ∧ 1 ≤ c ∧ b < w.heap.size ∧ w.cell? ⟨b,o + 4,none⟩ = some (.int .i64 (m.d.W:Int)) ∧ w.cell? ⟨b,o + 5,none⟩ = some (.int .i64 (m.d.H:Int)) ∧ w.cell? ⟨b,o + 6,none⟩ = some (.int .i64 m.G) ∧
  w.cell? ⟨b,o + 7,none⟩ = some (.slice A m.segs.length k) ∧ ListIn w F 2 (SegR w F m.d) (.slice A m.segs.length k) m.segs:=by
 obtain ⟨b,o,c,cc,hv,hc,hb,_,⟨sv,rfl,hs⟩,_,hx⟩:=ListIn.at_ (i:=0) h rfl (by decide)
 obtain ⟨A,k,rfl,_⟩:=hs.shape
 have z4:=hx 4 _ rfl
 have z5:=hx 5 _ rfl
 have z6:=hx 6 _ rfl
 have z7:=hx 7 _ rfl
 rw [Nat.zero_mul,Nat.add_zero] at z4 z5 z6 z7
 exact ⟨b,o,c,A,k,hv,hc,hb,z4,z5,z6,z7,hs⟩
theorem lOne15 (w:World) (F1 F2:Nat → Prop) (v1 v2:Value) (m1 m2:MadeX) (h1:MadesIn w F1 v1 [m1]) (h2:MadesIn w F2 v2 [m2]) (hd:m2.d = m1.d) (hs:m2.segs = m1.segs) (hG:m2.G = m1.G)
  (hl:m1.segs.length ≤ 9223372036854775807) (hb:∀ s ∈ m1.segs,s.length ≤ 9223372036854775807) :
  Calls Tryz.prog 21 #[v1,v2] w fun e w'=>e = .returned (.bool true) ∧ Mod (fun _=>False) w w':=by
 obtain ⟨b1,o1,c1,A1,k1,rfl,hc1,hb1,p4,p5,p6,p7,hs1⟩:=made_one h1
 obtain ⟨b2,o2,c2,A2,k2,rfl,hc2,hb2,q4,q5,q6,q7,hs2⟩:=made_one h2
 rw [hd] at q4 q5 hs2
 rw [hG] at q6
 rw [hs] at q7 hs2
 obtain ⟨W,hW⟩:∃ W,W = (m1.d.W:Int):=⟨_,rfl⟩
 obtain ⟨H,hH⟩:∃ H,H = (m1.d.H:Int):=⟨_,rfl⟩
 obtain ⟨G,hGG⟩:∃ G,G = m1.G:=⟨_,rfl⟩
 obtain ⟨n,hn⟩:∃ n,n = m1.segs.length:=⟨_,rfl⟩
 rw [← hW] at p4 q4
 rw [← hH] at p5 q5
 rw [← hGG] at p6 q6
 rw [← hn] at p7 q7 hl hs1 hs2
 have H0:=Lib.hid (And.intro hs1 (And.intro hs2 (And.intro hn hb)))
 have HC:=Lib.hid (And.intro p7 (And.intro q7 (And.intro hb1 hb2)))
 clear hs1 hs2 hn hb hW hH hGG hd hs hG h1 h2
 go_enter Tryz.func21,Tryz.ntmps21
 go_upto_region 1 with (fail)
 go_quiet (fail)
 have hM0:=(Mod.refl (fun _=>False) w).drewN nq
 have HM0:=Lib.hid hM0
 clear hM0 p4 p5 p6 p7 q4 q5 q6 q7
 generalize w.drewN nq = w1 at *
 go_wp2_with fail
 go_loopw [5] (TillRel n w) (fun v _=>n - (intOf v).toNat)
 case atStart=>exact ⟨0,by omega,rfl,HM0.out⟩
 case round=>
  rename World=>wr
  obtain ⟨k,hk,rfl,hM⟩:=hrel
  have p7:=(cellqL' hM HC.out.2.2.1).trans HC.out.1
  have q7:=(cellqL' hM HC.out.2.2.2).trans HC.out.2.1
  by_cases hlt:k < n
  ·have d1:decide ((k:Int) < (n:Int)) = true:=decide_eq_true (by omega)
   obtain ⟨x,hx⟩:∃ x,m1.segs[k]? = some x:=⟨_,List.getElem?_eq_getElem (by rw [← H0.out.2.2.1];exact hlt)⟩
   have hxl:=H0.out.2.2.2 x (List.mem_of_getElem? hx)
   obtain ⟨b3,o3,cp1,cc1,hv1,_,hb3,_,⟨sv1,fv1,rfl,hsm1,hfr1⟩,_,hx1⟩:=(segs_quiet H0.out.1 hM).at_ hx (by decide)
   obtain ⟨b4,o4,cp2,cc2,hv2,_,hb4,_,⟨sv2,fv2,rfl,hsm2,hfr2⟩,_,hx2⟩:=(segs_quiet H0.out.2.1 hM).at_ hx (by decide)
   injection hv1 with e1 e3 e1'
   injection hv2 with e2 e4 e2'
   clear e3 e4
   subst e1 e1' e2 e2'
   have x0:=hx1 0 _ rfl
   have x1:=hx1 1 _ rfl
   have y0:=hx2 0 _ rfl
   have y1:=hx2 1 _ rfl
   rw [Nat.add_zero] at x0 y0
   have hcS:=fun w' (hm:Mod (fun _=>False) wr w')=>lSame15 w' F1 F2 sv1 sv2 _ (samps_quiet hsm1 hm) (samps_quiet hsm2 hm) (by rw [List.length_map];exact hxl)
   have hcF:=fun w' (hm:Mod (fun _=>False) wr w')=>rSameAll w' F1 F2 m1.d fv1 fv2 _ (frames_quiet hfr1 hm) (frames_quiet hfr2 hm) (by rw [List.length_map];exact hxl)
   have H1:=Lib.hid (And.intro hM (And.intro hcS (And.intro hcF (And.intro hb3 hb4))))
   have HX:=Lib.hid (And.intro p7 (And.intro q7 (And.intro x1 y1)))
   clear hM hx hx1 hx2 hsm1 hsm2 hfr1 hfr2 hcS hcF hb3 hb4 hxl
   go_upto_region 6 with (fail)
   refine wp_region_plan [16] [] [0,1,2,3,4,5,6,7,8,9,10,11,12,13,14,15,16,17] (by kernel_rfl) (by kernel_rfl) (fun _ _ _ d _ h=>by cases d <;> exact h) ?_
   (iterate 16 (refine plan_still rfl rfl (fun K hK=>?_);go_simp;refine hK _ ?_;clear hK K));refine plan_loud rfl rfl (fun K hK=>?_);go_simp
   refine (H1.out.2.1 _ ((Mod.refl _ wr).drew)).mono ?_
   rintro e w2 ⟨rfl,hm2⟩
   have hm2':=((Mod.refl (fun _=>False) wr).drew).trans hm2
   clear x0 y0 x1 y1 p7 q7
   have p7:=(cellqL' hm2' (World.block_lt_of_cell? _ _ HX.out.1)).trans HX.out.1
   have q7:=(cellqL' hm2' (World.block_lt_of_cell? _ _ HX.out.2.1)).trans HX.out.2.1
   have x1:=(cellqL' hm2' H1.out.2.2.2.1).trans HX.out.2.2.1
   have y1:=(cellqL' hm2' H1.out.2.2.2.2).trans HX.out.2.2.2
   have H2:=Lib.hid hm2'
   clear hm2 hm2'
   dsimp only []
   refine hK _ _ ?_
   clear hK K
   refine plan_still rfl rfl (fun K hK=>?_);go_simp;refine hK _ ?_;clear hK K
   refine plan_done ?_
   go_upto_region 7 with (fail)
   refine wp_region_plan [16] [] [0,1,2,3,4,5,6,7,8,9,10,11,12,13,14,15,16,17] (by kernel_rfl) (by kernel_rfl) (fun _ _ _ d _ h=>by cases d <;> exact h) ?_
   (iterate 16 (refine plan_still rfl rfl (fun K hK=>?_);go_simp;refine hK _ ?_;clear hK K));refine plan_loud rfl rfl (fun K hK=>?_);go_simp
   refine (H1.out.2.2.1 _ (H2.out.drew)).mono ?_
   rintro e w3 ⟨rfl,hm3⟩
   have H3:=Lib.hid (H1.out.1.trans ((H2.out.drew).trans hm3))
   clear hm3 x1 y1 p7 q7
   dsimp only []
   refine hK _ _ ?_
   clear hK K
   refine plan_still rfl rfl (fun K hK=>?_);go_simp;refine hK _ ?_;clear hK K
   refine plan_done ?_
   go_wp2_with fail
   go_roundw
   case rel=>first | exact ⟨k + 1,by omega,by go_num,H3.out⟩ | ((repeat apply Exists.intro);exact ⟨⟨k + 1,by omega,by go_num,H3.out⟩,rfl⟩)
   case measure=>simp [intOf];omega
  ·obtain rfl:k = n:=by omega
   have d1:decide ((k:Int) < (k:Int)) = false:=decide_eq_false (by omega)
   have H1:=Lib.hid hM
   clear hM
   go_wp2_with fail
   go_ret
   exact ⟨rfl,H1.out⟩
end Go.Proofs.YthednemlahioeaaGreatDoor

namespace Go.Proofs.YthednemlahioeaaGreatDoor
set_option maxRecDepth 100000
set_option maxHeartbeats 8000000
theorem downs_down (d:Dim) (f:Pix) (n:Nat):d.downs (n + 1) = d.down.downs n ∧ downsPix d f (n + 1) = downsPix d.down (downPix d f) n:=by
 induction n with
 | zero=>exact ⟨rfl,rfl⟩
 | succ n ih=>
  refine ⟨?_,?_⟩
  ·show (d.downs (n + 1)).down = (d.down.downs n).down
   rw [ih.1]
  ·show downPix (d.downs (n + 1)) (downsPix d f (n + 1)) = downPix (d.down.downs n) (downsPix d.down (downPix d f) n)
   rw [ih.1,ih.2]
theorem halved_less (W:Int) (n:Nat):halved W ((n:Int) + 1) = halved (W / 2) (n:Int):=by
 unfold halved
 have e1:((n:Int) + 1).toNat = n + 1:=by omega
 have e2:(n:Int).toNat = n:=by omega
 rw [e1,e2,Nat.pow_succ,Nat.mul_comm,Int.natCast_mul,← Int.ediv_ediv_of_nonneg (by omega)]
 rfl
theorem rungB_less (W H G:Int) (r:Rg) (hd:1 ≤ r.down) (hd3:r.down ≤ 3) (hW:W % 2 = 0) (hH:H % 2 = 0):rungB W H G r = rungB (W / 2) (H / 2) G { r with down:=r.down - 1 }:=by
 obtain ⟨nm,dn,q,tg⟩:=r
 dsimp only at hd hd3 ⊢
 obtain ⟨n,rfl⟩:∃ n:Nat,dn = (n:Int) + 1:=⟨(dn - 1).toNat,by omega⟩
 unfold rungB rungArgsB
 dsimp only
 rw [show (n:Int) + 1 - 1 = (n:Int) from by omega,halved_less W,halved_less H]
 have e1:((n:Int) + 1).toNat = n + 1:=by omega
 have e2:(n:Int).toNat = n:=by omega
 rw [e1,e2]
 have c1:decide (0 ≤ (n:Int) + 1 ∧ (n:Int) + 1 ≤ 3 ∧ 0 ≤ q ∧ q ≤ 31 ∧ 0 ≤ tg ∧ tg ≤ 1048576) = decide (0 ≤ (n:Int) ∧ (n:Int) ≤ 3 ∧ 0 ≤ q ∧ q ≤ 31 ∧ 0 ≤ tg ∧ tg ≤ 1048576):=by
  rw [decide_eq_decide]
  omega
 have key:∀ x y:Int,y % 2 = 0 → (x * ((2 ^ (n + 1):Nat):Int) = y ↔ x * ((2 ^ n:Nat):Int) = y / 2):=fun x y hy=>by
  rw [Nat.pow_succ,Int.natCast_mul,← Int.mul_assoc]
  generalize x * ((2 ^ n:Nat):Int) = z
  have:((2:Nat):Int) = 2:=rfl
  rw [this]
  omega
 rw [c1,decide_eq_decide.2 (key _ W hW),decide_eq_decide.2 (key _ H hH)]
end Go.Proofs.YthednemlahioeaaGreatDoor
