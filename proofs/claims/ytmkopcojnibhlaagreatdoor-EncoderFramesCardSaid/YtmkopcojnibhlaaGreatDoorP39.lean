/-
  The reference's encoder: Frame of a frame that is not the sequence's.
-/
import Derived.Test.YtmkopcojnibhlaaGreatDoorP37
import Derived.Test.YtmkopcojnibhlaaGreatDoorP22
import Derived.Test.YtmkopcojnibhlaaGreatDoorP38
import Derived.Test.YtmkopcojnibhlaaGreatDoorP23
import Derived.Test.YtmkopcojnibhlaaGreatDoorP0
import Derived.Test.YtmkopcojnibhlaaGreatDoorP10
import Derived.Test.YtmkopcojnibhlaaGreatDoorP9
import Derived.ProofKit
import Derived.OpenShut
import Derived.Lib.SmallJoins
import Derived.Test.YtmkopcojnibhlaaGreatDoorRows
import Derived.Laws.IdiomArrays
import Derived.Deep.Slices
import Derived.Deep.Strs
import Derived.ChangeArms
import Derived.ShutString
import Derived.ChangeOld
import Derived.JoinedCond
import Derived.Lib.LaidIn
import Derived.Lib.LaidTab
import Derived.Deep.DeepWitnessRowRef
import Derived.Deep.DeepHandedRow
import Derived.MakeChecks
import Derived.FnData
namespace Go.Proofs.YtmkopcojnibhlaaGreatDoor
open Go.RowKit
set_option maxRecDepth 100000
set_option maxHeartbeats 8000000
theorem reFrame_bad (w:World) (g:Nat) (W H G q tg nu:Int) (al:List Value) (hx:Blk w g 46 (rencV W H G q tg nu al)) (X0 Y0 X1 Y1 X2 Y2:Int) (A0 A1 A2:Option Addr) (n0 c0 n1 c1 n2 c2:Nat)
  (hbad:(wholeI X0 Y0 n0 X1 Y1 n1 X2 Y2 n2 && (decide (X0 = W) && decide (Y0 = H))) = false) :
  Calls Tryz.prog 17 #[.pointer (some ⟨g,0,none⟩),.agg #[.int .i64 X0,.int .i64 Y0,.slice A0 n0 c0,.int .i64 X1,.int .i64 Y1,.slice A1 n1 c1,.int .i64 X2,.int .i64 Y2,.slice A2 n2 c2]] w fun e w'=>e = NoFr 61 ∧ Mod (fun _=>False) w w':=by
 have hcase:wholeI X0 Y0 n0 X1 Y1 n1 X2 Y2 n2 = false ∨ (wholeI X0 Y0 n0 X1 Y1 n1 X2 Y2 n2 = true ∧ X0 ≠ W) ∨ (wholeI X0 Y0 n0 X1 Y1 n1 X2 Y2 n2 = true ∧ X0 = W ∧ Y0 ≠ H):=by
  cases hw:wholeI X0 Y0 n0 X1 Y1 n1 X2 Y2 n2 with
  | false=>exact .inl rfl
  | true=>
   rw [hw] at hbad
   simp only [Bool.true_and,Bool.and_eq_false_iff,decide_eq_false_iff_not] at hbad
   by_cases e:X0 = W
   ·rcases hbad with h | h
    ·exact absurd e h
    ·exact .inr (.inr ⟨rfl,e,h⟩)
   ·exact .inr (.inl ⟨rfl,e⟩)
 clear hbad
 obtain ⟨b,hb⟩:∃ b,b = wholeI X0 Y0 n0 X1 Y1 n1 X2 Y2 n2:=⟨_,rfl⟩
 rw [← hb] at hcase
 have h0:=((Sat.one (fun _=>False) hx).alloc 40 #[.int .i64 X0,.int .i64 Y0,.slice A0 n0 c0,.int .i64 X1,.int .i64 Y1,.slice A1 n1 c1,.int .i64 X2,.int .i64 Y2,.slice A2 n2 c2] rfl).alloc (g:=w.heap.size + 1) 40 #[.int .i64 0,.int .i64 0,.slice none 0 0,.int .i64 0,.int .i64 0,.slice none 0 0,.int .i64 0,.int .i64 0,.slice none 0 0] (by simp)
 have hxl:=hx.lt
 have HB:=Lib.hid hb
 have HS0:=Lib.hid h0
 clear hb h0 hx
 go_enter Tryz.func17,Tryz.ntmps17
 go_upto_region 1 with (fail)
 have hS1:=HS0.out
 generalize ((w.alloc (.cells #[.int .i64 X0,.int .i64 Y0,.slice A0 n0 c0,.int .i64 X1,.int .i64 Y1,.slice A1 n1 c1,.int .i64 X2,.int .i64 Y2,.slice A2 n2 c2] 40)).alloc (.cells #[.int .i64 0,.int .i64 0,.slice none 0 0,.int .i64 0,.int .i64 0,.slice none 0 0,.int .i64 0,.int .i64 0,.slice none 0 0] 40)) = w1 at hS1 ⊢
 have hq:=hS1.own_ 1 rfl
 dsimp only at hq
 obtain ⟨f0,ff⟩:=hq.both
 have fl:=hq.lt
 clear hq
 have HS1:=Lib.hid hS1
 clear hS1 HS0
 go_wp2_with fail
 refine (reWhole _ X0 Y0 X1 Y1 X2 Y2 A0 A1 A2 n0 c0 n1 c1 n2 c2).mono ?_
 rintro e w2 ⟨rfl,hm2⟩
 rw [← HB.out]
 have hS2:=HS1.out.quiet hm2
 clear f0 ff fl hm2 HS1
 go_upto_region 2 with (fail)
 have hS3:=hS2.drew
 have hq:=hS2.own_ 1 rfl
 dsimp only at hq
 have f0:=hq.cell 0
 have f1:=hq.cell 1
 have hg:=hS2.old_ 0 rfl
 dsimp only at hg
 have s0:w2.cell? ⟨g,0,none⟩ = some (.int .i64 W):=hg.cell 0
 have s1:w2.cell? ⟨g,1,none⟩ = some (.int .i64 H):=hg.cell 1
 have fw:w2.cell? ⟨w.heap.size,0,none⟩ = some (.int .i64 X0):=f0
 have fh:w2.cell? ⟨w.heap.size,1,none⟩ = some (.int .i64 Y0):=f1
 have hq1:=hS2.own_ 0 rfl
 dsimp only at hq1
 obtain ⟨z0,zf⟩:=hq1.both
 have zl:=hq1.lt
 have zl':w.heap.size + 1 < w2.heap.size:=zl
 have HS2:=Lib.hid (And.intro hS2 hq1)
 clear hS2 hS3 f0 f1 hq hq1 hg zl
 rcases hcase with rfl | ⟨rfl,h1⟩ | ⟨rfl,h1,h2⟩
 ·clear hxl
  go_quiet (fail)
  have hq9:Blk (w2.drewN nq) (w.heap.size + 1) 40 #[.int .i64 0,.int .i64 0,.slice none 0 0,.int .i64 0,.int .i64 0,.slice none 0 0,.int .i64 0,.int .i64 0,.slice none 0 0]:=Blk.keep HS2.out.2 (Mod.drewN (Mod.refl (fun _=>False) w2) nq) (fun h=>h)
  have hm9:=HS2.out.1.mod.drewN nq
  clear z0 zf zl' fw fh s0 s1 HS2
  generalize w2.drewN nq = w9 at *
  obtain ⟨z0,zf⟩:=hq9.both
  have zl:w.heap.size + 1 < w9.heap.size:=hq9.lt
  have H9:=Lib.hid (And.intro hm9 hq9)
  clear hm9 hq9
  go_wp2_with fail
  have h9:=fr_lay9 H9.out.2 (.int .i64 0) (.int .i64 0) (.slice none 0 0) (.int .i64 0) (.int .i64 0) (.slice none 0 0) (.int .i64 0) (.int .i64 0) (.slice none 0 0)
  refine bodyPost_ret (v:=.tuple #[.slice none 0 0,.agg noFrame.toArray,.int .i64 61]) (by simp [results,Tryz.results17,go_sem,z0,noFrame]) rfl ⟨rfl,H9.out.1.into h9.2 (fun i e=>.inr (by omega))⟩
 ·have t1:(X0 != W) = true:=by simpa using h1
  have HH:=Lib.hid h1
  clear h1
  go_quiet (fail)
  have hq9:Blk (w2.drewN nq) (w.heap.size + 1) 40 #[.int .i64 0,.int .i64 0,.slice none 0 0,.int .i64 0,.int .i64 0,.slice none 0 0,.int .i64 0,.int .i64 0,.slice none 0 0]:=Blk.keep HS2.out.2 (Mod.drewN (Mod.refl (fun _=>False) w2) nq) (fun h=>h)
  have hm9:=HS2.out.1.mod.drewN nq
  clear z0 zf zl' fw fh s0 s1 HS2
  generalize w2.drewN nq = w9 at *
  obtain ⟨z0,zf⟩:=hq9.both
  have zl:w.heap.size + 1 < w9.heap.size:=hq9.lt
  have H9:=Lib.hid (And.intro hm9 hq9)
  clear hm9 hq9
  go_wp2_with fail
  have h9:=fr_lay9 H9.out.2 (.int .i64 0) (.int .i64 0) (.slice none 0 0) (.int .i64 0) (.int .i64 0) (.slice none 0 0) (.int .i64 0) (.int .i64 0) (.slice none 0 0)
  refine bodyPost_ret (v:=.tuple #[.slice none 0 0,.agg noFrame.toArray,.int .i64 61]) (by simp [results,Tryz.results17,go_sem,z0,noFrame]) rfl ⟨rfl,H9.out.1.into h9.2 (fun i e=>.inr (by omega))⟩
 ·have t1:(X0 != W) = false:=by simpa using h1
  have t2:(Y0 != H) = true:=by simpa using h2
  have HH:=Lib.hid (And.intro h1 h2)
  clear h1 h2
  go_quiet (fail)
  have hq9:Blk (w2.drewN nq) (w.heap.size + 1) 40 #[.int .i64 0,.int .i64 0,.slice none 0 0,.int .i64 0,.int .i64 0,.slice none 0 0,.int .i64 0,.int .i64 0,.slice none 0 0]:=Blk.keep HS2.out.2 (Mod.drewN (Mod.refl (fun _=>False) w2) nq) (fun h=>h)
  have hm9:=HS2.out.1.mod.drewN nq
  clear z0 zf zl' fw fh s0 s1 HS2
  generalize w2.drewN nq = w9 at *
  obtain ⟨z0,zf⟩:=hq9.both
  have zl:w.heap.size + 1 < w9.heap.size:=hq9.lt
  have H9:=Lib.hid (And.intro hm9 hq9)
  clear hm9 hq9
  go_wp2_with fail
  have h9:=fr_lay9 H9.out.2 (.int .i64 0) (.int .i64 0) (.slice none 0 0) (.int .i64 0) (.int .i64 0) (.slice none 0 0) (.int .i64 0) (.int .i64 0) (.slice none 0 0)
  refine bodyPost_ret (v:=.tuple #[.slice none 0 0,.agg noFrame.toArray,.int .i64 61]) (by simp [results,Tryz.results17,go_sem,z0,noFrame]) rfl ⟨rfl,H9.out.1.into h9.2 (fun i e=>.inr (by omega))⟩
def REncAt (w:World) (m:Nat) (d:Dim) (G q tg nu:Nat) (ahd:Pix):Prop:=
 ∃ al,al.length = 9 ∧ Blk w m 46 (rencV (d.W:Int) (d.H:Int) (G:Int) (q:Int) (tg:Int) (nu:Int) al) ∧ (nu ≠ 0 → ∃ B b0 k0 b1 k1 b2 k2,al = frV d b0 k0 b1 k1 b2 k2 ∧ FrB w B d b0 k0 b1 k1 b2 k2 ahd)
theorem REncAt.mod {w w':World} {S:Nat → Prop} {m:Nat} {d:Dim} {G q tg nu:Nat} {ahd:Pix} (h:REncAt w m d G q tg nu ahd) (hm:Mod S w w') (hg:¬ S m) (hS:∀ j,S j → w.heap.size ≤ j ∨ ∃ t cs,Blk w j t cs ∧ t ≠ 5):REncAt w' m d G q tg nu ahd:=by
 obtain ⟨al,hl,hb,hc⟩:=h
 refine ⟨al,hl,hb.keep hm hg,fun hn=>?_⟩
 obtain ⟨B,b0,k0,b1,k1,b2,k2,h1,h2⟩:=hc hn
 exact ⟨B,b0,k0,b1,k1,b2,k2,h1,h2.mod hm hS⟩
theorem REncAt.quiet {w w':World} {m:Nat} {d:Dim} {G q tg nu:Nat} {ahd:Pix} (h:REncAt w m d G q tg nu ahd) (hm:Mod (fun _=>False) w w'):REncAt w' m d G q tg nu ahd:=h.mod hm (fun h=>h) (fun _ h=>h.elim)
theorem FrX.whole {f:FrX} {d:Dim} (hd:d.Ok) (h:f.goodB d = true):wholeI d.W d.H d.nY d.W2 d.H2 d.nC d.W2 d.H2 d.nC = true:=by
 obtain ⟨hc,h0,h1,h2⟩:=FrX.good hd h
 unfold FrX.goodB at h
 rw [Bool.and_eq_true] at h
 have hw:=h.1
 unfold FrX.cells flV at hc
 simp only [List.cons.injEq,Value.int.injEq,Value.slice.injEq,true_and,and_true] at hc
 obtain ⟨a1,a2,_,a3,a4,_,a5,a6,_⟩:=hc
 rw [a1,a2,a3,a4,a5,a6,h0,h1,h2] at hw
 exact hw
def REncPost (w:World) (m:Nat) (d:Dim) (G q tg nu:Nat) (ahd:Pix) (f:FrX) (e:Ending) (w':World):Prop:=
 (f.goodB d = false ∧ e = NoFr 61 ∧ Mod (fun _=>False) w w') ∨
 (f.goodB d = true ∧ ∃ v e0 j0 e1 j1 e2 j2,e = .returned (.tuple #[v,.agg (frV d e0 j0 e1 j1 e2 j2).toArray,.int .i64 0]) ∧ Bytes w' w.heap.size v (eframe d f.pix ahd nu q).1 ∧ FrB w' w.heap.size d e0 j0 e1 j1 e2 j2 (eframe d f.pix ahd nu q).2 ∧
  REncAt w' m d G (newQ q tg G (eframe d f.pix ahd nu q).1.length) tg (newN nu G) (eframe d f.pix ahd nu q).2 ∧ Mod (· = m) w w')
theorem reFrameAt {w:World} {m:Nat} {d:Dim} {G q tg nu:Nat} {ahd:Pix} (h:REncAt w m d G q tg nu ahd) (hd:d.Ok) (hW:d.W ≤ 64) (hH:d.H ≤ 64) (hG:1 ≤ G ∧ G ≤ 64) (hsr:seqRight (d.W:Int) (d.H:Int) (G:Int) = true) (hq:q ≤ 31) (ht:tg ≤ 1048576) (hnu:nu < G) (f:FrX) (hf:f.In w) :
  Calls Tryz.prog 17 #[.pointer (some ⟨m,0,none⟩),.agg f.cells.toArray] w (REncPost w m d G q tg nu ahd f):=by
 obtain ⟨al,hal,hb,hc⟩:=h
 cases hgd:f.goodB d with
 | false=>exact (reFrame_bad w m _ _ _ _ _ _ al hb f.W0 f.H0 f.W1 f.H1 f.W2 f.H2 f.A0 f.A1 f.A2 f.n0 f.c0 f.n1 f.c1 f.n2 f.c2 hgd).mono (fun e w' k=>.inl ⟨hgd,k⟩)
 | true=>
  obtain ⟨hcl,_,_,_⟩:=FrX.good hd hgd
  have hfi:=FrX.frIn hd hgd hf
  rw [hcl]
  refine (reFrame w m G q tg nu hG hq ht hnu d hd hW hH hsr al hal hb ahd hc f.A0 f.A1 f.A2 f.c0 f.c1 f.c2 f.pix hfi (FrX.whole hd hgd)).mono ?_
  rintro e w' ⟨v,e0,j0,e1,j1,e2,j2,he,h1,h2,h3,h4⟩
  exact .inr ⟨hgd,v,e0,j0,e1,j1,e2,j2,he,h1,h2,⟨_,rfl,h3,fun _=>⟨_,_,_,_,_,_,_,rfl,h2⟩⟩,h4⟩
theorem fAlike (w:World) (W H:Int) (A B:Option Addr) (n c m k:Nat) (l:List UInt8) (ha:BytesIn w A n c l) (hb:BytesIn w B m k l) :
  Calls Tryz.prog 61 #[.agg #[.int .i64 W,.int .i64 H,.slice A n c],.agg #[.int .i64 W,.int .i64 H,.slice B m k]] w fun e w'=>e = .returned (.bool true) ∧ Mod (fun _=>False) w w':=by
 have M:=(((Mod.refl (fun _=>False) w).alloc (.cells #[.int .i64 W,.int .i64 H,.slice A n c] 38)).alloc (.cells #[.int .i64 W,.int .i64 H,.slice B m k] 38))
 have ha':=ha.quiet M
 have hb':=hb.quiet M
 have s1:=str_src _ A n c l ha'.1 ha'.2.2.1
 have s2:=str_src _ B m k l hb'.1 hb'.2.2.1
 have HM:=Lib.hid M
 clear M ha' hb' ha hb
 go_enter Tryz.func61,Tryz.ntmps61
 go_wp2_with fail
 go_ret
 exact ⟨rfl,HM.out⟩
theorem fAlike' (w:World) (W H:Int) (A B:Option Addr) (n c m k:Nat) (h:∃ l,BytesIn w A n c l ∧ BytesIn w B m k l) :
  Calls Tryz.prog 61 #[.agg #[.int .i64 W,.int .i64 H,.slice A n c],.agg #[.int .i64 W,.int .i64 H,.slice B m k]] w fun e w'=>e = .returned (.bool true) ∧ Mod (fun _=>False) w w':=by
 obtain ⟨l,h1,h2⟩:=h
 exact fAlike w W H A B n c m k l h1 h2
theorem fSame (w:World) (W H W1 H1 W2 H2:Int) (A B A1 B1 A2 B2:Option Addr) (n c m k n1 c1 m1 k1 n2 c2 m2 k2:Nat)
  (h:∃ l,BytesIn w A n c l ∧ BytesIn w B m k l) (h1:∃ l,BytesIn w A1 n1 c1 l ∧ BytesIn w B1 m1 k1 l) (h2:∃ l,BytesIn w A2 n2 c2 l ∧ BytesIn w B2 m2 k2 l) :
  Calls Tryz.prog 18 #[.agg #[.int .i64 W,.int .i64 H,.slice A n c,.int .i64 W1,.int .i64 H1,.slice A1 n1 c1,.int .i64 W2,.int .i64 H2,.slice A2 n2 c2],.agg #[.int .i64 W,.int .i64 H,.slice B m k,.int .i64 W1,.int .i64 H1,.slice B1 m1 k1,.int .i64 W2,.int .i64 H2,.slice B2 m2 k2]] w fun e w'=>e = .returned (.bool true) ∧ Mod (fun _=>False) w w':=by
 have HS0:=((Sat.nil (fun _=>False) w).alloc 40 #[.int .i64 W,.int .i64 H,.slice A n c,.int .i64 W1,.int .i64 H1,.slice A1 n1 c1,.int .i64 W2,.int .i64 H2,.slice A2 n2 c2] rfl).alloc (g:=w.heap.size + 1) 40 #[.int .i64 W,.int .i64 H,.slice B m k,.int .i64 W1,.int .i64 H1,.slice B1 m1 k1,.int .i64 W2,.int .i64 H2,.slice B2 m2 k2] (by simp)
 have E0:=Lib.hid (And.intro HS0 (And.intro h (And.intro h1 h2)))
 clear HS0 h h1 h2
 go_enter Tryz.func18,Tryz.ntmps18
 go_wp2_with fail
 refine (fAlike' _ W H A B n c m k (both_quiet E0.out.2.1 E0.out.1.mod)).mono ?_
 rintro e w1 ⟨rfl,hm⟩
 have HS1:=Sat.after hm E0.out.1
 obtain ⟨pc,pf⟩:=(HS1.own_ 1 rfl).both
 obtain ⟨qc,qf⟩:=(HS1.own_ 0 rfl).both
 have E1:=Lib.hid HS1
 clear HS1 hm
 go_wp2_with fail
 refine (fAlike' _ W1 H1 A1 B1 n1 c1 m1 k1 (both_quiet E0.out.2.2.1 E1.out.mod)).mono ?_
 rintro e w2 ⟨rfl,hm⟩
 have HS2:=Sat.after hm E1.out
 clear pc pf qc qf
 obtain ⟨pc,pf⟩:=(HS2.own_ 1 rfl).both
 obtain ⟨qc,qf⟩:=(HS2.own_ 0 rfl).both
 have E2:=Lib.hid HS2
 clear HS2 hm
 go_wp2_with fail
 refine (fAlike' _ W2 H2 A2 B2 n2 c2 m2 k2 (both_quiet E0.out.2.2.2 E2.out.mod)).mono ?_
 rintro e w3 ⟨rfl,hm⟩
 have E3:=Lib.hid (E2.out.quiet hm).mod
 clear hm pc pf qc qf
 go_wp2_with fail
 go_ret
 exact ⟨rfl,E3.out⟩
structure FrmK (w0 wr:World) (d:Dim) (G tg g m q nu:Nat) (ahd:Pix):Prop where
 e:EncAt wr g d G q tg nu ahd
 r:REncAt wr m d G q tg nu ahd
 q_:q ≤ 31
 nu_:nu < G
 mod:Mod (fun _=>False) w0 wr
theorem FrmK.quiet {w0 wr w':World} {d:Dim} {G tg g m q nu:Nat} {ahd:Pix} (h:FrmK w0 wr d G tg g m q nu ahd) (hm:Mod (fun _=>False) wr w'):FrmK w0 w' d G tg g m q nu ahd:=⟨h.e.quiet hm,h.r.quiet hm,h.q_,h.nu_,h.mod.trans hm⟩
def FrmRel (w0:World) (d:Dim) (G tg g m n1:Nat) (v13:Value) (wr:World):Prop:=
 ∃ (k q nu:Nat) (ahd:Pix),k ≤ n1 ∧ v13 = .int .i64 (k:Int) ∧ FrmK w0 wr d G tg g m q nu ahd
theorem EncAt.blk {w:World} {g:Nat} {d:Dim} {G q tg nu:Nat} {ahd:Pix} (h:EncAt w g d G q tg nu ahd):∃ cs,Blk w g 92 cs:=by
 obtain ⟨_,hb,_⟩:=h
 exact ⟨_,hb⟩
theorem REncAt.blk {w:World} {g:Nat} {d:Dim} {G q tg nu:Nat} {ahd:Pix} (h:REncAt w g d G q tg nu ahd):∃ cs,Blk w g 46 cs ∧ cs[3]? = some (.int .i64 (q:Int)) ∧ cs[5]? = some (.int .i64 (nu:Int)):=by
 obtain ⟨_,_,hb,_⟩:=h
 exact ⟨_,hb,rfl,rfl⟩
theorem encoderFrames_walk (w:World) (he:EnvP w) (W H G0 a b:Int) (A:Option Addr) (n1 c1:Nat) (fs:List FrX) (hin:FrsIn w A n1 fs) (hn1:n1 ≤ 9223372036854775807) :
  Calls Tryz.prog 3 #[.agg #[.int .i64 W,.int .i64 H,.int .i64 G0],.agg #[.int .i64 a,.int .i64 b],.slice A n1 c1] w fun e w'=>e = .returned (.bool true) ∧ Mod (fun _=>False) w w':=by
 have hs:=((Sat.nil (fun _=>False) w).alloc 23 #[.int .i64 W,.int .i64 H,.int .i64 G0] rfl).alloc (g:=w.heap.size + 1) 24 #[.int .i64 a,.int .i64 b] (by simp)
 have H0:=Lib.hid (And.intro hs (And.intro he hin))
 clear hs he hin
 go_enter Tryz.func3,Tryz.ntmps3
 go_wp2_with fail
 refine (lFits14 _ A n1 c1 fs (H0.out.2.2.quiet H0.out.1.mod) hn1).mono ?_
 rintro e w1 ⟨b7,rfl,hb7,hm1⟩
 have hs1:=Sat.after hm1 H0.out.1
 have hq:=hs1.own_ 1 rfl
 dsimp only at hq
 obtain ⟨sc,sf⟩:=hq.both
 have sl:=hq.lt
 have H1:=Lib.hid (And.intro hs1 hb7)
 clear hm1 hs1 hq hb7
 go_wp2_with fail
 refine (lSmall14 _ W H G0).mono ?_
 rintro e w2 ⟨b8,rfl,hb8,hm2⟩
 have hs2:=H1.out.1.quiet hm2
 clear sc sf sl
 have hq:=hs2.own_ 1 rfl
 dsimp only at hq
 obtain ⟨sc,sf⟩:=hq.both
 have sl:=hq.lt
 have hq4:=hs2.own_ 0 rfl
 dsimp only at hq4
 obtain ⟨tc,tf⟩:=hq4.both
 have tl:=hq4.lt
 have t0:w2.cell? ⟨w.heap.size + 1,0,none⟩ = some (.int .i64 a):=tc 0
 have t1:w2.cell? ⟨w.heap.size + 1,1,none⟩ = some (.int .i64 b):=tc 1
 have H2:=Lib.hid (And.intro hs2 (And.intro H1.out.2 hb8))
 clear hm2 hs2 hq hq4 hb8 H1 tc
 have hb3:(b7 = true ∧ b8 = true) ∨ b7 = false ∨ (b7 = true ∧ b8 = false):=by cases b7 <;> cases b8 <;> simp
 rcases hb3 with ⟨rfl,rfl⟩ | hb3
 ·go_wp2_with fail
  refine (encNew' _ W H G0 a b).mono ?_
  rintro e w3 ⟨hm3,hcase⟩
  have hs3:=H2.out.1.quiet hm3
  clear sc sf sl t0 t1 tf tl
  have hq:=hs3.own_ 1 rfl
  dsimp only at hq
  obtain ⟨sc,sf⟩:=hq.both
  have sl:=hq.lt
  have hq4:=hs3.own_ 0 rfl
  dsimp only at hq4
  obtain ⟨tc,tf⟩:=hq4.both
  have t0:w3.cell? ⟨w.heap.size + 1,0,none⟩ = some (.int .i64 a):=tc 0
  have t1:w3.cell? ⟨w.heap.size + 1,1,none⟩ = some (.int .i64 b):=tc 1
  have HS3:=Lib.hid (And.intro hs3 hm3)
  have HRN:=Lib.hid (reNew14 w3 W H G0 a b)
  clear hs3 hm3 hq hq4 tc tf
  rcases hcase with ⟨hr,rfl⟩ | ⟨hr,ha,rfl⟩ | ⟨d,G,q,tg,g,hr,ha,hd,rfl,rfl,rfl,hG,rfl,hq31,rfl,ht,rfl,hE,hg⟩
  ·go_wp2_with fail
   refine HRN.out.mono ?_
   rintro e w4 ⟨hm4,hc4⟩
   have hM4:=HS3.out.1.mod.trans hm4
   rcases hc4 with ⟨_,rfl⟩ | ⟨h1,_⟩ | ⟨_,h1,_⟩
   ·have H4:=Lib.hid hM4
    clear hM4 hm4 sc sf sl t0 t1
    go_wp2_with fail
    refine (alive14 _ (H0.out.2.1.quiet H4.out)).mono ?_
    rintro e w5 ⟨rfl,hm5⟩
    have H5:=Lib.hid (H4.out.trans hm5)
    clear hm5
    go_wp2_with fail
    go_ret
    exact ⟨rfl,H5.out⟩
   ·exact absurd (h1.symm.trans hr) (by decide)
   ·exact absurd (h1.symm.trans hr) (by decide)
  ·go_wp2_with fail
   refine HRN.out.mono ?_
   rintro e w4 ⟨hm4,hc4⟩
   have hM4:=HS3.out.1.mod.trans hm4
   rcases hc4 with ⟨h1,_⟩ | ⟨_,_,rfl⟩ | ⟨_,_,h1,_⟩
   ·exact absurd (h1.symm.trans hr) (by decide)
   ·have H4:=Lib.hid hM4
    clear hM4 hm4 sc sf sl t0 t1
    go_wp2_with fail
    refine (alive14 _ (H0.out.2.1.quiet H4.out)).mono ?_
    rintro e w5 ⟨rfl,hm5⟩
    have H5:=Lib.hid (H4.out.trans hm5)
    clear hm5
    go_wp2_with fail
    go_ret
    exact ⟨rfl,H5.out⟩
   ·exact absurd (h1.symm.trans ha) (by decide)
  ·have hgw:w.heap.size ≤ g:=Nat.le_trans H2.out.1.mod.size hg
   have hg2:w2.heap.size ≤ g:=hg
   have hW32:=(H2.out.2.2 (by trivial) hr)
   have hW64:d.W ≤ 64:=by omega
   have hH64:d.H ≤ 64:=by omega
   have H3:=Lib.hid (And.intro hd (And.intro hG (And.intro hE (And.intro hr ha))))
   clear hW32 hd hG hE hr ha hg
   go_wp2_with fail
   refine HRN.out.mono ?_
   rintro e w4 ⟨hm4,hc4⟩
   rcases hc4 with ⟨h1,_⟩ | ⟨_,h1,_⟩ | ⟨m,_,_,rfl,hbm,hlm⟩
   ·exact absurd (h1.symm.trans H3.out.2.2.2.1) (by decide)
   ·exact absurd (h1.symm.trans H3.out.2.2.2.2) (by decide)
   have hmw:w.heap.size ≤ m:=Nat.le_trans HS3.out.1.mod.size hlm
   have hm2:w2.heap.size ≤ m:=Nat.le_trans HS3.out.2.size hlm
   have hRE:∀ ahd,REncAt w4 m d G q tg 0 ahd:=fun _=>⟨zeroFr,rfl,hbm,fun h=>absurd rfl h⟩
   have H4:=Lib.hid (And.intro (HS3.out.2.trans hm4) (And.intro (fun ahd=>(H3.out.2.2.1 ahd).quiet hm4:∀ ahd,EncAt w4 g d G q tg 0 ahd) hRE))
   have HN:=Lib.hid (And.intro H3.out.1 (And.intro H3.out.2.1 H3.out.2.2.2.1))
   clear hm4 hbm hlm hRE H3 HRN HS3 sc sf sl t0 t1
   go_wp2_with fail
   go_loopw [13] (FrmRel w2 d G tg g m n1) (fun i _=>n1 - (intOf i).toNat)
   case atStart=>exact ⟨0,q,0,noPix,by omega,rfl,H4.out.2.1 _,H4.out.2.2 _,hq31,by have:=HN.out.2.1;omega,H4.out.1⟩
   case round=>
    clear hq31 H4
    obtain ⟨k,q,nu,ahd,hk,rfl,hK⟩:=hrel
    rename World=>wr
    by_cases hlt:k < n1
    ·have hMM:=H2.out.1.mod.trans hK.mod
     obtain ⟨bb,o,hA,hbw,hcells,hfi⟩:=(H0.out.2.2.quiet hMM).at_ k hlt
     subst hA
     have d1:decide ((k:Int) < (n1:Int)) = true:=decide_eq_true (by omega)
     have n1':k < n1:=hlt
     obtain ⟨f,hf⟩:∃ f,f = fs.getD k FrX.zero:=⟨_,rfl⟩
     rw [← hf] at hcells hfi
     have k0:wr.cell? ⟨bb,o + k * 9,none⟩ = some (.int .i64 f.W0):=hcells 0 _ rfl
     have k1:=hcells 1 _ rfl
     have k2:=hcells 2 _ rfl
     have k3:=hcells 3 _ rfl
     have k4:=hcells 4 _ rfl
     have k5:=hcells 5 _ rfl
     have k6:=hcells 6 _ rfl
     have k7:=hcells 7 _ rfl
     have k8:=hcells 8 _ rfl
     have hFC:=encFrameAt hK.e (H0.out.2.1.quiet hMM) HN.out.1 hW64 hH64 HN.out.2.1 hK.q_ ht hK.nu_ f hfi
     unfold FrX.cells at hFC
     have HFC:=Lib.hid hFC
     have HK:=Lib.hid (And.intro hK (And.intro hMM hf))
     clear hcells hfi hf hFC hK hMM hbw
     go_wp2_with fail
     refine HFC.out.mono ?_
     clear HFC
     rintro e w5 (⟨hgd,rfl,hm5⟩ | ⟨hgd,v,p,rfl,hB,⟨p0,p1,p2,rfl,hfp,_⟩,hE5,hm5⟩)
     ·clear k0 k1 k2 k3 k4 k5 k6 k7 k8
      unfold NoFr noFrame
      go_upto_region 13 with (fail)
      have hma:Mod (fun _=>False) w5 (w5.alloc (.cells #[.int .i64 0,.int .i64 0,.slice none 0 0,.int .i64 0,.int .i64 0,.slice none 0 0,.int .i64 0,.int .i64 0,.slice none 0 0] 40)):=(Mod.refl _ w5).alloc _
      have hpb:=Blk.new w5 40 #[.int .i64 0,.int .i64 0,.slice none 0 0,.int .i64 0,.int .i64 0,.slice none 0 0,.int .i64 0,.int .i64 0,.slice none 0 0]
      obtain ⟨pb,epb⟩:∃ b,b = w5.heap.size:=⟨_,rfl⟩
      rw [← epb] at hpb ⊢
      clear epb
      have hM6:=hm5.trans hma
      generalize w5.alloc (.cells #[.int .i64 0,.int .i64 0,.slice none 0 0,.int .i64 0,.int .i64 0,.slice none 0 0,.int .i64 0,.int .i64 0,.slice none 0 0] 40) = w6 at *
      have hMM6:=HK.out.2.1.trans hM6
      obtain ⟨bb',o',hA',hbw,hcells,hfi⟩:=(H0.out.2.2.quiet hMM6).at_ k hlt
      injection hA' with hA'
      injection hA' with e1' e2'
      subst e1' e2'
      rw [← HK.out.2.2] at hcells hfi
      have k0:w6.cell? ⟨bb,o + k * 9,none⟩ = some (.int .i64 f.W0):=hcells 0 _ rfl
      have k1:=hcells 1 _ rfl
      have k2:=hcells 2 _ rfl
      have k3:=hcells 3 _ rfl
      have k4:=hcells 4 _ rfl
      have k5:=hcells 5 _ rfl
      have k6:=hcells 6 _ rfl
      have k7:=hcells 7 _ rfl
      have k8:=hcells 8 _ rfl
      have hRF:=reFrameAt (HK.out.1.r.quiet hM6) HN.out.1 hW64 hH64 HN.out.2.1 HN.out.2.2 HK.out.1.q_ ht HK.out.1.nu_ f hfi
      unfold FrX.cells at hRF
      have HRF:=Lib.hid hRF
      have H6:=Lib.hid (And.intro (HK.out.1.quiet hM6) (And.intro hpb hgd))
      clear hbw hcells hfi hRF hMM6 hM6 hma hpb hm5 hgd
      go_wp2_with fail
      refine HRF.out.mono ?_
      clear HRF
      rintro e w7 (⟨_,rfl,hm7⟩ | ⟨h1,_⟩)
      ·clear k0 k1 k2 k3 k4 k5 k6 k7 k8
       unfold NoFr noFrame
       go_upto_region 14 with (fail)
       have hmb:Mod (fun _=>False) w7 (w7.alloc (.cells #[.int .i64 0,.int .i64 0,.slice none 0 0,.int .i64 0,.int .i64 0,.slice none 0 0,.int .i64 0,.int .i64 0,.slice none 0 0] 40)):=(Mod.refl _ w7).alloc _
       have hrb:=Blk.new w7 40 #[.int .i64 0,.int .i64 0,.slice none 0 0,.int .i64 0,.int .i64 0,.slice none 0 0,.int .i64 0,.int .i64 0,.slice none 0 0]
       obtain ⟨rb,erb⟩:∃ b,b = w7.heap.size:=⟨_,rfl⟩
       rw [← erb] at hrb ⊢
       clear erb
       have hM8:=hm7.trans hmb
       generalize w7.alloc (.cells #[.int .i64 0,.int .i64 0,.slice none 0 0,.int .i64 0,.int .i64 0,.slice none 0 0,.int .i64 0,.int .i64 0,.slice none 0 0] 40) = w8 at *
       have hpb:=H6.out.2.1.keep hM8 (fun h=>h)
       obtain ⟨pc,pf⟩:=hpb.both
       obtain ⟨rc,rf⟩:=hrb.both
       have hSM:=fSame w8 0 0 0 0 0 0 none none none none none none 0 0 0 0 0 0 0 0 0 0 0 0 ⟨[],bytes_none _,bytes_none _⟩ ⟨[],bytes_none _,bytes_none _⟩ ⟨[],bytes_none _,bytes_none _⟩
       have HSM:=Lib.hid hSM
       obtain ⟨A5,hA5⟩:∃ A:Option Addr,A = none:=⟨_,rfl⟩
       obtain ⟨L,hL⟩:∃ L:List UInt8,L = []:=⟨_,rfl⟩
       have H8:Hid (FrmK w2 w8 d G tg g m q nu ahd ∧ BytesIn w8 none 0 0 [] ∧ BytesIn w8 none 0 0 []):=⟨H6.out.1.quiet hM8,bytes_none _,bytes_none _⟩
       clear hSM hpb hrb hmb hM8 hm7 hA5 hL A5 L H6
       go_wp2_with fail
       refine HSM.out.mono ?_
       rintro e w9 ⟨rfl,hm9⟩
       have hK9:=H8.out.1.quiet hm9
       have hb1:=H8.out.2.1.quiet hm9
       have hb2:=H8.out.2.2.quiet hm9
       have hq9:=hK9.q_
       have hn9:=hK9.nu_
       obtain ⟨mcs,hmb,hm3,hm5⟩:=hK9.r.blk
       have c3:w9.cell? ⟨m,3,none⟩ = some (.int .i64 (q:Int)):=(hmb.cell 3).trans hm3
       have c5:w9.cell? ⟨m,5,none⟩ = some (.int .i64 (nu:Int)):=(hmb.cell 5).trans hm5
       have s1:∀ n,(convert 36 9 (.slice none 0 0)).run Tryz.prog (w9.drewN n) = .ok (.string (strOf [])) (w9.drewN n):=fun n=>str_src _ none 0 0 [] hb1.1 ((hb1.quiet (Mod.drewN (Mod.refl (fun _=>False) w9) n)).2.2.1)
       have s2:∀ n,(convert 36 9 (.slice none 0 0)).run Tryz.prog (w9.drewN n) = .ok (.string (strOf [])) (w9.drewN n):=fun n=>str_src _ none 0 0 [] hb2.1 ((hb2.quiet (Mod.drewN (Mod.refl (fun _=>False) w9) n)).2.2.1)
       have qe:∀ n,Calls Tryz.prog 19 #[.pointer (some ⟨g,0,none⟩)] (w9.drewN n) fun e w'=>e = .returned (.int .i64 (q:Int)) ∧ w' = w9.drewN n:=fun n=>((hK9.quiet (Mod.drewN (Mod.refl (fun _=>False) w9) n)).e.q).mono (fun _ _ h=>⟨h.1,h.2.symm⟩)
       have ne:∀ n,Calls Tryz.prog 20 #[.pointer (some ⟨g,0,none⟩)] (w9.drewN n) fun e w'=>e = .returned (.int .i64 (nu:Int)) ∧ w' = w9.drewN n:=fun n=>((hK9.quiet (Mod.drewN (Mod.refl (fun _=>False) w9) n)).e.number).mono (fun _ _ h=>⟨h.1,h.2.symm⟩)
       have HK9:=Lib.hid hK9
       have HQE:=Lib.hid (And.intro qe ne)
       clear hK9 hb1 hb2 hmb hm3 hm5 hm9 qe ne H8 HSM
       go_upto_region 15 with (fail)
       go_quiet (first | (go_at_call 19;exact Calls.quiet_of_same (HQE.out.1 _)) | (go_at_call 20;exact Calls.quiet_of_same (HQE.out.2 _)))
       have hK10:=HK9.out.quiet (Mod.drewN (Mod.refl (fun _=>False) w9) nq)
       have H10:=Lib.hid hK10
       clear hK10 s1 s2 c3 c5 HK9 HQE
       generalize w9.drewN nq = w10 at *
       go_wp2_with fail
       go_roundw
       case rel=>exact ⟨k + 1,q,nu,ahd,by omega,by go_num,H10.out⟩
       case measure=>simp [intOf];omega
      ·exact absurd (h1.symm.trans H6.out.2.2) (by decide)
     ·obtain ⟨R,hR⟩:∃ R,R = eframe d f.pix ahd nu q:=⟨_,rfl⟩
      rw [← hR] at hB hfp hE5
      have hbd:=newQ_bd (tg:=tg) (G:=G) (n:=R.1.length) HK.out.1.q_
      have hnb:=newN_lt (nu:=nu) HN.out.2.1.1
      have hRE5:REncAt w5 m d G q tg nu ahd:=by
       obtain ⟨ecs,heb⟩:=HK.out.1.e.blk
       obtain ⟨rcs,hrb,_,_⟩:=HK.out.1.r.blk
       exact HK.out.1.r.mod hm5 (fun e=>hrb.ne_ heb (by decide) e) (fun j e=>.inr ⟨92,ecs,(by have e2:j = g:=e;exact e2 ▸ heb),by decide⟩)
      have hM5:Mod (fun _=>False) w2 w5:=HK.out.1.mod.into hm5 (fun j e=>.inr (by have e2:j = g:=e;omega))
      obtain ⟨A5,c5',rfl⟩:=own_shape hB
      have HRR:=Lib.hid (And.intro hR (And.intro hbd.1 hnb))
      have H5:=Lib.hid (And.intro hE5 (And.intro hRE5 (And.intro hM5 (And.intro hB (And.intro hfp hgd)))))
      clear k0 k1 k2 k3 k4 k5 k6 k7 k8 hR hB hfp hE5 hbd hnb hRE5 hM5 hm5 hgd
      obtain ⟨q9,hq9⟩:∃ q9,q9 = newQ q tg G R.1.length:=⟨_,rfl⟩
      obtain ⟨nu9,hnu9⟩:∃ n,n = newN nu G:=⟨_,rfl⟩
      obtain ⟨m5,hm5⟩:∃ n,n = R.1.length:=⟨_,rfl⟩
      rw [← hm5]
      have HQN:=Lib.hid (And.intro hq9 (And.intro hnu9 hm5))
      clear hq9 hnu9 hm5
      unfold frameV
      go_upto_region 13 with (fail)
      have hma:Mod (fun _=>False) w5 (w5.alloc (.cells #[.int .i64 (d.W:Int),.int .i64 (d.H:Int),.slice (some ⟨p0,0,none⟩) d.nY d.nY,.int .i64 (d.W2:Int),.int .i64 (d.H2:Int),.slice (some ⟨p1,0,none⟩) d.nC d.nC,.int .i64 (d.W2:Int),.int .i64 (d.H2:Int),.slice (some ⟨p2,0,none⟩) d.nC d.nC] 40)):=(Mod.refl _ w5).alloc _
      have hpb:=Blk.new w5 40 #[.int .i64 (d.W:Int),.int .i64 (d.H:Int),.slice (some ⟨p0,0,none⟩) d.nY d.nY,.int .i64 (d.W2:Int),.int .i64 (d.H2:Int),.slice (some ⟨p1,0,none⟩) d.nC d.nC,.int .i64 (d.W2:Int),.int .i64 (d.H2:Int),.slice (some ⟨p2,0,none⟩) d.nC d.nC]
      obtain ⟨pb,epb⟩:∃ b,b = w5.heap.size:=⟨_,rfl⟩
      rw [← epb] at hpb ⊢
      clear epb
      generalize w5.alloc (.cells #[.int .i64 (d.W:Int),.int .i64 (d.H:Int),.slice (some ⟨p0,0,none⟩) d.nY d.nY,.int .i64 (d.W2:Int),.int .i64 (d.H2:Int),.slice (some ⟨p1,0,none⟩) d.nC d.nC,.int .i64 (d.W2:Int),.int .i64 (d.H2:Int),.slice (some ⟨p2,0,none⟩) d.nC d.nC] 40) = w6 at *
      have hMM6:=H2.out.1.mod.trans (H5.out.2.2.1.trans hma)
      obtain ⟨bb',o',hA',hbw,hcells,hfi⟩:=(H0.out.2.2.quiet hMM6).at_ k hlt
      injection hA' with hA'
      injection hA' with e1' e2'
      subst e1' e2'
      rw [← HK.out.2.2] at hcells hfi
      have k0:w6.cell? ⟨bb,o + k * 9,none⟩ = some (.int .i64 f.W0):=hcells 0 _ rfl
      have k1:=hcells 1 _ rfl
      have k2:=hcells 2 _ rfl
      have k3:=hcells 3 _ rfl
      have k4:=hcells 4 _ rfl
      have k5:=hcells 5 _ rfl
      have k6:=hcells 6 _ rfl
      have k7:=hcells 7 _ rfl
      have k8:=hcells 8 _ rfl
      have hRF:=reFrameAt (H5.out.2.1.quiet hma) HN.out.1 hW64 hH64 HN.out.2.1 HN.out.2.2 HK.out.1.q_ ht HK.out.1.nu_ f hfi
      unfold FrX.cells at hRF
      have HRF:=Lib.hid hRF
      have H6:=Lib.hid (And.intro (H5.out.1.quiet hma) (And.intro (H5.out.2.1.quiet hma) (And.intro (H5.out.2.2.1.trans hma) (And.intro (H5.out.2.2.2.1.quiet hma) (And.intro (H5.out.2.2.2.2.1.quiet hma) (And.intro hpb H5.out.2.2.2.2.2))))))
      clear hbw hcells hfi hRF hMM6 hma hpb H5
      go_wp2_with fail
      refine HRF.out.mono ?_
      clear HRF
      rintro e w7 (⟨h1,_,_⟩ | ⟨_,v7,e0,j0,e1,j1,e2,j2,rfl,hB7,hf7,hR7,hm7⟩)
      ·exact absurd (h1.symm.trans H6.out.2.2.2.2.2.2) (by decide)
      ·clear k0 k1 k2 k3 k4 k5 k6 k7 k8
       rw [← HRR.out.1] at hB7 hf7 hR7
       rw [← HQN.out.1,← HQN.out.2.1] at hR7
       obtain ⟨A7,c7',rfl⟩:=own_shape hB7
       rw [← HQN.out.2.2] at hB7 ⊢
       obtain ⟨rcs,hrbm,_,_⟩:=H6.out.2.1.blk
       obtain ⟨ecs,hebg⟩:=H6.out.1.blk
       have hE7:EncAt w7 g d G q9 tg nu9 R.2:=by
        have h:=H6.out.1
        rw [← HQN.out.1,← HQN.out.2.1] at h
        exact h.mod hm7 (fun e=>hebg.ne_ hrbm (by decide) e) (fun j e=>⟨46,rcs,(by have e2:j = m:=e;exact e2 ▸ hrbm),by decide⟩)
       have hb5:=H6.out.2.2.2.1.mod hm7 (fun j e hj=>H6.out.2.2.2.1.apart hrbm (by decide) (by have e2:j = m:=hj;rw [← e2];exact e))
       have hp7:=H6.out.2.2.2.2.2.1.keep hm7 (fun e=>H6.out.2.2.2.2.2.1.ne_ hrbm (by decide) e)
       have hfp7:=H6.out.2.2.2.2.1.mod hm7 (fun e=>H6.out.2.2.2.2.1.by_.ne_ hrbm (by decide) e) (fun e=>H6.out.2.2.2.2.1.bu.ne_ hrbm (by decide) e) (fun e=>H6.out.2.2.2.2.1.bv.ne_ hrbm (by decide) e)
       have hM7:Mod (fun _=>False) w2 w7:=H6.out.2.2.1.into hm7 (fun j e=>.inr (by have e2:j = m:=e;omega))
       have hK7:FrmK w2 w7 d G tg g m q9 nu9 R.2:=⟨hE7,hR7,by rw [HQN.out.1];exact HRR.out.2.1,by rw [HQN.out.2.1];exact HRR.out.2.2,hM7⟩
       have H7:=Lib.hid (And.intro hK7 (And.intro hb5 (And.intro hp7 (And.intro hfp7 (And.intro hB7 hf7)))))
       clear hE7 hb5 hp7 hfp7 hM7 hK7 hrbm hebg hB7 hf7 hR7 hm7 H6
       unfold frV
       go_upto_region 14 with (fail)
       have hmb:Mod (fun _=>False) w7 (w7.alloc (.cells #[.int .i64 (d.W:Int),.int .i64 (d.H:Int),.slice (some ⟨e0,0,none⟩) d.nY j0,.int .i64 (d.W2:Int),.int .i64 (d.H2:Int),.slice (some ⟨e1,0,none⟩) d.nC j1,.int .i64 (d.W2:Int),.int .i64 (d.H2:Int),.slice (some ⟨e2,0,none⟩) d.nC j2] 40)):=(Mod.refl _ w7).alloc _
       have hrb:=Blk.new w7 40 #[.int .i64 (d.W:Int),.int .i64 (d.H:Int),.slice (some ⟨e0,0,none⟩) d.nY j0,.int .i64 (d.W2:Int),.int .i64 (d.H2:Int),.slice (some ⟨e1,0,none⟩) d.nC j1,.int .i64 (d.W2:Int),.int .i64 (d.H2:Int),.slice (some ⟨e2,0,none⟩) d.nC j2]
       obtain ⟨rb,erb⟩:∃ b,b = w7.heap.size:=⟨_,rfl⟩
       rw [← erb] at hrb ⊢
       clear erb
       generalize w7.alloc (.cells #[.int .i64 (d.W:Int),.int .i64 (d.H:Int),.slice (some ⟨e0,0,none⟩) d.nY j0,.int .i64 (d.W2:Int),.int .i64 (d.H2:Int),.slice (some ⟨e1,0,none⟩) d.nC j1,.int .i64 (d.W2:Int),.int .i64 (d.H2:Int),.slice (some ⟨e2,0,none⟩) d.nC j2] 40) = w8 at *
       have hpb:=H7.out.2.2.1.keep hmb (fun h=>h)
       obtain ⟨pc,pf⟩:=hpb.both
       obtain ⟨rc,rf⟩:=hrb.both
       have hfp:=H7.out.2.2.2.1.quiet hmb
       have hfr:=H7.out.2.2.2.2.2.quiet hmb
       obtain ⟨z1,z2,z3⟩:d.nY ≤ 16777216 ∧ d.nC ≤ 16777216 ∧ True:=by
        have h1:=area_le HN.out.1.sides
        have h2:=area_le HN.out.1.half
        rw [HN.out.1.ny,HN.out.1.nc]
        exact ⟨h1.1,h2.1,trivial⟩
       have hSM:=fSame w8 (d.W:Int) (d.H:Int) (d.W2:Int) (d.H2:Int) (d.W2:Int) (d.H2:Int) (some ⟨p0,0,none⟩) (some ⟨e0,0,none⟩) (some ⟨p1,0,none⟩) (some ⟨e1,0,none⟩) (some ⟨p2,0,none⟩) (some ⟨e2,0,none⟩) d.nY d.nY d.nY j0 d.nC d.nC d.nC j1 d.nC d.nC d.nC j2 ⟨R.2.Y,blkIn hfp.by_ hfp.ly z1,hfr.y.in_n hfr.ly⟩ ⟨R.2.U,blkIn hfp.bu hfp.lu z2,hfr.u.in_n hfr.lu⟩ ⟨R.2.V,blkIn hfp.bv hfp.lv z2,hfr.v.in_n hfr.lv⟩
       have HSM:=Lib.hid hSM
       obtain ⟨ahd9,hah⟩:∃ a,a = R.2:=⟨_,rfl⟩
       obtain ⟨L,hL⟩:∃ L,L = R.1:=⟨_,rfl⟩
       have hb1:BytesIn w8 A5 m5 c5' L:=by
        have h:=(H7.out.2.1.quiet hmb).in_
        rw [← HQN.out.2.2,← hL] at h
        exact h
       have hb2:BytesIn w8 A7 m5 c7' L:=by
        have h:=(H7.out.2.2.2.2.1.quiet hmb).in_
        rw [← hL] at h
        exact h
       have hK8:=H7.out.1.quiet hmb
       rw [← hah] at hK8
       have H8:=Lib.hid (And.intro hK8 (And.intro hb1 hb2))
       clear hSM hpb hrb hmb hfp hfr z1 z2 z3 hah hL hb1 hb2 hK8 H7
       go_wp2_with fail
       refine HSM.out.mono ?_
       rintro e w9 ⟨rfl,hm9⟩
       have hK9:=H8.out.1.quiet hm9
       have hb1:=H8.out.2.1.quiet hm9
       have hb2:=H8.out.2.2.quiet hm9
       have hq9:=hK9.q_
       have hn9:=hK9.nu_
       obtain ⟨mcs,hmb,hm3,hm5⟩:=hK9.r.blk
       have c3:w9.cell? ⟨m,3,none⟩ = some (.int .i64 (q9:Int)):=(hmb.cell 3).trans hm3
       have c5:w9.cell? ⟨m,5,none⟩ = some (.int .i64 (nu9:Int)):=(hmb.cell 5).trans hm5
       have s1:∀ n,(convert 36 9 (.slice A5 m5 c5')).run Tryz.prog (w9.drewN n) = .ok (.string (strOf L)) (w9.drewN n):=fun n=>str_src _ A5 m5 c5' L hb1.1 ((hb1.quiet (Mod.drewN (Mod.refl (fun _=>False) w9) n)).2.2.1)
       have s2:∀ n,(convert 36 9 (.slice A7 m5 c7')).run Tryz.prog (w9.drewN n) = .ok (.string (strOf L)) (w9.drewN n):=fun n=>str_src _ A7 m5 c7' L hb2.1 ((hb2.quiet (Mod.drewN (Mod.refl (fun _=>False) w9) n)).2.2.1)
       have qe:∀ n,Calls Tryz.prog 19 #[.pointer (some ⟨g,0,none⟩)] (w9.drewN n) fun e w'=>e = .returned (.int .i64 (q9:Int)) ∧ w' = w9.drewN n:=fun n=>((hK9.quiet (Mod.drewN (Mod.refl (fun _=>False) w9) n)).e.q).mono (fun _ _ h=>⟨h.1,h.2.symm⟩)
       have ne:∀ n,Calls Tryz.prog 20 #[.pointer (some ⟨g,0,none⟩)] (w9.drewN n) fun e w'=>e = .returned (.int .i64 (nu9:Int)) ∧ w' = w9.drewN n:=fun n=>((hK9.quiet (Mod.drewN (Mod.refl (fun _=>False) w9) n)).e.number).mono (fun _ _ h=>⟨h.1,h.2.symm⟩)
       have HK9:=Lib.hid hK9
       have HQE:=Lib.hid (And.intro qe ne)
       clear hK9 hb1 hb2 hmb hm3 hm5 hm9 qe ne H8 HSM
       go_upto_region 15 with (fail)
       go_quiet (first | (go_at_call 19;exact Calls.quiet_of_same (HQE.out.1 _)) | (go_at_call 20;exact Calls.quiet_of_same (HQE.out.2 _)))
       have hK10:=HK9.out.quiet (Mod.drewN (Mod.refl (fun _=>False) w9) nq)
       have H10:=Lib.hid hK10
       clear hK10 s1 s2 c3 c5 HK9 HQE
       generalize w9.drewN nq = w10 at *
       go_wp2_with fail
       go_roundw
       case rel=>exact ⟨k + 1,q9,nu9,ahd9,by omega,by go_num,H10.out⟩
       case measure=>simp [intOf];omega
    ·obtain rfl:k = n1:=by omega
     have d1:decide ((k:Int) < (k:Int)) = false:=decide_eq_false (by omega)
     have HL:=Lib.hid (H2.out.1.mod.trans hK.mod)
     clear hK
     go_wp2_with fail
     refine (alive14 _ (H0.out.2.1.quiet HL.out)).mono ?_
     rintro e w4 ⟨rfl,hm4⟩
     have H4:=Lib.hid (HL.out.trans hm4)
     clear hm4
     go_wp2_with fail
     go_ret
     exact ⟨rfl,H4.out⟩
 ·rcases hb3 with rfl | ⟨rfl,rfl⟩
  all_goals
   go_wp2_with fail
   refine (alive14 _ (H0.out.2.1.quiet H2.out.1.mod)).mono ?_
   rintro e w4 ⟨rfl,hm4⟩
   have H4:=Lib.hid (H2.out.1.mod.trans hm4)
   clear hm4
   go_wp2_with fail
   go_ret
   exact ⟨rfl,H4.out⟩
end Go.Proofs.YtmkopcojnibhlaaGreatDoor

namespace Go.Proofs.YtmkopcojnibhlaaGreatDoor
open Go.RowKit Go.ChangeShapes Go.WideShapes Go.ChangeAt Go.Joins
set_option maxRecDepth 100000
set_option maxHeartbeats 8000000
section
variable {H : Type} {enc : TypeId × Value → H} {w : World} {base : Nat} {held : Bool}
theorem u8_back (zs:List Int) (h:∀ n ∈ zs,(Lit.int .u8 n).wf = true):u8s (zs.map fun n=>UInt8.ofNat n.toNat) = zs.map (Value.int .u8):=by
 unfold u8s
 rw [List.map_map]
 refine List.map_congr_left fun n hn=>?_
 have hb:=bounds_u8 (h n hn)
 have e:((UInt8.ofNat n.toNat).toNat:Int) = n:=by
  rw [UInt8.toNat_ofNat',Nat.mod_eq_of_lt (by omega)]
  omega
 simp only [Function.comp,e]
theorem bytes_form {fuel:Nat} {v:Value} {x:DataW H × List MemPlace} (h:DataW.trod enc Tryz.prog w base (fun _=>true) held fuel 36 [v] = some x) :
  ∃ (A:Option Addr) (n c:Nat) (l:List UInt8),v = .slice A n c ∧ n ≤ maxLen ∧ BytesIn w A n c l:=by
 rcases open_ints Tryz.underlying36 Tryz.underlying5 (by kernel_rfl) h with ⟨hcs,_⟩ | ⟨a,n,c,zs,hcs,_,hl,hm,hz,_,hcell,hwz⟩
 ·injection hcs with hcs
  exact ⟨none,0,0,[],hcs,by decide,rfl,fun _=>rfl,Src.nil,fun h0=>absurd h0 (by omega)⟩
 ·injection hcs with hcs
  have hz':zs.length = c:=by simpa using hz
  have hb:=u8_back (zs.take n) (fun m hm=>hwz m (List.mem_of_mem_take hm))
  refine ⟨some a,n,c,(zs.take n).map fun m=>UInt8.ofNat m.toNat,hcs,by omega,?_,(fun h=>by cases h),?_,fun h0 ad e=>?_⟩
  ·simp;omega
  ·rw [hb]
   refine ⟨by simp;omega,(fun h=>by cases h),fun ad e j u hu=>?_⟩
   injection e with e
   subst e
   have hj:j < n:=by
    have:=(List.getElem?_eq_some_iff.1 hu).1
    simp at this
    omega
   have:=hcell j (by omega)
   rw [this,← hu]
   simp [List.getD_eq_getElem?_getD,hj,show j < zs.length by omega]
  ·injection e with e
   subst e
   have:=World.block_lt_of_cell? w _ (hcell 0 (by omega))
   rwa [addr_block] at this
theorem bytes_cap {fuel:Nat} {A:Option Addr} {n c:Nat} {x:DataW H × List MemPlace} (h:DataW.trod enc Tryz.prog w base (fun _=>true) held fuel 36 [.slice A n c] = some x):n ≤ c:=by
 rcases open_ints Tryz.underlying36 Tryz.underlying5 (by kernel_rfl) h with ⟨hcs,_⟩ | ⟨a,n',c',zs,hcs,_,hl,_⟩
 ·injection hcs with hcs
  injection hcs with _ e2 e3
  omega
 ·injection hcs with hcs
  injection hcs with _ e2 e3
  omega
end
end Go.Proofs.YtmkopcojnibhlaaGreatDoor
namespace Go.Proofs.YtmkopcojnibhlaaGreatDoor
open Go.RowKit Go.ChangeShapes Go.WideShapes Go.ChangeAt Go.Joins Go.Deep
set_option maxRecDepth 100000
set_option maxHeartbeats 8000000
section
variable {H : Type} {enc : TypeId × Value → H} {w : World} {base : Nat} {held : Bool}
theorem cellsIN:Tryz.prog.cellsOf 3 = 1:=by kernel_rfl
theorem cellsBS:Tryz.prog.cellsOf 36 = 1:=by kernel_rfl
theorem cellsPL:Tryz.prog.cellsOf 38 = 3:=by kernel_rfl
theorem cellsFRT:Tryz.prog.cellsOf 40 = 9:=by kernel_rfl
theorem cellsSQT:Tryz.prog.cellsOf 23 = 3:=by kernel_rfl
theorem int_form {fuel:Nat} {v:Value} {x:DataW H × List MemPlace} (h:DataW.trod enc Tryz.prog w base (fun _=>true) held fuel 3 [v] = some x):∃ n,v = .int .i64 n ∧ -9223372036854775808 ≤ n ∧ n ≤ 9223372036854775807:=by
 obtain ⟨n,e,_,hw⟩:=DataW.trod_int Tryz.underlying3 h
 injection e with e
 exact ⟨n,e,bounds_i64 hw⟩
theorem pl_form {fuel:Nat} {cs:List Value} {x:DataW H × List MemPlace} (h:DataW.trod enc Tryz.prog w base (fun _=>true) held fuel 38 cs = some x) :
  ∃ (W Y:Int) (A:Option Addr) (n c:Nat) (l:List UInt8),cs = [.int .i64 W,.int .i64 Y,.slice A n c] ∧ BytesIn w A n c l ∧ n ≤ c ∧ n ≤ 9223372036854775807:=by
 obtain ⟨y0,y1,y2,n,_,hl,h0,h1,h2⟩:=trod_struct3 Tryz.underlying38 h
 rw [cellsPL] at hl
 rw [cellsIN] at h0 h1
 rw [cellsBS] at h2
 match cs,hl with
 | [a,b,c],_=>
  obtain ⟨x0,rfl,_⟩:=int_form h0
  obtain ⟨x1,rfl,_⟩:=int_form h1
  obtain ⟨A,n,k,l,rfl,hn,hin⟩:=bytes_form h2
  exact ⟨x0,x1,A,n,k,l,rfl,hin,bytes_cap h2,by unfold maxLen at hn;omega⟩
theorem fr_form {fuel:Nat} {cs:List Value} {x:DataW H × List MemPlace} (h:DataW.trod enc Tryz.prog w base (fun _=>true) held fuel 40 cs = some x):∃ f:FrX,f.In w ∧ cs = f.cells:=by
 obtain ⟨y0,y1,y2,n,_,hl,h0,h1,h2⟩:=trod_struct3 Tryz.underlying40 h
 rw [cellsFRT] at hl
 rw [cellsPL] at h0 h1 h2
 match cs,hl with
 | [a0,a1,a2,a3,a4,a5,a6,a7,a8],_=>
  obtain ⟨W0,Y0,A0,n0,c0,l0,e0,b0,k0,m0⟩:=pl_form h0
  obtain ⟨W1,Y1,A1,n1,c1,l1,e1,b1,k1,m1⟩:=pl_form h1
  obtain ⟨W2,Y2,A2,n2,c2,l2,e2,b2,k2,m2⟩:=pl_form h2
  have e0':[a0,a1,a2] = [.int .i64 W0,.int .i64 Y0,.slice A0 n0 c0]:=e0
  have e1':[a3,a4,a5] = [.int .i64 W1,.int .i64 Y1,.slice A1 n1 c1]:=e1
  have e2':[a6,a7,a8] = [.int .i64 W2,.int .i64 Y2,.slice A2 n2 c2]:=e2
  simp only [List.cons.injEq,and_true] at e0' e1' e2'
  obtain ⟨rfl,rfl,rfl⟩:=e0'
  obtain ⟨rfl,rfl,rfl⟩:=e1'
  obtain ⟨rfl,rfl,rfl⟩:=e2'
  exact ⟨⟨W0,Y0,A0,n0,c0,W1,Y1,A1,n1,c1,W2,Y2,A2,n2,c2,l0,l1,l2⟩,⟨b0,b1,b2,k0,k1,k2,m0,m1,m2⟩,rfl⟩
theorem sq_form {fuel:Nat} {cs:List Value} {x:DataW H × List MemPlace} (h:DataW.trod enc Tryz.prog w base (fun _=>true) held fuel 23 cs = some x):∃ W Y G:Int,cs = [.int .i64 W,.int .i64 Y,.int .i64 G] ∧ (-9223372036854775808 ≤ W ∧ W ≤ 9223372036854775807) ∧ (-9223372036854775808 ≤ Y ∧ Y ≤ 9223372036854775807) ∧ (-9223372036854775808 ≤ G ∧ G ≤ 9223372036854775807):=by
 obtain ⟨y0,y1,y2,n,_,hl,h0,h1,h2⟩:=trod_struct3 Tryz.underlying23 h
 rw [cellsSQT] at hl
 rw [cellsIN] at h0 h1 h2
 match cs,hl with
 | [a,b,c],_=>
  obtain ⟨x0,rfl,w0⟩:=int_form h0
  obtain ⟨x1,rfl,w1⟩:=int_form h1
  obtain ⟨x2,rfl,w2⟩:=int_form h2
  exact ⟨x0,x1,x2,rfl,w0,w1,w2⟩
theorem fr_choose (n:Nat) (P:Nat → FrX → Prop) (h:∀ i,i < n → ∃ l,P i l):∃ ls:List FrX,ls.length = n ∧ ∀ i,i < n → P i (ls.getD i FrX.zero):=by
 induction n with
 | zero=>exact ⟨[],rfl,fun i h=>absurd h (by omega)⟩
 | succ n ih=>
  obtain ⟨ls,h1,h2⟩:=ih (fun i hi=>h i (by omega))
  obtain ⟨l,hl⟩:=h n (by omega)
  refine ⟨ls ++ [l],by simp [h1],fun i hi=>?_⟩
  rw [List.getD_eq_getElem?_getD]
  by_cases e:i = n
  ·subst e
   rw [List.getElem?_append_right (by omega),h1,Nat.sub_self]
   exact hl
  ·rw [List.getElem?_append_left (by omega),← List.getD_eq_getElem?_getD]
   exact h2 i (by omega)
theorem frs_form {fuel:Nat} {v:Value} {x:DataW H × List MemPlace} (h:DataW.trod enc Tryz.prog w base (fun _=>true) held fuel 25 [v] = some x):∃ A n c fs,v = .slice A n c ∧ n ≤ 9223372036854775807 ∧ FrsIn w A n fs:=by
 rcases open_slice Tryz.underlying25 h with ⟨hcs,_⟩ | ⟨a,len,cap,m,n,D,Pl,hcs,_,hl,hm,hmm,_,hall⟩
 ·injection hcs with hcs
  exact ⟨none,0,0,[],hcs,by omega,rfl,fun i hi=>absurd hi (by omega)⟩
 ·injection hcs with hcs
  rw [if_pos rfl] at hmm
  subst hmm
  have each:∀ i,i < len → ∃ f:FrX,∃ b o,some a = some ⟨b,o,none⟩ ∧ b < w.heap.size ∧ (∀ (j:Nat) (v:Value),f.cells[j]? = some v → w.cell? ⟨b,o + i * 9 + j,none⟩ = some v) ∧ f.In w:=by
   intro i hi
   obtain ⟨cs',hc,ht⟩:=hall i (by omega)
   rw [cellsFRT] at hc
   obtain ⟨_,hcl,hat⟩:=World.cells?_some hc
   obtain ⟨f,hf,rfl⟩:=fr_form ht
   obtain ⟨b,off,spot⟩:=a
   have hspot:spot = none:=by
    obtain ⟨cs0,hc0,ht0⟩:=hall 0 (by omega)
    obtain ⟨_,hcl0,hat0⟩:=World.cells?_some hc0
    have z0:=hat0 0 (by have:=cellsFRT;omega)
    rw [Nat.zero_mul] at z0
    obtain ⟨v0,hv0⟩:∃ v,cs0[0]? = some v:=⟨_,List.getElem?_eq_getElem (by have:=cellsFRT;omega)⟩
    rw [hv0] at z0
    exact World.cell?_spot z0
   subst hspot
   have hk:∀ (j:Nat) (v:Value),f.cells[j]? = some v → w.cell? ⟨b,off + i * 9 + j,none⟩ = some v:=by
    intro j v hv
    have hj:j < 9:=by
     have:=(List.getElem?_eq_some_iff.1 hv).1
     exact this
    have k:=hat j (by omega)
    rw [addr_add',addr_add'] at k
    rw [k]
    exact hv
   have k0:=hk 0 _ rfl
   exact ⟨f,b,off,rfl,World.block_lt_of_cell? w _ k0,hk,hf⟩
  obtain ⟨ls,e1,e2⟩:=fr_choose len (fun i f=>∃ b o,some a = some ⟨b,o,none⟩ ∧ b < w.heap.size ∧ (∀ (j:Nat) (v:Value),f.cells[j]? = some v → w.cell? ⟨b,o + i * 9 + j,none⟩ = some v) ∧ f.In w) each
  exact ⟨some a,len,_,ls,hcs,by unfold maxLen at hm;omega,e1,e2⟩
theorem open_sq {r:Reach} {b0:Nat} {v:Value} {d:DataW H} {p:List MemPlace} (hv:Value.okWide Tryz.prog w r b0 23 v) (h:DataW.Trod enc Tryz.prog w base (fun _=>true) held 23 v d p) :
  ∃ W Y G:Int,v = .agg #[.int .i64 W,.int .i64 Y,.int .i64 G] ∧ (-9223372036854775808 ≤ W ∧ W ≤ 9223372036854775807) ∧ (-9223372036854775808 ≤ Y ∧ Y ≤ 9223372036854775807) ∧ (-9223372036854775808 ≤ G ∧ G ≤ 9223372036854775807):=by
 obtain ⟨cs,rfl,_⟩:=okWide_struct Tryz.underlying23 hv
 obtain ⟨fuel,hf⟩:=h
 obtain ⟨W,Y,G,e,hb⟩:=sq_form hf
 refine ⟨W,Y,G,?_,hb⟩
 have e':cs.toList = [.int .i64 W,.int .i64 Y,.int .i64 G]:=e
 exact congrArg Value.agg (Array.toArray_toList.symm.trans (congrArg List.toArray e'))
theorem open_frs {r:Reach} {b0:Nat} {v:Value} {d:DataW H} {p:List MemPlace} (hv:Value.okWide Tryz.prog w r b0 25 v) (h:DataW.Trod enc Tryz.prog w base (fun _=>true) held 25 v d p):∃ A n c fs,v = .slice A n c ∧ n ≤ 9223372036854775807 ∧ FrsIn w A n fs:=by
 obtain ⟨a0,len0,cap0,rfl⟩:=okWide_slice Tryz.underlying25 hv
 obtain ⟨fuel,hf⟩:=h
 have hf':DataW.trod enc Tryz.prog w base (fun _=>true) held fuel 25 [.slice a0 len0 cap0] = some (d,p):=by simpa [Value.cells] using hf
 exact frs_form hf'
theorem cellsA2:Tryz.prog.cellsOf 24 = 2:=by kernel_rfl
theorem open_pair {r:Reach} {b0:Nat} {v:Value} {d:DataW H} {p:List MemPlace} (hv:Value.okWide Tryz.prog w r b0 24 v) (h:DataW.Trod enc Tryz.prog w base (fun _=>true) held 24 v d p) :
  ∃ a b:Int,v = .agg #[.int .i64 a,.int .i64 b] ∧ (-9223372036854775808 ≤ a ∧ a ≤ 9223372036854775807) ∧ (-9223372036854775808 ≤ b ∧ b ≤ 9223372036854775807):=by
 obtain ⟨cs,rfl⟩:∃ cs,v = .agg cs:=by
  simp only [Value.okWide,Tryz.underlying24] at hv
  obtain ⟨cs,h1,_⟩:=hv
  exact ⟨cs,h1⟩
 obtain ⟨fuel,hf⟩:=h
 have hf':DataW.trod enc Tryz.prog w base (fun _=>true) held fuel 24 cs.toList = some (d,p):=hf
 obtain ⟨xs,m,rfl,hx,hl,hxl,hall⟩:=DataW.trod_array Tryz.underlying24 hf'
 rw [cellsA2] at hl
 rw [cellsIN] at hall
 obtain ⟨l,hcl⟩:∃ l,l = cs.toList:=⟨_,rfl⟩
 rw [← hcl] at hl hall
 match l,hl with
 | [c0,c1],_=>
  have g0:=hall 0 (by omega)
  have g1:=hall 1 (by omega)
  rw [List.getElem?_eq_getElem (by omega)] at g0 g1
  obtain ⟨n0,e0,b0⟩:=int_form (v:=c0) g0
  obtain ⟨n1,e1,b1⟩:=int_form (v:=c1) g1
  refine ⟨n0,n1,?_,b0,b1⟩
  rw [← e0,← e1]
  exact congrArg Value.agg (Array.toArray_toList.symm.trans (congrArg List.toArray hcl.symm))
end
end Go.Proofs.YtmkopcojnibhlaaGreatDoor
namespace Go.Proofs.YtmkopcojnibhlaaGreatDoor
open Go Go.RowKit Go.ChangeShapes Go.WideShapes Go.ChangeAt Go.Joins Go.Deep
set_option maxRecDepth 100000
set_option maxHeartbeats 8000000
def laidAll : List (String × DataW Unit) := [("kinora/encoder.places", Rows.laid_kinora_encoder_places)]
theorem laid_plain {W:World} (h:laidMetH Tryz.prog laidAll W):laidMet Tryz.prog laidAll W:=by
 rw [Go.MakeChecks.laidMetH_plain Tryz.prog laidAll W (by kernel_rfl)] at h
 exact h
section
variable {H : Type} {enc : TypeId × Value → H} {w : World} {base : Nat} {sp : Nat → Bool} {held : Bool}
theorem cellsPLC:Tryz.prog.cellsOf 162 = 3:=by kernel_rfl
theorem cellsINT1:Tryz.prog.cellsOf 3 = 1:=by kernel_rfl
theorem int_lit {fuel:Nat} {v:Value} {x:DataW H × List MemPlace} (h:DataW.trod enc Tryz.prog w base sp held fuel 3 [v] = some x):∃ n,v = .int .i64 n ∧ x = (.lit (.int .i64 n),[]):=by
 obtain ⟨n,e,e2,_⟩:=DataW.trod_int Tryz.underlying3 h
 injection e with e
 exact ⟨n,e,e2⟩
theorem place_lit {fuel:Nat} {L:List Value} {a b c:Int} {ps:List MemPlace} (h:DataW.trod enc Tryz.prog w base sp held fuel 162 L = some (.agg [.lit (.int .i64 a),.lit (.int .i64 b),.lit (.int .i64 c)],ps)):L = [.int .i64 a,.int .i64 b,.int .i64 c]:=by
 obtain ⟨y0,y1,y2,n,hx,hl,h0,h1,h2⟩:=trod_struct3 Tryz.underlying162 h
 rw [cellsPLC] at hl
 rw [cellsINT1] at h0 h1 h2
 match L,hl with
 | [v0,v1,v2],_=>
  obtain ⟨n0,rfl,rfl⟩:=int_lit h0
  obtain ⟨n1,rfl,rfl⟩:=int_lit h1
  obtain ⟨n2,rfl,rfl⟩:=int_lit h2
  simp only [Prod.mk.injEq,DataW.agg.injEq,List.cons.injEq,DataW.lit.injEq,Lit.int.injEq,true_and,and_true] at hx
  obtain ⟨⟨rfl,rfl,rfl⟩,_⟩:=hx
  rfl
theorem places_cells {fuel:Nat} {cs:List Value} {p:List MemPlace} (h:DataW.trod enc Tryz.prog w base sp held fuel 163 cs = some (Rows.laid_kinora_encoder_places,p)):∀ i,i < 18 → cs[i]? = placesV[i]?:=by
 obtain ⟨xs,m,rfl,hx,hl,hxl,hall⟩:=DataW.trod_array Tryz.underlying163 h
 rw [cellsPLC] at hall
 have hm:(Rows.laid_kinora_encoder_places:DataW H) = .agg (xs.map (·.1)):=congrArg Prod.fst hx
 unfold Rows.laid_kinora_encoder_places at hm
 injection hm with hm
 have key:∀ k a b c,k < 6 → (xs.map (·.1))[k]? = some (.agg [.lit (.int .i64 a),.lit (.int .i64 b),.lit (.int .i64 c)]) → ∀ j,j < 3 → cs[k * 3 + j]? = [Value.int .i64 a,.int .i64 b,.int .i64 c][j]?:=by
  intro k a b c hk he j hj
  rw [List.getElem?_map,Option.map_eq_some_iff] at he
  obtain ⟨y,hy,hy1⟩:=he
  have h1:=hall k hk
  rw [hy] at h1
  obtain ⟨y1,y2⟩:=y
  dsimp only at hy1
  subst hy1
  rw [← place_lit h1,List.getElem?_take_of_lt hj,List.getElem?_drop]
 intro i hi
 have e0:=key 0 0 0 0 (by omega) (by rw [← hm];rfl)
 have e1:=key 1 0 8 0 (by omega) (by rw [← hm];rfl)
 have e2:=key 2 0 0 8 (by omega) (by rw [← hm];rfl)
 have e3:=key 3 0 8 8 (by omega) (by rw [← hm];rfl)
 have e4:=key 4 1 0 0 (by omega) (by rw [← hm];rfl)
 have e5:=key 5 2 0 0 (by omega) (by rw [← hm];rfl)
 clear key hm hall hx
 match i,hi with
 | 0,_=>exact e0 0 (by omega)
 | 1,_=>exact e0 1 (by omega)
 | 2,_=>exact e0 2 (by omega)
 | 3,_=>exact e1 0 (by omega)
 | 4,_=>exact e1 1 (by omega)
 | 5,_=>exact e1 2 (by omega)
 | 6,_=>exact e2 0 (by omega)
 | 7,_=>exact e2 1 (by omega)
 | 8,_=>exact e2 2 (by omega)
 | 9,_=>exact e3 0 (by omega)
 | 10,_=>exact e3 1 (by omega)
 | 11,_=>exact e3 2 (by omega)
 | 12,_=>exact e4 0 (by omega)
 | 13,_=>exact e4 1 (by omega)
 | 14,_=>exact e4 2 (by omega)
 | 15,_=>exact e5 0 (by omega)
 | 16,_=>exact e5 1 (by omega)
 | 17,_=>exact e5 2 (by omega)
 | n + 18,h=>exact absurd h (by omega)
end
theorem env_of_laid {W:World} (h:laidMet Tryz.prog laidAll W):EnvP W:=by
 obtain ⟨ps,⟨g',t',cs,fuel,p,q,hg',ht',hvar,hd,_,_⟩,_⟩:=h
 have hg : Tryz.prog.globalNamed "kinora/encoder.places" = some 0 := by kernel_rfl
 obtain rfl:=Option.some.inj (hg.symm.trans hg')
 have hty:(Tryz.prog.globals[0]?).map (·.type) = some 163:=by kernel_rfl
 obtain rfl:=Option.some.inj (hty.symm.trans ht')
 have hcs:=places_cells hd
 have hc:∀ i,i < 18 → W.cell? ⟨0,i,none⟩ = placesV[i]?:=fun i hi=>by
  rw [World.var?_cell hg hvar i,← hcs i hi,Array.getElem?_toList]
 exact ⟨hc,World.block_lt_of_cell? W _ (hc 0 (by omega))⟩
/-! ### One start that fits -/
noncomputable def laidWorld (os:Os):World:=
 let w0:=World.holding Tryz.prog os ⟨#[],#[],[]⟩
 let put (h:Array Obj) (g:Nat) (cs:Array Value):Array Obj:=h.modify g fun
  | .cells _ t frozen=>.cells cs t frozen
  | o=>o
 { w0 with heap:=put w0.heap 0 placesV }
theorem laid_met (os:Os) (args:Array Value):laidMet Tryz.prog laidAll ((laidWorld os).forCall (fun _ _=>0) ⟨#[],args,[]⟩).memory:=
 LaidIn.met (LaidIn.of_run [0] 8 (by kernel_rfl) (by kernel_rfl) (by kernel_rfl) (by kernel_rfl))
end Go.Proofs.YtmkopcojnibhlaaGreatDoor
