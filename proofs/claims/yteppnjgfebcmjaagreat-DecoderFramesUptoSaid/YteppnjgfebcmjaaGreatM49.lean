/-
  plane.Same of two frames that are alike.
-/
import Derived.Test.YteppnjgfebcmjaaGreatM45
import Derived.Test.YteppnjgfebcmjaaGreatM46
import Derived.Test.YteppnjgfebcmjaaGreatM14
import Derived.Test.YteppnjgfebcmjaaGreatM9
import Derived.Test.YteppnjgfebcmjaaGreatM48
namespace Go.Proofs.YteppnjgfebcmjaaGreat
open Go.RowKit

set_option maxRecDepth 100000 in
set_option maxHeartbeats 2000000 in
theorem pAlike (w : World) (W H : Int) (A B : Option Addr) (n c m k : Nat) (l : List UInt8) (ha : BytesIn w A n c l) (hb : BytesIn w B m k l) :
    Calls Tryz.prog 44 #[.agg #[.int .i64 W, .int .i64 H, .slice A n c], .agg #[.int .i64 W, .int .i64 H, .slice B m k]] w fun e w' => e = .returned (.bool true) ∧ Mod (fun _ => False) w w' := by
  have M := (((Mod.refl (fun _ => False) w).alloc (.cells #[.int .i64 W, .int .i64 H, .slice A n c] 35)).alloc (.cells #[.int .i64 W, .int .i64 H, .slice B m k] 35))
  have ha' := ha.quiet M
  have hb' := hb.quiet M
  have s1 := str_src _ A n c l ha'.1 ha'.2.2.1
  have s2 := str_src _ B m k l hb'.1 hb'.2.2.1
  have HM := Lib.hid M
  clear M ha' hb' ha hb
  go_enter Tryz.func44, Tryz.ntmps44
  go_wp2_with fail
  go_ret
  exact ⟨rfl, HM.out⟩

/-- Two planes' values that are alike. -/
structure Alike (w : World) (a b : Value) : Prop where
  is : ∃ (W H : Int) (A B : Option Addr) (n c m k : Nat) (l : List UInt8), a = .agg #[.int .i64 W, .int .i64 H, .slice A n c] ∧ b = .agg #[.int .i64 W, .int .i64 H, .slice B m k] ∧ BytesIn w A n c l ∧ BytesIn w B m k l
theorem pAlike' (w : World) (W H : Int) (A B : Option Addr) (n c m k : Nat) (h : ∃ l, BytesIn w A n c l ∧ BytesIn w B m k l) :
    Calls Tryz.prog 44 #[.agg #[.int .i64 W, .int .i64 H, .slice A n c], .agg #[.int .i64 W, .int .i64 H, .slice B m k]] w fun e w' => e = .returned (.bool true) ∧ Mod (fun _ => False) w w' := by
  obtain ⟨l, h1, h2⟩ := h
  exact pAlike w W H A B n c m k l h1 h2
theorem both_quiet {w w' : World} {A B : Option Addr} {n c m k : Nat} (h : ∃ l, BytesIn w A n c l ∧ BytesIn w B m k l) (hm : Mod (fun _ => False) w w') : ∃ l, BytesIn w' A n c l ∧ BytesIn w' B m k l := by
  obtain ⟨l, h1, h2⟩ := h
  exact ⟨l, h1.quiet hm, h2.quiet hm⟩

set_option maxRecDepth 100000 in
set_option maxHeartbeats 2000000 in
theorem pSame (w : World) (W H W1 H1 W2 H2 : Int) (A B A1 B1 A2 B2 : Option Addr) (n c m k n1 c1 m1 k1 n2 c2 m2 k2 : Nat)
    (h : ∃ l, BytesIn w A n c l ∧ BytesIn w B m k l) (h1 : ∃ l, BytesIn w A1 n1 c1 l ∧ BytesIn w B1 m1 k1 l) (h2 : ∃ l, BytesIn w A2 n2 c2 l ∧ BytesIn w B2 m2 k2 l) :
    Calls Tryz.prog 21 #[.agg #[.int .i64 W, .int .i64 H, .slice A n c, .int .i64 W1, .int .i64 H1, .slice A1 n1 c1, .int .i64 W2, .int .i64 H2, .slice A2 n2 c2], .agg #[.int .i64 W, .int .i64 H, .slice B m k, .int .i64 W1, .int .i64 H1, .slice B1 m1 k1, .int .i64 W2, .int .i64 H2, .slice B2 m2 k2]] w fun e w' => e = .returned (.bool true) ∧ Mod (fun _ => False) w w' := by
  have HS0 := ((Sat.nil (fun _ => False) w).alloc 37 #[.int .i64 W, .int .i64 H, .slice A n c, .int .i64 W1, .int .i64 H1, .slice A1 n1 c1, .int .i64 W2, .int .i64 H2, .slice A2 n2 c2] rfl).alloc (g := w.heap.size + 1) 37 #[.int .i64 W, .int .i64 H, .slice B m k, .int .i64 W1, .int .i64 H1, .slice B1 m1 k1, .int .i64 W2, .int .i64 H2, .slice B2 m2 k2] (by simp)
  have E0 := Lib.hid (And.intro HS0 (And.intro h (And.intro h1 h2)))
  clear HS0 h h1 h2
  go_enter Tryz.func21, Tryz.ntmps21
  go_wp2_with fail
  refine (pAlike' _ W H A B n c m k (both_quiet E0.out.2.1 E0.out.1.mod)).mono ?_
  rintro e w1 ⟨rfl, hm⟩
  have HS1 := Sat.after hm E0.out.1
  obtain ⟨pc, pf⟩ := (HS1.own_ 1 rfl).both
  obtain ⟨qc, qf⟩ := (HS1.own_ 0 rfl).both
  have E1 := Lib.hid HS1
  clear HS1 hm
  go_wp2_with fail
  refine (pAlike' _ W1 H1 A1 B1 n1 c1 m1 k1 (both_quiet E0.out.2.2.1 E1.out.mod)).mono ?_
  rintro e w2 ⟨rfl, hm⟩
  have HS2 := Sat.after hm E1.out
  clear pc pf qc qf
  obtain ⟨pc, pf⟩ := (HS2.own_ 1 rfl).both
  obtain ⟨qc, qf⟩ := (HS2.own_ 0 rfl).both
  have E2 := Lib.hid HS2
  clear HS2 hm
  go_wp2_with fail
  refine (pAlike' _ W2 H2 A2 B2 n2 c2 m2 k2 (both_quiet E0.out.2.2.2 E2.out.mod)).mono ?_
  rintro e w3 ⟨rfl, hm⟩
  have E3 := Lib.hid (E2.out.quiet hm).mod
  clear hm pc pf qc qf
  go_wp2_with fail
  go_ret
  exact ⟨rfl, E3.out⟩
end Go.Proofs.YteppnjgfebcmjaaGreat

/-
  The reference: Same of two frames that are alike.
-/
namespace Go.Proofs.YteppnjgfebcmjaaGreat
open Go.RowKit

set_option maxRecDepth 100000 in
set_option maxHeartbeats 2000000 in
theorem fAlike (w : World) (W H : Int) (A B : Option Addr) (n c m k : Nat) (l : List UInt8) (ha : BytesIn w A n c l) (hb : BytesIn w B m k l) :
    Calls Tryz.prog 36 #[.agg #[.int .i64 W, .int .i64 H, .slice A n c], .agg #[.int .i64 W, .int .i64 H, .slice B m k]] w fun e w' => e = .returned (.bool true) ∧ Mod (fun _ => False) w w' := by
  have M := (((Mod.refl (fun _ => False) w).alloc (.cells #[.int .i64 W, .int .i64 H, .slice A n c] 35)).alloc (.cells #[.int .i64 W, .int .i64 H, .slice B m k] 35))
  have ha' := ha.quiet M
  have hb' := hb.quiet M
  have s1 := str_src _ A n c l ha'.1 ha'.2.2.1
  have s2 := str_src _ B m k l hb'.1 hb'.2.2.1
  have HM := Lib.hid M
  clear M ha' hb' ha hb
  go_enter Tryz.func36, Tryz.ntmps36
  go_wp2_with fail
  go_ret
  exact ⟨rfl, HM.out⟩

theorem fAlike' (w : World) (W H : Int) (A B : Option Addr) (n c m k : Nat) (h : ∃ l, BytesIn w A n c l ∧ BytesIn w B m k l) :
    Calls Tryz.prog 36 #[.agg #[.int .i64 W, .int .i64 H, .slice A n c], .agg #[.int .i64 W, .int .i64 H, .slice B m k]] w fun e w' => e = .returned (.bool true) ∧ Mod (fun _ => False) w w' := by
  obtain ⟨l, h1, h2⟩ := h
  exact fAlike w W H A B n c m k l h1 h2
set_option maxRecDepth 100000 in
set_option maxHeartbeats 2000000 in
theorem fSame (w : World) (W H W1 H1 W2 H2 : Int) (A B A1 B1 A2 B2 : Option Addr) (n c m k n1 c1 m1 k1 n2 c2 m2 k2 : Nat)
    (h : ∃ l, BytesIn w A n c l ∧ BytesIn w B m k l) (h1 : ∃ l, BytesIn w A1 n1 c1 l ∧ BytesIn w B1 m1 k1 l) (h2 : ∃ l, BytesIn w A2 n2 c2 l ∧ BytesIn w B2 m2 k2 l) :
    Calls Tryz.prog 15 #[.agg #[.int .i64 W, .int .i64 H, .slice A n c, .int .i64 W1, .int .i64 H1, .slice A1 n1 c1, .int .i64 W2, .int .i64 H2, .slice A2 n2 c2], .agg #[.int .i64 W, .int .i64 H, .slice B m k, .int .i64 W1, .int .i64 H1, .slice B1 m1 k1, .int .i64 W2, .int .i64 H2, .slice B2 m2 k2]] w fun e w' => e = .returned (.bool true) ∧ Mod (fun _ => False) w w' := by
  have HS0 := ((Sat.nil (fun _ => False) w).alloc 37 #[.int .i64 W, .int .i64 H, .slice A n c, .int .i64 W1, .int .i64 H1, .slice A1 n1 c1, .int .i64 W2, .int .i64 H2, .slice A2 n2 c2] rfl).alloc (g := w.heap.size + 1) 37 #[.int .i64 W, .int .i64 H, .slice B m k, .int .i64 W1, .int .i64 H1, .slice B1 m1 k1, .int .i64 W2, .int .i64 H2, .slice B2 m2 k2] (by simp)
  have E0 := Lib.hid (And.intro HS0 (And.intro h (And.intro h1 h2)))
  clear HS0 h h1 h2
  go_enter Tryz.func15, Tryz.ntmps15
  go_wp2_with fail
  refine (fAlike' _ W H A B n c m k (both_quiet E0.out.2.1 E0.out.1.mod)).mono ?_
  rintro e w1 ⟨rfl, hm⟩
  have HS1 := Sat.after hm E0.out.1
  obtain ⟨pc, pf⟩ := (HS1.own_ 1 rfl).both
  obtain ⟨qc, qf⟩ := (HS1.own_ 0 rfl).both
  have E1 := Lib.hid HS1
  clear HS1 hm
  go_wp2_with fail
  refine (fAlike' _ W1 H1 A1 B1 n1 c1 m1 k1 (both_quiet E0.out.2.2.1 E1.out.mod)).mono ?_
  rintro e w2 ⟨rfl, hm⟩
  have HS2 := Sat.after hm E1.out
  clear pc pf qc qf
  obtain ⟨pc, pf⟩ := (HS2.own_ 1 rfl).both
  obtain ⟨qc, qf⟩ := (HS2.own_ 0 rfl).both
  have E2 := Lib.hid HS2
  clear HS2 hm
  go_wp2_with fail
  refine (fAlike' _ W2 H2 A2 B2 n2 c2 m2 k2 (both_quiet E0.out.2.2.2 E2.out.mod)).mono ?_
  rintro e w3 ⟨rfl, hm⟩
  have E3 := Lib.hid (E2.out.quiet hm).mod
  clear hm pc pf qc qf
  go_wp2_with fail
  go_ret
  exact ⟨rfl, E3.out⟩
end Go.Proofs.YteppnjgfebcmjaaGreat

/-
  Laws of the decoder's statements: what both of them use.
-/
namespace Go.Proofs.YteppnjgfebcmjaaGreat
open Go.RowKit

theorem BytesIn.none_ (w : World) : BytesIn w none 0 0 [] := ⟨rfl, fun _ => rfl, Src.nil, fun h => absurd h (by omega)⟩
theorem same_no (w : World) : Calls Tryz.prog 21 #[.agg #[.int .i64 0, .int .i64 0, .slice none 0 0, .int .i64 0, .int .i64 0, .slice none 0 0, .int .i64 0, .int .i64 0, .slice none 0 0], .agg #[.int .i64 0, .int .i64 0, .slice none 0 0, .int .i64 0, .int .i64 0, .slice none 0 0, .int .i64 0, .int .i64 0, .slice none 0 0]] w fun e w' => e = .returned (.bool true) ∧ Mod (fun _ => False) w w' :=
  pSame w 0 0 0 0 0 0 none none none none none none 0 0 0 0 0 0 0 0 0 0 0 0 ⟨[], BytesIn.none_ w, BytesIn.none_ w⟩ ⟨[], BytesIn.none_ w, BytesIn.none_ w⟩ ⟨[], BytesIn.none_ w, BytesIn.none_ w⟩
theorem same_fr (w : World) (d : Dim) (hd : d.Ok) (f : Pix) (a1 a2 a3 b1 b2 b3 : Nat) (ha : FrameAt w d a1 a2 a3 f) (hb : FrameAt w d b1 b2 b3 f) : Calls Tryz.prog 21 #[.agg (frameV d a1 a2 a3).toArray, .agg (frameV d b1 b2 b3).toArray] w fun e w' => e = .returned (.bool true) ∧ Mod (fun _ => False) w w' :=
  pSame w d.W d.H d.W2 d.H2 d.W2 d.H2 _ _ _ _ _ _ d.nY d.nY d.nY d.nY d.nC d.nC d.nC d.nC d.nC d.nC d.nC d.nC ⟨f.Y, blkIn ha.by_ ha.ly hd.nyle, blkIn hb.by_ hb.ly hd.nyle⟩ ⟨f.U, blkIn ha.bu ha.lu hd.ncle, blkIn hb.bu hb.lu hd.ncle⟩ ⟨f.V, blkIn ha.bv ha.lv hd.ncle, blkIn hb.bv hb.lv hd.ncle⟩
theorem cells18 {w : World} {p q : Nat} {x0 x1 x2 x3 x4 x5 x6 x7 x8 y0 y1 y2 y3 y4 y5 y6 y7 y8 : Value} (h : Blk w p 37 #[x0, x1, x2, x3, x4, x5, x6, x7, x8]) (k : Blk w q 37 #[y0, y1, y2, y3, y4, y5, y6, y7, y8]) : w.cell? ⟨p, 0, none⟩ = some x0 ∧ w.cell? ⟨p, 1, none⟩ = some x1 ∧ w.cell? ⟨p, 2, none⟩ = some x2 ∧ w.cell? ⟨p, 3, none⟩ = some x3 ∧ w.cell? ⟨p, 4, none⟩ = some x4 ∧ w.cell? ⟨p, 5, none⟩ = some x5 ∧ w.cell? ⟨p, 6, none⟩ = some x6 ∧ w.cell? ⟨p, 7, none⟩ = some x7 ∧ w.cell? ⟨p, 8, none⟩ = some x8 ∧ w.cell? ⟨q, 0, none⟩ = some y0 ∧ w.cell? ⟨q, 1, none⟩ = some y1 ∧ w.cell? ⟨q, 2, none⟩ = some y2 ∧ w.cell? ⟨q, 3, none⟩ = some y3 ∧ w.cell? ⟨q, 4, none⟩ = some y4 ∧ w.cell? ⟨q, 5, none⟩ = some y5 ∧ w.cell? ⟨q, 6, none⟩ = some y6 ∧ w.cell? ⟨q, 7, none⟩ = some y7 ∧ w.cell? ⟨q, 8, none⟩ = some y8 :=
  ⟨h.cell 0, h.cell 1, h.cell 2, h.cell 3, h.cell 4, h.cell 5, h.cell 6, h.cell 7, h.cell 8, k.cell 0, k.cell 1, k.cell 2, k.cell 3, k.cell 4, k.cell 5, k.cell 6, k.cell 7, k.cell 8⟩

theorem same_dim {l : List UInt8} {d d' : Dim} {G G' : Int} {w : World} {g : Nat} (h1 : seqParse l = some ((d.W : Int), (d.H : Int), G)) (h2 : seqParse l = some ((d'.W : Int), (d'.H : Int), G')) (h : DecAt w g d' G' 0 none) : DecAt w g d G 0 none := by
  rw [h1] at h2
  injection h2 with h2
  injection h2 with e1 e2
  injection e2 with e2 e3
  subst e3
  obtain ⟨fr, ay, au, av, hb, hl, hn, hf⟩ := h
  exact ⟨fr, ay, au, av, by rw [e1, e2]; exact hb, hl, hn, fun f e => by cases e⟩
end Go.Proofs.YteppnjgfebcmjaaGreat

/-
  kinoralaw13.DecoderFrames, walked.
-/
namespace Go.Proofs.YteppnjgfebcmjaaGreat
open Go.RowKit

theorem fsame_no (w : World) : Calls Tryz.prog 15 #[.agg #[.int .i64 0, .int .i64 0, .slice none 0 0, .int .i64 0, .int .i64 0, .slice none 0 0, .int .i64 0, .int .i64 0, .slice none 0 0], .agg #[.int .i64 0, .int .i64 0, .slice none 0 0, .int .i64 0, .int .i64 0, .slice none 0 0, .int .i64 0, .int .i64 0, .slice none 0 0]] w fun e w' => e = .returned (.bool true) ∧ Mod (fun _ => False) w w' :=
  fSame w 0 0 0 0 0 0 none none none none none none 0 0 0 0 0 0 0 0 0 0 0 0 ⟨[], BytesIn.none_ w, BytesIn.none_ w⟩ ⟨[], BytesIn.none_ w, BytesIn.none_ w⟩ ⟨[], BytesIn.none_ w, BytesIn.none_ w⟩
theorem fsame_fr (w : World) (d : Dim) (hd : d.Ok) (f : Pix) (a1 a2 a3 B b0 k0 b1 k1 b2 k2 : Nat) (ha : FrameAt w d a1 a2 a3 f) (hb : FrB w B d b0 k0 b1 k1 b2 k2 f) : Calls Tryz.prog 15 #[.agg (frameV d a1 a2 a3).toArray, .agg (frV d b0 k0 b1 k1 b2 k2).toArray] w fun e w' => e = .returned (.bool true) ∧ Mod (fun _ => False) w w' :=
  fSame w d.W d.H d.W2 d.H2 d.W2 d.H2 _ _ _ _ _ _ d.nY d.nY d.nY k0 d.nC d.nC d.nC k1 d.nC d.nC d.nC k2 ⟨f.Y, blkIn ha.by_ ha.ly hd.nyle, hb.y.in_n hb.ly⟩ ⟨f.U, blkIn ha.bu ha.lu hd.ncle, hb.u.in_n hb.lu⟩ ⟨f.V, blkIn ha.bv ha.lv hd.ncle, hb.v.in_n hb.lv⟩
theorem rsame_dim {l : List UInt8} {d d' : Dim} {G G' : Int} {w : World} {g : Nat} (h1 : seqParse l = some ((d.W : Int), (d.H : Int), G)) (h2 : seqParse l = some ((d'.W : Int), (d'.H : Int), G')) (h : RDecAt w g d' G' 0 none) : RDecAt w g d G 0 none := by
  rw [h1] at h2
  injection h2 with h2
  injection h2 with e1 e2
  injection e2 with e2 e3
  subst e3
  obtain ⟨fr, hb, hl, hn, hf⟩ := h
  exact ⟨fr, by rw [e1, e2]; exact hb, hl, hn, fun f e => by cases e⟩
theorem rdecV_seq (W H G nx : Int) (fr : List Value) : ((rdecV W H G nx fr).extract 0 (0 + [Value.int .i64 W, .int .i64 H, .int .i64 G].length)).toList = [Value.int .i64 W, .int .i64 H, .int .i64 G] := by
  simp [rdecV]
theorem RDecAt.lt {w : World} {g : Nat} {d : Dim} {G nx : Int} {ah : Option Pix} (h : RDecAt w g d G nx ah) : g < w.heap.size := by
  obtain ⟨fr, hb, _⟩ := h
  exact hb.lt
theorem RDecAt.nx {w : World} {g : Nat} {d : Dim} {G nx : Int} {ah : Option Pix} (h : RDecAt w g d G nx ah) : w.cell? ⟨g, 12, none⟩ = some (.int .i64 nx) := by
  obtain ⟨fr, hb, hl, _⟩ := h
  have := hb.cell 12
  rwa [rdecV_nx _ _ _ _ _ hl] at this
theorem RDecAt.beside {w w' : World} {dg mg : Nat} {d d' : Dim} {G nx G' nx' : Int} {ah ah' : Option Pix} (h : RDecAt w mg d G nx ah) (hm : Mod (· = dg) w w') (hg : mg ≠ dg) (h' : DecAt w dg d' G' nx' ah') : RDecAt w' mg d G nx ah := by
  obtain ⟨fr, ay, au, av, hb, _⟩ := h'
  exact h.keep hm hg (fun j e => by subst e; exact .inr ⟨_, _, hb, by decide⟩)
theorem DecAt.besideR {w w' : World} {dg mg : Nat} {d d' : Dim} {G nx G' nx' : Int} {ah ah' : Option Pix} (h : DecAt w dg d G nx ah) (hm : Mod (· = mg) w w') (hg : dg ≠ mg) (h' : RDecAt w mg d' G' nx' ah') : DecAt w' dg d G nx ah := by
  obtain ⟨fr, hb, _⟩ := h'
  exact h.keep hm hg (fun j e => by subst e; exact ⟨_, _, hb, by decide⟩)
def FraRel (w : World) (d : Dim) (G : Int) (dg mg n1 : Nat) (v11 : Value) (wr : World) : Prop :=
  ∃ (k : Nat) (nx : Int) (ah : Option Pix), k ≤ n1 ∧ v11 = .int .i64 (k : Int) ∧ DecAt wr dg d G nx ah ∧ RDecAt wr mg d G nx ah ∧ Mod (fun _ => False) w wr

set_option maxRecDepth 100000 in
set_option maxHeartbeats 40000000 in
theorem decoderFrames_walk (A0 A1 : Option Addr) (n0 c0 n1 c1 : Nat) (l0 : List UInt8) (ls : List (List UInt8)) (w : World) (h0 : BytesIn w A0 n0 c0 l0) (h1 : RowsIn w A1 n1 ls) (hcap : RowsCap w A1 n1) (hn0 : n0 ≤ 1048576) (hn1 : n1 ≤ 9223372036854775807) :
    Calls Tryz.prog 3 #[.slice A0 n0 c0, .slice A1 n1 c1] w fun e w' => e = .returned (.bool true) ∧ Below w.heap.size w w' := by
  have H0 := Lib.hid (And.intro h0 (And.intro h1 hcap))
  clear h0 h1 hcap
  go_enter Tryz.func3, Tryz.ntmps3
  go_wp2_with fail
  refine (lFits _ A1 n1 c1 ls H0.out.2.1 hn1).mono ?_
  rintro e w1 ⟨b1, rfl, hb1, rfl⟩
  have HB1 := Lib.hid hb1
  clear hb1
  go_wp2_with fail
  refine (lSmall _ A0 n0 c0 l0 H0.out.1 hn0).mono ?_
  rintro e w2 ⟨b3, rfl, hb3, hm2⟩
  have HB3 := Lib.hid (And.intro hm2 hb3)
  clear hb3 hm2
  have hcase : b1 = false ∨ (b1 = true ∧ b3 = false) ∨ (b1 = true ∧ b3 = true) := by
    cases b1 <;> cases b3 <;> simp
  rcases hcase with rfl | ⟨rfl, rfl⟩ | ⟨rfl, rfl⟩
  iterate 2
    · go_wp2_with fail
      refine (alive13 _).mono ?_
      rintro e w5 ⟨rfl, hm⟩
      have H5 := Lib.hid (HB3.out.1.trans hm)
      clear hm
      go_wp2_with fail
      go_ret
      exact ⟨rfl, H5.out.below (fun _ h => h.elim)⟩
  have hn8 : n1 ≤ 8 := (HB1.out (by trivial)).1
  go_wp2_with fail
  refine (decNew' w2 A0 n0 c0 l0 (H0.out.1.quiet HB3.out.1) hn0).mono ?_
  rintro e w3 ⟨hm3, ⟨hs, rfl⟩ | ⟨d, G, dg, hd, hs, rfl, hD, hdg⟩⟩
  · have H3 := Lib.hid (And.intro hs (HB3.out.1.trans hm3))
    clear hs hm3
    go_wp2_with fail
    refine (rDecNew w3 A0 n0 c0 l0 (H0.out.1.quiet H3.out.2) hn0).mono ?_
    rintro e w4 ⟨hm4, ⟨hs, rfl⟩ | ⟨d, G, dg, hd, hs, rfl, hD, hdg⟩⟩
    · have H4 := Lib.hid (H3.out.2.trans hm4)
      clear hs hm4
      go_wp2_with fail
      refine (alive13 _).mono ?_
      rintro e w5 ⟨rfl, hm⟩
      have H5 := Lib.hid (H4.out.trans hm)
      clear hm
      go_wp2_with fail
      go_ret
      exact ⟨rfl, H5.out.below (fun _ h => h.elim)⟩
    · exfalso
      rw [H3.out.1] at hs
      cases hs
  have hsm := (HB3.out.2 (by trivial)).2 (d.W : Int) (d.H : Int) G (by rw [rseq_eq]; exact hs)
  have hnY : d.nY ≤ 1048576 := by
    have h1 : d.W * d.H ≤ 32 * 32 := Nat.mul_le_mul (by omega) (by omega)
    rw [hd.ny]
    omega
  have hsr := seqParse_right hs
  dsimp only at hsr
  have H3 := Lib.hid (And.intro hs (And.intro (HB3.out.1.trans hm3) (And.intro hD (And.intro hd (And.intro hnY hsr)))))
  have hdgl := hD.lt
  have hw2 := HB3.out.1.size
  have hdw : w.heap.size ≤ dg := by omega
  clear hs hm3 hD hd hsm hnY hsr
  go_wp2_with fail
  refine (rDecNew w3 A0 n0 c0 l0 (H0.out.1.quiet H3.out.2.1) hn0).mono ?_
  rintro e w4 ⟨hm4, ⟨hs, rfl⟩ | ⟨d', G', mg, hd', hs, rfl, hE, hmg⟩⟩
  · exfalso
    rw [H3.out.1] at hs
    cases hs
  have hE := rsame_dim H3.out.1 hs hE
  have hmd : dg ≠ mg := by omega
  have hmw : w.heap.size ≤ mg := by omega
  have H4 := Lib.hid (And.intro (H3.out.2.1.trans hm4) (And.intro (H3.out.2.2.1.quiet hm4) hE))
  clear hs hm4 hE hd' hdgl hw2 hdg hmg
  go_wp2_with fail
  go_loopw [11] (FraRel w d G dg mg n1) (fun i _ => n1 - (intOf i).toNat)
  case atStart => exact ⟨0, 0, none, by omega, rfl, H4.out.2.1, H4.out.2.2, H4.out.1⟩
  case round =>
    clear H4
    obtain ⟨k, nx, ah, hk, rfl, hD, hE, hM⟩ := hrel
    rename World => wr
    by_cases hlt : k < n1
    · obtain ⟨b, off, Ai, ni, ci, hA, hbw, hcw, hiw⟩ := H0.out.2.1.at_ k hlt
      have hnc := H0.out.2.2 k hlt b off Ai ni ci hA hcw
      have hcell := (World.cell?_of_block (hM.block b hbw (fun h => h))).trans hcw
      have hin := hiw.quiet hM
      have hni : ni ≤ 1048576 := by
        have h1 := (HB1.out (by trivial)).2 k hlt
        have h2 := hin.1
        omega
      subst hA
      have d2 : decide ((k : Int) < (n1 : Int)) = true := decide_eq_true (by omega)
      obtain ⟨li, hli⟩ : ∃ li, li = ls.getD k [] := ⟨_, rfl⟩
      rw [← hli] at hin hiw
      have HR := Lib.hid (And.intro hD (And.intro hE (And.intro hM hin)))
      have HI := Lib.hid (And.intro hcw (And.intro hiw hnc))
      clear hD hE hM hli hcw hiw hin hnc
      go_wp2_with fail
      refine (decFrame wr dg d H3.out.2.2.2.1 G nx ah Ai ni ci li HR.out.1 HR.out.2.2.2 hni).mono ?_
      rintro e w5 (⟨er, hfe, rfl, hm5⟩ | ⟨f, nx', p, hf, rfl, ⟨x1, x2, x3, rfl, hfa, lx1, lx2, lx3⟩, hD5, hm5⟩)
      · have mA : Mod (fun _ => False) w5 (w5.alloc (.cells #[.int .i64 0, .int .i64 0, .slice none 0 0, .int .i64 0, .int .i64 0, .slice none 0 0, .int .i64 0, .int .i64 0, .slice none 0 0] 37)) := (Mod.refl _ _).alloc _
        have hcell5 := (World.cell?_of_block (((HR.out.2.2.1.trans hm5).trans mA).block b hbw (fun h => h))).trans HI.out.1
        have H5 := Lib.hid (And.intro ((HR.out.1.quiet hm5).quiet mA) (And.intro ((HR.out.2.1.quiet hm5).quiet mA) (And.intro ((HR.out.2.2.1.trans hm5).trans mA) (And.intro ((HR.out.2.2.2.quiet hm5).quiet mA) (And.intro (Blk.new w5 37 #[.int .i64 0, .int .i64 0, .slice none 0 0, .int .i64 0, .int .i64 0, .slice none 0 0, .int .i64 0, .int .i64 0, .slice none 0 0]) hfe)))))
        clear hm5 hfe mA hcell HR
        unfold noFrame
        go_wp2_with fail
        refine (rFrame _ mg d H3.out.2.2.2.1 H3.out.2.2.2.2.1 G nx H3.out.2.2.2.2.2 ah H5.out.2.1 Ai ni ci li H5.out.2.2.2.1 hni HI.out.2.2).mono ?_
        rintro e w6 (⟨er', hfe', rfl, hm6⟩ | ⟨f, nx', p, hf, rfl, _, _, _⟩)
        · have e1 : er' = er := by
            have h1 := H5.out.2.2.2.2.2
            rw [hfe'] at h1
            injection h1
          subst e1
          have mB : Mod (fun _ => False) (w5.alloc (.cells #[.int .i64 0, .int .i64 0, .slice none 0 0, .int .i64 0, .int .i64 0, .slice none 0 0, .int .i64 0, .int .i64 0, .slice none 0 0] 37)) (w6.alloc (.cells #[.int .i64 0, .int .i64 0, .slice none 0 0, .int .i64 0, .int .i64 0, .slice none 0 0, .int .i64 0, .int .i64 0, .slice none 0 0] 37)) := hm6.trans ((Mod.refl _ _).alloc _)
          have hx := H5.out.2.2.2.2.1.keep mB (fun h => h)
          have hy := Blk.new w6 37 #[.int .i64 0, .int .i64 0, .slice none 0 0, .int .i64 0, .int .i64 0, .slice none 0 0, .int .i64 0, .int .i64 0, .slice none 0 0]
          obtain ⟨xc, xf⟩ := hx.both
          obtain ⟨yc, yf⟩ := hy.both
          have H6 := Lib.hid (And.intro (H5.out.1.quiet mB) (And.intro (H5.out.2.1.quiet mB) (H5.out.2.2.1.trans mB)))
          clear hm6 hfe' mB hx hy H5
          unfold noFrame
          go_wp2_with fail
          refine (fsame_no _).mono ?_
          rintro e w8 ⟨rfl, hm8⟩
          have m8 : Mod (fun _ => False) w8 w8.drew := (Mod.refl _ _).drew
          have hE8 := (H6.out.2.1.quiet hm8).quiet m8
          have e12 := hE8.nx
          have H8 := Lib.hid (And.intro ((H6.out.1.quiet hm8).quiet m8) (And.intro hE8 ((H6.out.2.2.trans hm8).trans m8)))
          clear hm8 xc xf yc yf m8 hE8
          go_upto_region 15 with (fail)
          refine wp_region_planS [] [] (0 :: 1 :: 2 :: 3 :: 4 :: 5 :: 6 :: 7 :: 8 :: 9 :: 10 :: 11 :: 12 :: 13 :: 14 :: 15 :: []) (fun _ => True) (by kernel_rfl) (by kernel_rfl) (fun _ _ _ d _ h => by cases d <;> exact h) trivial ?_
          iterate 9 (refine planS_still rfl rfl (fun K hK => ?_); go_simp; refine hK _ ?_; clear hK K)
          refine planS_still rfl rfl (fun K hK => ?_)
          go_simp
          refine ⟨_, (H8.out.1.next).mono (fun _ _ ⟨a, b⟩ => ⟨a, b.symm⟩), hK _ ?_⟩
          clear hK K
          iterate 6 (refine planS_still rfl rfl (fun K hK => ?_); go_simp; refine hK _ ?_; clear hK K)
          refine planS_done ?_
          go_wp2_with fail
          go_roundw
          case rel => exact ⟨k + 1, nx, ah, by omega, by go_num, H8.out.1, H8.out.2.1, H8.out.2.2⟩
          case measure => simp [intOf]; omega
        · exfalso
          have h1 := H5.out.2.2.2.2.2
          rw [hf] at h1
          cases h1
      · have hm5s := hm5.size
        have hmgw : mg < wr.heap.size := HR.out.2.1.lt
        have hM5 := HR.out.2.2.1.into hm5 (fun i e => .inr (by omega))
        have mA : Mod (fun _ => False) w5 (w5.alloc (.cells #[.int .i64 (d.W : Int), .int .i64 (d.H : Int), .slice (some ⟨x1, 0, none⟩) d.nY d.nY, .int .i64 (d.W2 : Int), .int .i64 (d.H2 : Int), .slice (some ⟨x2, 0, none⟩) d.nC d.nC, .int .i64 (d.W2 : Int), .int .i64 (d.H2 : Int), .slice (some ⟨x3, 0, none⟩) d.nC d.nC] 37)) := (Mod.refl _ _).alloc _
        have hcell5 := (World.cell?_of_block ((hM5.trans mA).block b hbw (fun h => h))).trans HI.out.1
        have H5 := Lib.hid (And.intro (hD5.quiet mA) (And.intro ((HR.out.2.1.beside hm5 (Ne.symm hmd) HR.out.1).quiet mA) (And.intro (hM5.trans mA) (And.intro (HI.out.2.1.quiet (hM5.trans mA)) (And.intro (Blk.new w5 37 #[.int .i64 (d.W : Int), .int .i64 (d.H : Int), .slice (some ⟨x1, 0, none⟩) d.nY d.nY, .int .i64 (d.W2 : Int), .int .i64 (d.H2 : Int), .slice (some ⟨x2, 0, none⟩) d.nC d.nC, .int .i64 (d.W2 : Int), .int .i64 (d.H2 : Int), .slice (some ⟨x3, 0, none⟩) d.nC d.nC]) (And.intro hf (hfa.quiet mA)))))))
        clear hm5 hf mA hcell HR hM5 hD5 hfa
        unfold frameV
        go_wp2_with fail
        refine (rFrame _ mg d H3.out.2.2.2.1 H3.out.2.2.2.2.1 G nx H3.out.2.2.2.2.2 ah H5.out.2.1 Ai ni ci li H5.out.2.2.2.1 hni HI.out.2.2).mono ?_
        rintro e w6 (⟨er', hfe', rfl, hm6⟩ | ⟨f', nx'', p, hf', rfl, ⟨b0, k0, b1, k1, b2, k2, rfl, hfb⟩, hE6, hm6⟩)
        · exfalso
          have h1 := H5.out.2.2.2.2.2.1
          rw [hfe'] at h1
          cases h1
        · obtain ⟨rfl, rfl⟩ : f' = f ∧ nx'' = nx' := by
            have h1 := H5.out.2.2.2.2.2.1
            rw [hf'] at h1
            injection h1 with h1
            injection h1 with h1 h2
            exact ⟨h1, h2⟩
          have mA : Mod (fun _ => False) w6 (w6.alloc (.cells #[.int .i64 (d.W : Int), .int .i64 (d.H : Int), .slice (some ⟨b0, 0, none⟩) d.nY k0, .int .i64 (d.W2 : Int), .int .i64 (d.H2 : Int), .slice (some ⟨b1, 0, none⟩) d.nC k1, .int .i64 (d.W2 : Int), .int .i64 (d.H2 : Int), .slice (some ⟨b2, 0, none⟩) d.nC k2] 37)) := (Mod.refl _ _).alloc _
          have hmgl : mg < w5.heap.size := Nat.lt_of_lt_of_le hmgw hm5s
          have hx := (H5.out.2.2.2.2.1.keep hm6 (by omega)).alloc (.cells #[.int .i64 (d.W : Int), .int .i64 (d.H : Int), .slice (some ⟨b0, 0, none⟩) d.nY k0, .int .i64 (d.W2 : Int), .int .i64 (d.H2 : Int), .slice (some ⟨b1, 0, none⟩) d.nC k1, .int .i64 (d.W2 : Int), .int .i64 (d.H2 : Int), .slice (some ⟨b2, 0, none⟩) d.nC k2] 37)
          have hy := Blk.new w6 37 #[.int .i64 (d.W : Int), .int .i64 (d.H : Int), .slice (some ⟨b0, 0, none⟩) d.nY k0, .int .i64 (d.W2 : Int), .int .i64 (d.H2 : Int), .slice (some ⟨b1, 0, none⟩) d.nC k1, .int .i64 (d.W2 : Int), .int .i64 (d.H2 : Int), .slice (some ⟨b2, 0, none⟩) d.nC k2]
          have hfx := (H5.out.2.2.2.2.2.2.mod hm6 (by omega) (by omega) (by omega)).quiet mA
          have hfy := hfb.quiet mA
          obtain ⟨xc, xf⟩ := hx.both
          obtain ⟨yc, yf⟩ := hy.both
          have hSm := fsame_fr (w6.alloc (.cells #[.int .i64 (d.W : Int), .int .i64 (d.H : Int), .slice (some ⟨b0, 0, none⟩) d.nY k0, .int .i64 (d.W2 : Int), .int .i64 (d.H2 : Int), .slice (some ⟨b1, 0, none⟩) d.nC k1, .int .i64 (d.W2 : Int), .int .i64 (d.H2 : Int), .slice (some ⟨b2, 0, none⟩) d.nC k2] 37)) d H3.out.2.2.2.1 f' x1 x2 x3 _ b0 k0 b1 k1 b2 k2 hfx hfy
          have H6 := Lib.hid (And.intro ((H5.out.1.besideR hm6 hmd H5.out.2.1).quiet mA) (And.intro (hE6.quiet mA) ((H5.out.2.2.1.into hm6 (fun i e => .inr (by omega))).trans mA)))
          clear H5 hm6 mA hE6 hfb hf' hfx hfy hm5s hmgl hmgw lx1 lx2 lx3 hx hy
          unfold frV
          unfold frV frameV at hSm
          have HSm := Lib.hid hSm
          clear hSm
          go_wp2_with fail
          refine HSm.out.mono ?_
          clear HSm
          rintro e w8 ⟨rfl, hm8⟩
          have m8 : Mod (fun _ => False) w8 w8.drew := (Mod.refl _ _).drew
          have hE8 := (H6.out.2.1.quiet hm8).quiet m8
          have e12 := hE8.nx
          have H8 := Lib.hid (And.intro ((H6.out.1.quiet hm8).quiet m8) (And.intro hE8 ((H6.out.2.2.trans hm8).trans m8)))
          clear hm8 xc xf yc yf m8 hE8
          go_upto_region 15 with (fail)
          refine wp_region_planS [] [] (0 :: 1 :: 2 :: 3 :: 4 :: 5 :: 6 :: 7 :: 8 :: 9 :: 10 :: 11 :: 12 :: 13 :: 14 :: 15 :: []) (fun _ => True) (by kernel_rfl) (by kernel_rfl) (fun _ _ _ d _ h => by cases d <;> exact h) trivial ?_
          iterate 9 (refine planS_still rfl rfl (fun K hK => ?_); go_simp; refine hK _ ?_; clear hK K)
          refine planS_still rfl rfl (fun K hK => ?_)
          go_simp
          refine ⟨_, (H8.out.1.next).mono (fun _ _ ⟨a, b⟩ => ⟨a, b.symm⟩), hK _ ?_⟩
          clear hK K
          iterate 6 (refine planS_still rfl rfl (fun K hK => ?_); go_simp; refine hK _ ?_; clear hK K)
          refine planS_done ?_
          go_wp2_with fail
          go_roundw
          case rel => exact ⟨k + 1, nx'', some f', by omega, by go_num, H8.out.1, H8.out.2.1, H8.out.2.2⟩
          case measure => simp [intOf]; omega
    · obtain rfl : k = n1 := by omega
      have d3 : decide ((k : Int) < (k : Int)) = false := decide_eq_false (by omega)
      obtain ⟨fr, hmb, hfl, _⟩ := hE
      have HR := Lib.hid (And.intro hD (And.intro hmb (And.intro hM hfl)))
      clear hD hmb hM hfl
      go_upto_region 17 with (fail)
      refine wp_region_planT [0, 3] [4, 5, 6, 7] (0 :: 1 :: 2 :: 4 :: 5 :: 6 :: 7 :: 3 :: 8 :: 9 :: 10 :: []) (fun w' => Blk w' mg 45 (rdecV d.W d.H G nx fr)) (by kernel_rfl) (by kernel_rfl) (fun _ _ _ d _ h => by cases d <;> exact h) HR.out.2.1.drew ?_
      refine planT_loud rfl rfl (fun K hK => ?_)
      go_simp
      refine (alive13 _).mono ?_
      rintro e w5 ⟨rfl, hm⟩
      have m5 : Mod (fun _ => False) wr w5 := ((Mod.refl _ wr).drew).trans hm
      have H5 := Lib.hid (And.intro (HR.out.1.quiet m5) (And.intro (HR.out.2.1.keep m5 (fun h => h)) (HR.out.2.2.1.trans m5)))
      dsimp only []
      refine hK _ _ (HR.out.2.1.keep m5 (fun h => h)) ?_
      clear hK K hm m5
      iterate 2 (refine planT_still rfl rfl (fun K hK => ?_); go_simp; refine hK _ ?_; clear hK K)
      refine planT_read (v := .pointer (some ⟨mg, 0, none⟩)) rfl rfl rfl (fun _ _ => rfl) (fun K hK => ?_); go_simp; refine hK _ ?_; clear hK K
      refine planT_read (v := .pointer (some ⟨mg, 0, none⟩)) rfl rfl rfl (fun _ _ => rfl) (fun K hK => ?_); go_simp; refine hK _ ?_; clear hK K
      refine planT_read (v := .pointer (some ⟨mg, 0, none⟩)) rfl rfl rfl (fun _ _ => rfl) (fun K hK => ?_); go_simp; refine hK _ ?_; clear hK K
      refine planT_load rfl rfl _ _ rfl rfl mg 0 rfl [.int .i64 (d.W : Int), .int .i64 (d.H : Int), .int .i64 G] _ (fun w' hS => hS.range 0 _ (rdecV_seq _ _ _ _ _)) Tryz.underlying43 rfl (by kernel_rfl) (fun K hK => ?_); go_simp; refine hK _ ?_; clear hK K
      refine planT_loud rfl rfl (fun K hK => ?_)
      go_simp
      refine (H5.out.1.seq).mono ?_
      rintro e w6 ⟨rfl, hm6⟩
      have H6 := Lib.hid (H5.out.2.2.trans hm6)
      dsimp only []
      refine hK _ _ (H5.out.2.1.keep hm6 (fun h => h)) ?_
      clear hK K hm6
      iterate 3 (refine planT_still rfl rfl (fun K hK => ?_); go_simp; refine hK _ ?_; clear hK K)
      refine planT_done ?_
      go_wp2_with fail
      go_ret
      exact ⟨rfl, H6.out.below (fun _ h => h.elim)⟩
end Go.Proofs.YteppnjgfebcmjaaGreat
