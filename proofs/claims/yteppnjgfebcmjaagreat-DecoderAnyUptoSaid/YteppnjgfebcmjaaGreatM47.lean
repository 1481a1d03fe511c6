/-
  decoder: plain laws of a coded frame; a decoder's small functions by what it is.
-/
import Derived.Test.YteppnjgfebcmjaaGreatM46
import Derived.Test.YteppnjgfebcmjaaGreatM23
import Derived.Test.YteppnjgfebcmjaaGreatM16
namespace Go.Proofs.YteppnjgfebcmjaaGreat
open Go.RowKit

theorem stepB_key (d : Dim) (a b : Pix) (Q : Int) (pl x y : Nat) (vx vy : Int) (f : Pix) (s : St) : stepB d a 2 Q pl x y vx vy f s = stepB d b 2 Q pl x y vx vy f s := by
  unfold stepB gof
  rw [if_pos rfl, if_pos rfl]
theorem blkFrom_key (d : Dim) (a b : Pix) (Q : Int) (x y : Nat) (vx vy : Int) : ∀ (n : Nat) (f : Pix) (s : St), blkFrom d a 2 Q x y vx vy n f s = blkFrom d b 2 Q x y vx vy n f s := by
  intro n
  induction n with
  | zero => intro f s; rfl
  | succ n ih =>
    intro f s
    unfold blkFrom
    rw [stepB_key d a b]
    congr 1
    funext p
    exact ih _ _
theorem squareS_key (d : Dim) (a b : Pix) (Q : Int) (x y : Nat) (f : Pix) (s : St) : squareS d a true Q x y f s = squareS d b true Q x y f s := by
  unfold squareS skind
  rw [if_pos rfl]
  simp only [Option.bind_some]
  refine congrArg (Option.bind (skvec 2 s)) ?_
  funext v
  exact blkFrom_key d a b Q x y _ _ 6 f v.2
theorem rowS_key (d : Dim) (a b : Pix) (Q : Int) (y : Nat) : ∀ (n : Nat) (f : Pix) (s : St), rowS d a true Q y n f s = rowS d b true Q y n f s := by
  intro n
  induction n with
  | zero => intro f s; rfl
  | succ n ih =>
    intro f s
    unfold rowS
    rw [squareS_key d a b]
    congr 1
    funext p
    exact ih _ _
theorem rowsS_key (d : Dim) (a b : Pix) (Q : Int) : ∀ (n : Nat) (f : Pix) (s : St), rowsS d a true Q n f s = rowsS d b true Q n f s := by
  intro n
  induction n with
  | zero => intro f s; rfl
  | succ n ih =>
    intro f s
    unfold rowsS
    rw [rowS_key d a b]
    congr 1
    funext p
    exact ih _ _
theorem builtS_key (d : Dim) (a b : Pix) (Q : Int) (code : List UInt8) : builtS d a true Q code = builtS d b true Q code := by
  unfold builtS
  rw [rowsS_key d a b]
/-- A key's frame is what it is, whatever was ahead. -/
theorem frameS_key {d : Dim} {G nx nx' : Int} {ah ah' : Option Pix} {l : List UInt8} {N Q : Int} {a4 : Nat} (h : hdrParse l d.W d.H G = some ((true, N, Q), a4)) : frameS d G nx ah l = frameS d G nx' ah' l := by
  unfold frameS
  rw [h]
  dsimp only
  have k : ∀ m, keyless true N m = false := fun m => by simp [keyless]
  rw [k, k, builtS_key d (ah.getD noPix) (ah'.getD noPix)]
theorem frameS_bad0 {d : Dim} {G nx : Int} {ah : Option Pix} {l : List UInt8} {er : Int} (h : frameS d G 0 none l = .error er) (he : er = 121 ∨ er = 132) : frameS d G nx ah l = .error er := by
  cases hp : hdrParse l d.W d.H G with
  | none =>
    unfold frameS at h ⊢
    rw [hp] at h ⊢
    exact h
  | some x =>
    obtain ⟨⟨K, N, Q⟩, a4⟩ := x
    cases K with
    | true => rw [frameS_key hp (nx' := 0) (ah' := none)]; exact h
    | false =>
      unfold frameS at h
      rw [hp] at h
      dsimp only at h
      rw [if_pos (by simp [keyless])] at h
      injection h with h
      omega
theorem frameS_err {d : Dim} {G nx : Int} {ah : Option Pix} {l : List UInt8} {er : Int} (h : frameS d G nx ah l = .error er) : er = 121 ∨ er = 131 ∨ er = 132 := by
  unfold frameS at h
  split at h
  · injection h with h; omega
  · split at h
    · injection h with h; omega
    · split at h
      · injection h with h; omega
      · cases h
theorem frameS_ok1 {d : Dim} {G nx : Int} {ah : Option Pix} {l : List UInt8} {f : Pix} {m : Int} (h : frameS d G nx ah l = .ok (f, m)) : 0 ≤ m ∧ m < 64 := by
  unfold frameS at h
  split at h
  · cases h
  · rename_i K N Q a4 hp
    obtain ⟨_, h2, _⟩ := hdr_bounds hp
    split at h
    · cases h
    · split at h
      · cases h
      · injection h with h
        injection h with h3 h4
        have := Int.emod_nonneg (N + 1) (show G ≠ 0 by omega)
        have := Int.emod_lt_of_pos (N + 1) (show 0 < G by omega)
        omega
/-- Are the first bit's frames keys? -/
theorem hdr_key {l : List UInt8} {W H G : Int} {K : Bool} {N Q : Int} {a4 : Nat} (h : hdrParse l W H G = some ((K, N, Q), a4)) (h1 : 128 ≤ (l.getD 0 0).toNat) : K = true := by
  have hb : bitAt l 0 = 1 := by
    unfold bitAt
    have := UInt8.toNat_lt (l.getD 0 0)
    show (l.getD 0 0).toNat / 128 % 2 = 1
    omega
  unfold hdrParse at h
  split at h
  · cases h
  · rename_i k a1 hk
    have hk1 : k = 1 := by
      unfold bget at hk
      split at hk
      · injection hk with hk
        injection hk with hk _
        rw [numAt_one] at hk
        omega
      · cases hk
    subst hk1
    split at h
    · cases h
    · split at h
      · cases h
      · split at h
        · split at h
          · cases h
          · injection h with h
            injection h with h2 _
            injection h2 with h3 _
            rw [← h3]
            rfl
        · cases h

def mkDim (W H : Int) : Dim := ⟨W.toNat, H.toNat, W.toNat / 2, H.toNat / 2, W.toNat * H.toNat, W.toNat / 2 * (H.toNat / 2)⟩
theorem mkDim_ok {W H G : Int} (h : seqRight W H G = true) : (mkDim W H).Ok ∧ ((mkDim W H).W : Int) = W ∧ ((mkDim W H).H : Int) = H := by
  unfold seqRight at h
  rw [decide_eq_true_eq] at h
  refine ⟨⟨?_, ?_, ?_, ?_, ?_, rfl, rfl⟩, ?_, ?_⟩
  · unfold sidesB
    rw [decide_eq_true_eq]
    simp only [mkDim]
    omega
  all_goals (simp only [mkDim]; omega)

def NewAt (w : World) (l : List UInt8) (e : Ending) (w' : World) : Prop :=
  Mod (fun _ => False) w w' ∧ ((seqParse l = none ∧ e = .returned (.tuple #[.pointer none, .int .i64 121])) ∨
  ∃ (d : Dim) (G : Int) (g : Nat), d.Ok ∧ seqParse l = some ((d.W : Int), (d.H : Int), G) ∧ e = .returned (.tuple #[.pointer (some ⟨g, 0, none⟩), .int .i64 0]) ∧ DecAt w' g d G 0 none ∧ w.heap.size ≤ g)
theorem decNew' (w : World) (A : Option Addr) (n c : Nat) (l : List UInt8) (hin : BytesIn w A n c l) (hn : n ≤ 1048576) : Calls Tryz.prog 11 #[.slice A n c] w (NewAt w l) := by
  refine (decNew w A n c l hin hn).mono ?_
  rintro e w' ⟨hm, ⟨h1, rfl⟩ | ⟨W, H, G, g, hs, rfl, hb, hg⟩⟩
  · exact ⟨hm, .inl ⟨h1, rfl⟩⟩
  · obtain ⟨hd, hW, hH⟩ := mkDim_ok (seqParse_right hs)
    dsimp only at hd hW hH
    refine ⟨hm, .inr ⟨mkDim W H, G, g, hd, by rw [hs, hW, hH], rfl, ⟨noFrame, 0, 0, 0, ?_, rfl, fun _ => rfl, fun f e => by cases e⟩, hg⟩⟩
    rw [hW, hH]
    exact hb
theorem DecAt.next {w : World} {g : Nat} {d : Dim} {G nx : Int} {ah : Option Pix} (h : DecAt w g d G nx ah) : Calls Tryz.prog 16 #[.pointer (some ⟨g, 0, none⟩)] w fun e w' => e = .returned (.int .i64 nx) ∧ w = w' := by
  obtain ⟨fr, ay, au, av, hb, _⟩ := h
  exact decNext w g _ _ _ _ _ hb
theorem DecAt.seq {w : World} {g : Nat} {d : Dim} {G nx : Int} {ah : Option Pix} (h : DecAt w g d G nx ah) : Calls Tryz.prog 17 #[.pointer (some ⟨g, 0, none⟩)] w fun e w' => e = .returned (.agg #[.int .i64 (d.W : Int), .int .i64 (d.H : Int), .int .i64 G]) ∧ Mod (fun _ => False) w w' := by
  obtain ⟨fr, ay, au, av, hb, _⟩ := h
  exact decSeq w g _ _ _ _ _ hb
/-- Any decoder in memory. -/
def DecAny (w : World) (g : Nat) : Prop := ∃ (W H G nx : Int) (fr : List Value), fr.length = 9 ∧ Blk w g 60 (decCells W H G nx fr)
theorem DecAt.any {w : World} {g : Nat} {d : Dim} {G nx : Int} {ah : Option Pix} (h : DecAt w g d G nx ah) : DecAny w g := by
  obtain ⟨fr, ay, au, av, hb, hl, _⟩ := h
  exact ⟨_, _, _, _, fr, hl, hb⟩
theorem DecAny.reset {w : World} {g : Nat} (h : DecAny w g) (A : Option Addr) (n c : Nat) (l : List UInt8) (hin : BytesIn w A n c l) (hn : n ≤ 1048576) :
    Calls Tryz.prog 20 #[.pointer (some ⟨g, 0, none⟩), .slice A n c] w (ResetPost w g l) := by
  obtain ⟨W, H, G, nx, fr, hl, hb⟩ := h
  exact decReset w g W H G nx fr hl hb A n c l hin hn
end Go.Proofs.YteppnjgfebcmjaaGreat

/-
  plane.Same of two frames that are alike.
-/
namespace Go.Proofs.YteppnjgfebcmjaaGreat
open Go.RowKit

set_option maxRecDepth 100000 in
set_option maxHeartbeats 2000000 in
theorem pAlike (w : World) (W H : Int) (A B : Option Addr) (n c m k : Nat) (l : List UInt8) (ha : BytesIn w A n c l) (hb : BytesIn w B m k l) :
    Calls Tryz.prog 44 #[.agg #[.int .i64 W, .int .i64 H, .slice A n c], .agg #[.int .i64 W, .int .i64 H, .slice B m k]] w fun e w' => e = .returned (.bool true) ∧ Mod (fun _ => False) w w' := by
  have M := (((Mod.refl (fun _ => False) w).alloc (.cells #[.int .i64 W, .int .i64 H, .slice A n c] 35)).alloc (.cells #[.int .i64 W, .int .i64 H, .slice B m k] 35))
  have ha' := ha.quiet M
  have hb' := hb.quiet M
  have s1 := str_src _ A n c l ha'.1 ha'.2.2.1
  have s2 := str_src _ B m k l hb'.1 hb'.2.2.1
  have HM := Lib.hid M
  clear M ha' hb' ha hb
  go_enter Tryz.func44, Tryz.ntmps44
  go_wp2_with fail
  go_ret
  exact ⟨rfl, HM.out⟩

/-- Two planes' values that are alike. -/
structure Alike (w : World) (a b : Value) : Prop where
  is : ∃ (W H : Int) (A B : Option Addr) (n c m k : Nat) (l : List UInt8), a = .agg #[.int .i64 W, .int .i64 H, .slice A n c] ∧ b = .agg #[.int .i64 W, .int .i64 H, .slice B m k] ∧ BytesIn w A n c l ∧ BytesIn w B m k l
theorem pAlike' (w : World) (W H : Int) (A B : Option Addr) (n c m k : Nat) (h : ∃ l, BytesIn w A n c l ∧ BytesIn w B m k l) :
    Calls Tryz.prog 44 #[.agg #[.int .i64 W, .int .i64 H, .slice A n c], .agg #[.int .i64 W, .int .i64 H, .slice B m k]] w fun e w' => e = .returned (.bool true) ∧ Mod (fun _ => False) w w' := by
  obtain ⟨l, h1, h2⟩ := h
  exact pAlike w W H A B n c m k l h1 h2
theorem both_quiet {w w' : World} {A B : Option Addr} {n c m k : Nat} (h : ∃ l, BytesIn w A n c l ∧ BytesIn w B m k l) (hm : Mod (fun _ => False) w w') : ∃ l, BytesIn w' A n c l ∧ BytesIn w' B m k l := by
  obtain ⟨l, h1, h2⟩ := h
  exact ⟨l, h1.quiet hm, h2.quiet hm⟩

set_option maxRecDepth 100000 in
set_option maxHeartbeats 2000000 in
theorem pSame (w : World) (W H W1 H1 W2 H2 : Int) (A B A1 B1 A2 B2 : Option Addr) (n c m k n1 c1 m1 k1 n2 c2 m2 k2 : Nat)
    (h : ∃ l, BytesIn w A n c l ∧ BytesIn w B m k l) (h1 : ∃ l, BytesIn w A1 n1 c1 l ∧ BytesIn w B1 m1 k1 l) (h2 : ∃ l, BytesIn w A2 n2 c2 l ∧ BytesIn w B2 m2 k2 l) :
    Calls Tryz.prog 21 #[.agg #[.int .i64 W, .int .i64 H, .slice A n c, .int .i64 W1, .int .i64 H1, .slice A1 n1 c1, .int .i64 W2, .int .i64 H2, .slice A2 n2 c2], .agg #[.int .i64 W, .int .i64 H, .slice B m k, .int .i64 W1, .int .i64 H1, .slice B1 m1 k1, .int .i64 W2, .int .i64 H2, .slice B2 m2 k2]] w fun e w' => e = .returned (.bool true) ∧ Mod (fun _ => False) w w' := by
  have HS0 := ((Sat.nil (fun _ => False) w).alloc 37 #[.int .i64 W, .int .i64 H, .slice A n c, .int .i64 W1, .int .i64 H1, .slice A1 n1 c1, .int .i64 W2, .int .i64 H2, .slice A2 n2 c2] rfl).alloc (g := w.heap.size + 1) 37 #[.int .i64 W, .int .i64 H, .slice B m k, .int .i64 W1, .int .i64 H1, .slice B1 m1 k1, .int .i64 W2, .int .i64 H2, .slice B2 m2 k2] (by simp)
  have E0 := Lib.hid (And.intro HS0 (And.intro h (And.intro h1 h2)))
  clear HS0 h h1 h2
  go_enter Tryz.func21, Tryz.ntmps21
  go_wp2_with fail
  refine (pAlike' _ W H A B n c m k (both_quiet E0.out.2.1 E0.out.1.mod)).mono ?_
  rintro e w1 ⟨rfl, hm⟩
  have HS1 := Sat.after hm E0.out.1
  obtain ⟨pc, pf⟩ := (HS1.own_ 1 rfl).both
  obtain ⟨qc, qf⟩ := (HS1.own_ 0 rfl).both
  have E1 := Lib.hid HS1
  clear HS1 hm
  go_wp2_with fail
  refine (pAlike' _ W1 H1 A1 B1 n1 c1 m1 k1 (both_quiet E0.out.2.2.1 E1.out.mod)).mono ?_
  rintro e w2 ⟨rfl, hm⟩
  have HS2 := Sat.after hm E1.out
  clear pc pf qc qf
  obtain ⟨pc, pf⟩ := (HS2.own_ 1 rfl).both
  obtain ⟨qc, qf⟩ := (HS2.own_ 0 rfl).both
  have E2 := Lib.hid HS2
  clear HS2 hm
  go_wp2_with fail
  refine (pAlike' _ W2 H2 A2 B2 n2 c2 m2 k2 (both_quiet E0.out.2.2.2 E2.out.mod)).mono ?_
  rintro e w3 ⟨rfl, hm⟩
  have E3 := Lib.hid (E2.out.quiet hm).mod
  clear hm pc pf qc qf
  go_wp2_with fail
  go_ret
  exact ⟨rfl, E3.out⟩
end Go.Proofs.YteppnjgfebcmjaaGreat

/-
  Laws of the decoder's statements: what both of them use.
-/
namespace Go.Proofs.YteppnjgfebcmjaaGreat
open Go.RowKit

theorem BytesIn.none_ (w : World) : BytesIn w none 0 0 [] := ⟨rfl, fun _ => rfl, Src.nil, fun h => absurd h (by omega)⟩
theorem same_no (w : World) : Calls Tryz.prog 21 #[.agg #[.int .i64 0, .int .i64 0, .slice none 0 0, .int .i64 0, .int .i64 0, .slice none 0 0, .int .i64 0, .int .i64 0, .slice none 0 0], .agg #[.int .i64 0, .int .i64 0, .slice none 0 0, .int .i64 0, .int .i64 0, .slice none 0 0, .int .i64 0, .int .i64 0, .slice none 0 0]] w fun e w' => e = .returned (.bool true) ∧ Mod (fun _ => False) w w' :=
  pSame w 0 0 0 0 0 0 none none none none none none 0 0 0 0 0 0 0 0 0 0 0 0 ⟨[], BytesIn.none_ w, BytesIn.none_ w⟩ ⟨[], BytesIn.none_ w, BytesIn.none_ w⟩ ⟨[], BytesIn.none_ w, BytesIn.none_ w⟩
theorem same_fr (w : World) (d : Dim) (hd : d.Ok) (f : Pix) (a1 a2 a3 b1 b2 b3 : Nat) (ha : FrameAt w d a1 a2 a3 f) (hb : FrameAt w d b1 b2 b3 f) : Calls Tryz.prog 21 #[.agg (frameV d a1 a2 a3).toArray, .agg (frameV d b1 b2 b3).toArray] w fun e w' => e = .returned (.bool true) ∧ Mod (fun _ => False) w w' :=
  pSame w d.W d.H d.W2 d.H2 d.W2 d.H2 _ _ _ _ _ _ d.nY d.nY d.nY d.nY d.nC d.nC d.nC d.nC d.nC d.nC d.nC d.nC ⟨f.Y, blkIn ha.by_ ha.ly hd.nyle, blkIn hb.by_ hb.ly hd.nyle⟩ ⟨f.U, blkIn ha.bu ha.lu hd.ncle, blkIn hb.bu hb.lu hd.ncle⟩ ⟨f.V, blkIn ha.bv ha.lv hd.ncle, blkIn hb.bv hb.lv hd.ncle⟩
theorem cells18 {w : World} {p q : Nat} {x0 x1 x2 x3 x4 x5 x6 x7 x8 y0 y1 y2 y3 y4 y5 y6 y7 y8 : Value} (h : Blk w p 37 #[x0, x1, x2, x3, x4, x5, x6, x7, x8]) (k : Blk w q 37 #[y0, y1, y2, y3, y4, y5, y6, y7, y8]) : w.cell? ⟨p, 0, none⟩ = some x0 ∧ w.cell? ⟨p, 1, none⟩ = some x1 ∧ w.cell? ⟨p, 2, none⟩ = some x2 ∧ w.cell? ⟨p, 3, none⟩ = some x3 ∧ w.cell? ⟨p, 4, none⟩ = some x4 ∧ w.cell? ⟨p, 5, none⟩ = some x5 ∧ w.cell? ⟨p, 6, none⟩ = some x6 ∧ w.cell? ⟨p, 7, none⟩ = some x7 ∧ w.cell? ⟨p, 8, none⟩ = some x8 ∧ w.cell? ⟨q, 0, none⟩ = some y0 ∧ w.cell? ⟨q, 1, none⟩ = some y1 ∧ w.cell? ⟨q, 2, none⟩ = some y2 ∧ w.cell? ⟨q, 3, none⟩ = some y3 ∧ w.cell? ⟨q, 4, none⟩ = some y4 ∧ w.cell? ⟨q, 5, none⟩ = some y5 ∧ w.cell? ⟨q, 6, none⟩ = some y6 ∧ w.cell? ⟨q, 7, none⟩ = some y7 ∧ w.cell? ⟨q, 8, none⟩ = some y8 :=
  ⟨h.cell 0, h.cell 1, h.cell 2, h.cell 3, h.cell 4, h.cell 5, h.cell 6, h.cell 7, h.cell 8, k.cell 0, k.cell 1, k.cell 2, k.cell 3, k.cell 4, k.cell 5, k.cell 6, k.cell 7, k.cell 8⟩

theorem same_dim {l : List UInt8} {d d' : Dim} {G G' : Int} {w : World} {g : Nat} (h1 : seqParse l = some ((d.W : Int), (d.H : Int), G)) (h2 : seqParse l = some ((d'.W : Int), (d'.H : Int), G')) (h : DecAt w g d' G' 0 none) : DecAt w g d G 0 none := by
  rw [h1] at h2
  injection h2 with h2
  injection h2 with e1 e2
  injection e2 with e2 e3
  subst e3
  obtain ⟨fr, ay, au, av, hb, hl, hn, hf⟩ := h
  exact ⟨fr, ay, au, av, by rw [e1, e2]; exact hb, hl, hn, fun f e => by cases e⟩
end Go.Proofs.YteppnjgfebcmjaaGreat
