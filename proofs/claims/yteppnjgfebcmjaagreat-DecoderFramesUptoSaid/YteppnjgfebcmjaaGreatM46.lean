/-
  decoder: plain laws of a coded frame; a decoder's small functions by what it is.
-/
import Derived.Test.YteppnjgfebcmjaaGreatM45
import Derived.Test.YteppnjgfebcmjaaGreatM41
import Derived.Test.YteppnjgfebcmjaaGreatM44
import Derived.Test.YteppnjgfebcmjaaGreatM13
import Derived.Test.YteppnjgfebcmjaaGreatM43
import Derived.Test.YteppnjgfebcmjaaGreatM31
namespace Go.Proofs.YteppnjgfebcmjaaGreat
open Go.RowKit

theorem stepB_key (d : Dim) (a b : Pix) (Q : Int) (pl x y : Nat) (vx vy : Int) (f : Pix) (s : St) : stepB d a 2 Q pl x y vx vy f s = stepB d b 2 Q pl x y vx vy f s := by
  unfold stepB gof
  rw [if_pos rfl, if_pos rfl]
theorem blkFrom_key (d : Dim) (a b : Pix) (Q : Int) (x y : Nat) (vx vy : Int) : ∀ (n : Nat) (f : Pix) (s : St), blkFrom d a 2 Q x y vx vy n f s = blkFrom d b 2 Q x y vx vy n f s := by
  intro n
  induction n with
  | zero => intro f s; rfl
  | succ n ih =>
    intro f s
    unfold blkFrom
    rw [stepB_key d a b]
    congr 1
    funext p
    exact ih _ _
theorem squareS_key (d : Dim) (a b : Pix) (Q : Int) (x y : Nat) (f : Pix) (s : St) : squareS d a true Q x y f s = squareS d b true Q x y f s := by
  unfold squareS skind
  rw [if_pos rfl]
  simp only [Option.bind_some]
  refine congrArg (Option.bind (skvec 2 s)) ?_
  funext v
  exact blkFrom_key d a b Q x y _ _ 6 f v.2
theorem rowS_key (d : Dim) (a b : Pix) (Q : Int) (y : Nat) : ∀ (n : Nat) (f : Pix) (s : St), rowS d a true Q y n f s = rowS d b true Q y n f s := by
  intro n
  induction n with
  | zero => intro f s; rfl
  | succ n ih =>
    intro f s
    unfold rowS
    rw [squareS_key d a b]
    congr 1
    funext p
    exact ih _ _
theorem rowsS_key (d : Dim) (a b : Pix) (Q : Int) : ∀ (n : Nat) (f : Pix) (s : St), rowsS d a true Q n f s = rowsS d b true Q n f s := by
  intro n
  induction n with
  | zero => intro f s; rfl
  | succ n ih =>
    intro f s
    unfold rowsS
    rw [rowS_key d a b]
    congr 1
    funext p
    exact ih _ _
theorem builtS_key (d : Dim) (a b : Pix) (Q : Int) (code : List UInt8) : builtS d a true Q code = builtS d b true Q code := by
  unfold builtS
  rw [rowsS_key d a b]
/-- A key's frame is what it is, whatever was ahead. -/
theorem frameS_key {d : Dim} {G nx nx' : Int} {ah ah' : Option Pix} {l : List UInt8} {N Q : Int} {a4 : Nat} (h : hdrParse l d.W d.H G = some ((true, N, Q), a4)) : frameS d G nx ah l = frameS d G nx' ah' l := by
  unfold frameS
  rw [h]
  dsimp only
  have k : ∀ m, keyless true N m = false := fun m => by simp [keyless]
  rw [k, k, builtS_key d (ah.getD noPix) (ah'.getD noPix)]
theorem frameS_bad0 {d : Dim} {G nx : Int} {ah : Option Pix} {l : List UInt8} {er : Int} (h : frameS d G 0 none l = .error er) (he : er = 121 ∨ er = 132) : frameS d G nx ah l = .error er := by
  cases hp : hdrParse l d.W d.H G with
  | none =>
    unfold frameS at h ⊢
    rw [hp] at h ⊢
    exact h
  | some x =>
    obtain ⟨⟨K, N, Q⟩, a4⟩ := x
    cases K with
    | true => rw [frameS_key hp (nx' := 0) (ah' := none)]; exact h
    | false =>
      unfold frameS at h
      rw [hp] at h
      dsimp only at h
      rw [if_pos (by simp [keyless])] at h
      injection h with h
      omega
theorem frameS_err {d : Dim} {G nx : Int} {ah : Option Pix} {l : List UInt8} {er : Int} (h : frameS d G nx ah l = .error er) : er = 121 ∨ er = 131 ∨ er = 132 := by
  unfold frameS at h
  split at h
  · injection h with h; omega
  · split at h
    · injection h with h; omega
    · split at h
      · injection h with h; omega
      · cases h
theorem frameS_ok1 {d : Dim} {G nx : Int} {ah : Option Pix} {l : List UInt8} {f : Pix} {m : Int} (h : frameS d G nx ah l = .ok (f, m)) : 0 ≤ m ∧ m < 64 := by
  unfold frameS at h
  split at h
  · cases h
  · rename_i K N Q a4 hp
    obtain ⟨_, h2, _⟩ := hdr_bounds hp
    split at h
    · cases h
    · split at h
      · cases h
      · injection h with h
        injection h with h3 h4
        have := Int.emod_nonneg (N + 1) (show G ≠ 0 by omega)
        have := Int.emod_lt_of_pos (N + 1) (show 0 < G by omega)
        omega
/-- Are the first bit's frames keys? -/
theorem hdr_key {l : List UInt8} {W H G : Int} {K : Bool} {N Q : Int} {a4 : Nat} (h : hdrParse l W H G = some ((K, N, Q), a4)) (h1 : 128 ≤ (l.getD 0 0).toNat) : K = true := by
  have hb : bitAt l 0 = 1 := by
    unfold bitAt
    have := UInt8.toNat_lt (l.getD 0 0)
    show (l.getD 0 0).toNat / 128 % 2 = 1
    omega
  unfold hdrParse at h
  split at h
  · cases h
  · rename_i k a1 hk
    have hk1 : k = 1 := by
      unfold bget at hk
      split at hk
      · injection hk with hk
        injection hk with hk _
        rw [numAt_one] at hk
        omega
      · cases hk
    subst hk1
    split at h
    · cases h
    · split at h
      · cases h
      · split at h
        · split at h
          · cases h
          · injection h with h
            injection h with h2 _
            injection h2 with h3 _
            rw [← h3]
            rfl
        · cases h

def mkDim (W H : Int) : Dim := ⟨W.toNat, H.toNat, W.toNat / 2, H.toNat / 2, W.toNat * H.toNat, W.toNat / 2 * (H.toNat / 2)⟩
theorem mkDim_ok {W H G : Int} (h : seqRight W H G = true) : (mkDim W H).Ok ∧ ((mkDim W H).W : Int) = W ∧ ((mkDim W H).H : Int) = H := by
  unfold seqRight at h
  rw [decide_eq_true_eq] at h
  refine ⟨⟨?_, ?_, ?_, ?_, ?_, rfl, rfl⟩, ?_, ?_⟩
  · unfold sidesB
    rw [decide_eq_true_eq]
    simp only [mkDim]
    omega
  all_goals (simp only [mkDim]; omega)

def NewAt (w : World) (l : List UInt8) (e : Ending) (w' : World) : Prop :=
  Mod (fun _ => False) w w' ∧ ((seqParse l = none ∧ e = .returned (.tuple #[.pointer none, .int .i64 121])) ∨
  ∃ (d : Dim) (G : Int) (g : Nat), d.Ok ∧ seqParse l = some ((d.W : Int), (d.H : Int), G) ∧ e = .returned (.tuple #[.pointer (some ⟨g, 0, none⟩), .int .i64 0]) ∧ DecAt w' g d G 0 none ∧ w.heap.size ≤ g)
theorem decNew' (w : World) (A : Option Addr) (n c : Nat) (l : List UInt8) (hin : BytesIn w A n c l) (hn : n ≤ 1048576) : Calls Tryz.prog 11 #[.slice A n c] w (NewAt w l) := by
  refine (decNew w A n c l hin hn).mono ?_
  rintro e w' ⟨hm, ⟨h1, rfl⟩ | ⟨W, H, G, g, hs, rfl, hb, hg⟩⟩
  · exact ⟨hm, .inl ⟨h1, rfl⟩⟩
  · obtain ⟨hd, hW, hH⟩ := mkDim_ok (seqParse_right hs)
    dsimp only at hd hW hH
    refine ⟨hm, .inr ⟨mkDim W H, G, g, hd, by rw [hs, hW, hH], rfl, ⟨noFrame, 0, 0, 0, ?_, rfl, fun _ => rfl, fun f e => by cases e⟩, hg⟩⟩
    rw [hW, hH]
    exact hb
theorem DecAt.next {w : World} {g : Nat} {d : Dim} {G nx : Int} {ah : Option Pix} (h : DecAt w g d G nx ah) : Calls Tryz.prog 16 #[.pointer (some ⟨g, 0, none⟩)] w fun e w' => e = .returned (.int .i64 nx) ∧ w = w' := by
  obtain ⟨fr, ay, au, av, hb, _⟩ := h
  exact decNext w g _ _ _ _ _ hb
theorem DecAt.seq {w : World} {g : Nat} {d : Dim} {G nx : Int} {ah : Option Pix} (h : DecAt w g d G nx ah) : Calls Tryz.prog 17 #[.pointer (some ⟨g, 0, none⟩)] w fun e w' => e = .returned (.agg #[.int .i64 (d.W : Int), .int .i64 (d.H : Int), .int .i64 G]) ∧ Mod (fun _ => False) w w' := by
  obtain ⟨fr, ay, au, av, hb, _⟩ := h
  exact decSeq w g _ _ _ _ _ hb
/-- Any decoder in memory. -/
def DecAny (w : World) (g : Nat) : Prop := ∃ (W H G nx : Int) (fr : List Value), fr.length = 9 ∧ Blk w g 60 (decCells W H G nx fr)
theorem DecAt.any {w : World} {g : Nat} {d : Dim} {G nx : Int} {ah : Option Pix} (h : DecAt w g d G nx ah) : DecAny w g := by
  obtain ⟨fr, ay, au, av, hb, hl, _⟩ := h
  exact ⟨_, _, _, _, fr, hl, hb⟩
theorem DecAny.reset {w : World} {g : Nat} (h : DecAny w g) (A : Option Addr) (n c : Nat) (l : List UInt8) (hin : BytesIn w A n c l) (hn : n ≤ 1048576) :
    Calls Tryz.prog 20 #[.pointer (some ⟨g, 0, none⟩), .slice A n c] w (ResetPost w g l) := by
  obtain ⟨W, H, G, nx, fr, hl, hb⟩ := h
  exact decReset w g W H G nx fr hl hb A n c l hin hn
end Go.Proofs.YteppnjgfebcmjaaGreat

/-
  The reference's decoder: made from a sequence.
-/
namespace Go.Proofs.YteppnjgfebcmjaaGreat
open Go.RowKit

/-- The reference's decoder in memory: its sequence, the frame ahead, the next number. -/
def RDecAt (w : World) (mg : Nat) (d : Dim) (G nx : Int) (ah : Option Pix) : Prop :=
  ∃ fr, Blk w mg 45 (rdecV d.W d.H G nx fr) ∧ fr.length = 9 ∧ (ah = none → nx = 0) ∧ ∀ f, ah = some f → ∃ b0 k0 b1 k1 b2 k2, fr = frV d b0 k0 b1 k1 b2 k2 ∧ FrB w 0 d b0 k0 b1 k1 b2 k2 f
theorem RDecAt.keep {w w' : World} {S : Nat → Prop} {mg : Nat} {d : Dim} {G nx : Int} {ah : Option Pix} (h : RDecAt w mg d G nx ah) (hm : Mod S w w') (hg : ¬ S mg) (hS : ∀ j, S j → w.heap.size ≤ j ∨ ∃ t cs, Blk w j t cs ∧ t ≠ 5) : RDecAt w' mg d G nx ah := by
  obtain ⟨fr, hb, hl, hn, hf⟩ := h
  refine ⟨fr, hb.keep hm hg, hl, hn, fun f e => ?_⟩
  obtain ⟨b0, k0, b1, k1, b2, k2, h1, h2⟩ := hf f e
  exact ⟨b0, k0, b1, k1, b2, k2, h1, h2.mod hm hS⟩
theorem RDecAt.quiet {w w' : World} {mg : Nat} {d : Dim} {G nx : Int} {ah : Option Pix} (h : RDecAt w mg d G nx ah) (hm : Mod (fun _ => False) w w') : RDecAt w' mg d G nx ah := h.keep hm (fun h => h) (fun _ h => h.elim)
def RNewAt (w : World) (l : List UInt8) (e : Ending) (w' : World) : Prop :=
  Mod (fun _ => False) w w' ∧ ((seqParse l = none ∧ e = .returned (.tuple #[.pointer none, .int .i64 121])) ∨
  ∃ (d : Dim) (G : Int) (g : Nat), d.Ok ∧ seqParse l = some ((d.W : Int), (d.H : Int), G) ∧ e = .returned (.tuple #[.pointer (some ⟨g, 0, none⟩), .int .i64 0]) ∧ RDecAt w' g d G 0 none ∧ w.heap.size ≤ g)

set_option maxRecDepth 100000 in
set_option maxHeartbeats 2000000 in
theorem rDecNew (w : World) (A : Option Addr) (n c : Nat) (l : List UInt8) (hin : BytesIn w A n c l) (hn : n ≤ 1048576) : Calls Tryz.prog 12 #[.slice A n c] w (RNewAt w l) := by
  have HP := Lib.hid (refParseSeq w A n c l hin hn)
  clear hin
  go_enter Tryz.func12, Tryz.ntmps12
  go_wp2_with fail
  refine HP.out.mono ?_
  rintro e w1 ⟨hm, ⟨h1, rfl⟩ | ⟨W, H, G, h1, rfl⟩⟩
  · have H1 := Lib.hid (And.intro hm h1)
    clear hm h1
    go_wp2_with fail
    go_ret2
    exact ⟨H1.out.1.alloc _, .inl ⟨by rw [← rseq_eq]; exact H1.out.2, rfl⟩⟩
  · have H1 := Lib.hid (And.intro hm h1)
    clear hm h1
    go_wp2_with fail
    go_ret2
    have hs : seqParse l = some (W, H, G) := by rw [← rseq_eq]; exact H1.out.2
    obtain ⟨hd, hW, hH⟩ := mkDim_ok (seqParse_right hs)
    dsimp only at hd hW hH
    refine ⟨(H1.out.1.alloc _).alloc _, .inr ⟨mkDim W H, G, _, hd, by rw [hs, hW, hH], rfl, ⟨noFrame, ?_, rfl, fun _ => rfl, fun f e => by cases e⟩, ?_⟩⟩
    · rw [hW, hH]
      have hb := Blk.new (w1.alloc (.cells #[.int .i64 W, .int .i64 H, .int .i64 G] 43)) 45 (rdecV W H G 0 noFrame)
      rw [show (w1.alloc (.cells #[.int .i64 W, .int .i64 H, .int .i64 G] 43)).heap.size = w1.heap.size + 1 by simp] at hb
      exact hb
    · exact Nat.le_trans H1.out.1.size (by simp)
end Go.Proofs.YteppnjgfebcmjaaGreat

/-
  The reference's decoder: the state of a coded frame's reading.
-/
namespace Go.Proofs.YteppnjgfebcmjaaGreat
open Go.RowKit

theorem list9 {fr : List Value} (h : fr.length = 9) : ∃ x0 x1 x2 x3 x4 x5 x6 x7 x8, fr = [x0, x1, x2, x3, x4, x5, x6, x7, x8] := by
  match fr, h with
  | [x0, x1, x2, x3, x4, x5, x6, x7, x8], _ => exact ⟨x0, x1, x2, x3, x4, x5, x6, x7, x8, rfl⟩
/-- The frame ahead is stored. -/
theorem mg_put9 {w : World} {mg : Nat} {W H G nx : Int} {x0 x1 x2 x3 x4 x5 x6 x7 x8 : Value} (h : Blk w mg 45 (rdecV W H G nx [x0, x1, x2, x3, x4, x5, x6, x7, x8])) (d : Dim) (b0 k0 b1 k1 b2 k2 : Nat) :
    Blk ((((((((((w).setCell ⟨mg, 3, none⟩ (.int .i64 (d.W : Int))).setCell ⟨mg, 4, none⟩ (.int .i64 (d.H : Int))).setCell ⟨mg, 5, none⟩ (.slice (some ⟨b0, 0, none⟩) d.nY k0)).setCell ⟨mg, 6, none⟩ (.int .i64 (d.W2 : Int))).setCell ⟨mg, 7, none⟩ (.int .i64 (d.H2 : Int))).setCell ⟨mg, 8, none⟩ (.slice (some ⟨b1, 0, none⟩) d.nC k1)).setCell ⟨mg, 9, none⟩ (.int .i64 (d.W2 : Int))).setCell ⟨mg, 10, none⟩ (.int .i64 (d.H2 : Int))).setCell ⟨mg, 11, none⟩ (.slice (some ⟨b2, 0, none⟩) d.nC k2)) mg 45 (rdecV W H G nx (frV d b0 k0 b1 k1 b2 k2)) ∧ Mod (fun j => j = mg) w ((((((((((w).setCell ⟨mg, 3, none⟩ (.int .i64 (d.W : Int))).setCell ⟨mg, 4, none⟩ (.int .i64 (d.H : Int))).setCell ⟨mg, 5, none⟩ (.slice (some ⟨b0, 0, none⟩) d.nY k0)).setCell ⟨mg, 6, none⟩ (.int .i64 (d.W2 : Int))).setCell ⟨mg, 7, none⟩ (.int .i64 (d.H2 : Int))).setCell ⟨mg, 8, none⟩ (.slice (some ⟨b1, 0, none⟩) d.nC k1)).setCell ⟨mg, 9, none⟩ (.int .i64 (d.W2 : Int))).setCell ⟨mg, 10, none⟩ (.int .i64 (d.H2 : Int))).setCell ⟨mg, 11, none⟩ (.slice (some ⟨b2, 0, none⟩) d.nC k2)) := by
  refine ⟨?_, (((((((((Mod.refl (fun j => j = mg) w).setCell (p := ⟨mg, 3, none⟩) (.inl rfl) (.int .i64 (d.W : Int))).setCell (p := ⟨mg, 4, none⟩) (.inl rfl) (.int .i64 (d.H : Int))).setCell (p := ⟨mg, 5, none⟩) (.inl rfl) (.slice (some ⟨b0, 0, none⟩) d.nY k0)).setCell (p := ⟨mg, 6, none⟩) (.inl rfl) (.int .i64 (d.W2 : Int))).setCell (p := ⟨mg, 7, none⟩) (.inl rfl) (.int .i64 (d.H2 : Int))).setCell (p := ⟨mg, 8, none⟩) (.inl rfl) (.slice (some ⟨b1, 0, none⟩) d.nC k1)).setCell (p := ⟨mg, 9, none⟩) (.inl rfl) (.int .i64 (d.W2 : Int))).setCell (p := ⟨mg, 10, none⟩) (.inl rfl) (.int .i64 (d.H2 : Int))).setCell (p := ⟨mg, 11, none⟩) (.inl rfl) (.slice (some ⟨b2, 0, none⟩) d.nC k2)⟩
  have z := (((((((((h).set_ 3 (.int .i64 (d.W : Int))).set_ 4 (.int .i64 (d.H : Int))).set_ 5 (.slice (some ⟨b0, 0, none⟩) d.nY k0)).set_ 6 (.int .i64 (d.W2 : Int))).set_ 7 (.int .i64 (d.H2 : Int))).set_ 8 (.slice (some ⟨b1, 0, none⟩) d.nC k1)).set_ 9 (.int .i64 (d.W2 : Int))).set_ 10 (.int .i64 (d.H2 : Int))).set_ 11 (.slice (some ⟨b2, 0, none⟩) d.nC k2)
  rwa [show (((((((((rdecV W H G nx [x0, x1, x2, x3, x4, x5, x6, x7, x8]).setIfInBounds 3 (.int .i64 (d.W : Int))).setIfInBounds 4 (.int .i64 (d.H : Int))).setIfInBounds 5 (.slice (some ⟨b0, 0, none⟩) d.nY k0)).setIfInBounds 6 (.int .i64 (d.W2 : Int))).setIfInBounds 7 (.int .i64 (d.H2 : Int))).setIfInBounds 8 (.slice (some ⟨b1, 0, none⟩) d.nC k1)).setIfInBounds 9 (.int .i64 (d.W2 : Int))).setIfInBounds 10 (.int .i64 (d.H2 : Int))).setIfInBounds 11 (.slice (some ⟨b2, 0, none⟩) d.nC k2) = rdecV W H G nx (frV d b0 k0 b1 k1 b2 k2) by simp [rdecV, frV]] at z
theorem mg_next (W H G nx n' : Int) (d : Dim) (b0 k0 b1 k1 b2 k2 : Nat) : (rdecV W H G nx (frV d b0 k0 b1 k1 b2 k2)).setIfInBounds 12 (.int .i64 n') = rdecV W H G n' (frV d b0 k0 b1 k1 b2 k2) := by
  simp [rdecV, frV]
/-- Between the squares. -/
structure FrT (w wr : World) (mg res hb fb bk g rb r : Nat) (dv hv : Array Value) (d : Dim) (b0 k0 b1 k1 b2 k2 : Nat) (f : Pix) (ok : Bool) (s : St) : Prop where
  mg_ : Blk wr mg 45 dv
  res_ : Blk wr res 37 #[.int .i64 0, .int .i64 0, .slice none 0 0, .int .i64 0, .int .i64 0, .slice none 0 0, .int .i64 0, .int .i64 0, .slice none 0 0]
  hd : Blk wr hb 62 hv
  fbk : Blk wr fb 37 #[.int .i64 (d.W : Int), .int .i64 (d.H : Int), .slice (some ⟨b0, 0, none⟩) d.nY k0, .int .i64 (d.W2 : Int), .int .i64 (d.H2 : Int), .slice (some ⟨b1, 0, none⟩) d.nC k1, .int .i64 (d.W2 : Int), .int .i64 (d.H2 : Int), .slice (some ⟨b2, 0, none⟩) d.nC k2]
  rd : Blk wr rb 75 (rdrV bk g ok)
  rs : ok = true → RSAt wr bk g (· = r) s
  fr_ : ok = true → FrB wr 0 d b0 k0 b1 k1 b2 k2 f
  mod : Mod (fun _ => False) w wr
structure FrI (w : World) (mg res hb fb bk g rb r : Nat) : Prop where
  id : RId (· = r) bk g rb
  mgl : mg < w.heap.size
  lbk : w.heap.size ≤ bk
  lg : w.heap.size ≤ g
  lrb : w.heap.size ≤ rb
  lres : w.heap.size ≤ res
  lfb : w.heap.size ≤ fb
  res3 : ¬ RB3 bk g rb res
  hb3 : ¬ RB3 bk g rb hb
  fb3 : ¬ RB3 bk g rb fb
  fres : fb ≠ res
  fhb : fb ≠ hb
  fr : fb ≠ r
  rfb : r < fb
section
variable {w wr w' : World} {mg res hb fb bk g rb r : Nat} {dv hv : Array Value} {d : Dim} {b0 k0 b1 k1 b2 k2 c0 e0 c1 e1 c2 e2 : Nat} {f f' : Pix} {ok ok' : Bool} {s s' : St}
theorem FrI.mg3 (i : FrI w mg res hb fb bk g rb r) : ¬ RB3 bk g rb mg := by
  have := i.mgl; have := i.lbk; have := i.lg; have := i.lrb
  unfold RB3
  omega
theorem FrT.step (h : FrT w wr mg res hb fb bk g rb r dv hv d c0 e0 c1 e1 c2 e2 f ok s) (i : FrI w mg res hb fb bk g rb r) (hm : Mod (RB3 bk g rb) wr w') (hr : Blk w' rb 75 (rdrV bk g ok')) (hs : ok' = true → RSAt w' bk g (· = r) s') (hf : ok' = true → FrB w' 0 d b0 k0 b1 k1 b2 k2 f') :
    FrT w ((((((((((w').setCell ⟨fb, 0, none⟩ (.int .i64 (d.W : Int))).setCell ⟨fb, 1, none⟩ (.int .i64 (d.H : Int))).setCell ⟨fb, 2, none⟩ (.slice (some ⟨b0, 0, none⟩) d.nY k0)).setCell ⟨fb, 3, none⟩ (.int .i64 (d.W2 : Int))).setCell ⟨fb, 4, none⟩ (.int .i64 (d.H2 : Int))).setCell ⟨fb, 5, none⟩ (.slice (some ⟨b1, 0, none⟩) d.nC k1)).setCell ⟨fb, 6, none⟩ (.int .i64 (d.W2 : Int))).setCell ⟨fb, 7, none⟩ (.int .i64 (d.H2 : Int))).setCell ⟨fb, 8, none⟩ (.slice (some ⟨b2, 0, none⟩) d.nC k2)) mg res hb fb bk g rb r dv hv d b0 k0 b1 k1 b2 k2 f' ok' s' := by
  have hz := h.fbk.keep hm i.fb3
  have hp := fr_put9 hz (.int .i64 (d.W : Int)) (.int .i64 (d.H : Int)) (.slice (some ⟨b0, 0, none⟩) d.nY k0) (.int .i64 (d.W2 : Int)) (.int .i64 (d.H2 : Int)) (.slice (some ⟨b1, 0, none⟩) d.nC k1) (.int .i64 (d.W2 : Int)) (.int .i64 (d.H2 : Int)) (.slice (some ⟨b2, 0, none⟩) d.nC k2)
  have f3 := i.fb3
  have hl := i.lfb
  have hml := i.mgl
  unfold RB3 at f3
  have kfb : ∀ j, j = fb → w'.heap.size ≤ j ∨ ∃ t cs, Blk w' j t cs ∧ t ≠ 5 := fun j e => .inr ⟨37, _, e ▸ hz, by decide⟩
  refine ⟨(h.mg_.keep hm i.mg3).keep hp.2 (by omega), (h.res_.keep hm i.res3).keep hp.2 (fun e => i.fres e.symm), (h.hd.keep hm i.hb3).keep hp.2 (fun e => i.fhb e.symm), hp.1, hr.keep hp.2 (by omega), fun e => (hs e).mod hp.2 (by omega) (by omega) (fun j hj e => i.fr (e.symm.trans hj)), fun e => (hf e).mod hp.2 kfb, (h.mod.into hm (fun j e => ?_)).into hp.2 (fun j e => .inr (by omega))⟩
  have := i.lbk; have := i.lg; have := i.lrb
  unfold RB3 at e
  right
  omega
theorem FrT.quiet (h : FrT w wr mg res hb fb bk g rb r dv hv d b0 k0 b1 k1 b2 k2 f ok s) (hm : Mod (fun _ => False) wr w') : FrT w w' mg res hb fb bk g rb r dv hv d b0 k0 b1 k1 b2 k2 f ok s :=
  ⟨h.mg_.keep hm (fun h => h), h.res_.keep hm (fun h => h), h.hd.keep hm (fun h => h), h.fbk.keep hm (fun h => h), h.rd.keep hm (fun h => h), fun e => (h.rs e).mod hm (fun h => h) (fun h => h) (fun _ _ h => h), fun e => (h.fr_ e).quiet hm, h.mod.trans hm⟩
end
def FrRel (w : World) (mg res hb fb bk g rb r : Nat) (dv hv : Array Value) (d : Dim) (ahd : Pix) (K : Bool) (Q : Int) (R : Option (Pix × St)) (v14 : Value) (wr : World) : Prop :=
  ∃ (y : Nat) (ok : Bool) (b0 k0 b1 k1 b2 k2 : Nat) (f : Pix) (s : St), y % 16 = 0 ∧ y ≤ d.H ∧ v14 = .int .i64 (y : Int) ∧ FrT w wr mg res hb fb bk g rb r dv hv d b0 k0 b1 k1 b2 k2 f ok s ∧
    ((ok = true ∧ rowsS d ahd K Q ((d.H - y) / 16) f s = R) ∨ (ok = false ∧ R = none))
def FrRel2 (w : World) (mg res hb fb bk g rb r : Nat) (dv hv : Array Value) (d : Dim) (ahd : Pix) (K : Bool) (Q : Int) (y : Nat) (R : Option (Pix × St)) (v15 : Value) (wr : World) : Prop :=
  ∃ (x : Nat) (ok : Bool) (b0 k0 b1 k1 b2 k2 : Nat) (f : Pix) (s : St), x % 16 = 0 ∧ x ≤ d.W ∧ v15 = .int .i64 (x : Int) ∧ FrT w wr mg res hb fb bk g rb r dv hv d b0 k0 b1 k1 b2 k2 f ok s ∧
    ((ok = true ∧ ((rowS d ahd K Q y ((d.W - x) / 16) f s).bind fun a => rowsS d ahd K Q ((d.H - (y + 16)) / 16) a.1 a.2) = R) ∨ (ok = false ∧ R = none))
end Go.Proofs.YteppnjgfebcmjaaGreat

/-
  The reference's headers: Fits, Header.
-/
namespace Go.Proofs.YteppnjgfebcmjaaGreat
open Go.RowKit

theorem right_bd {W H G : Int} (hr : seqRight W H G = true) : (16 ≤ W ∧ W ≤ 4096 ∧ W % 16 = 0) ∧ (16 ≤ H ∧ H ≤ 4096 ∧ H % 16 = 0) ∧ 1 ≤ G ∧ G ≤ 64 := by
  unfold seqRight at hr
  rwa [decide_eq_true_eq] at hr
set_option maxRecDepth 100000 in
set_option maxHeartbeats 2000000 in
theorem fFits (w : World) (W H G : Int) (hr : seqRight W H G = true) (K : Bool) (n q : Nat) (hK : K = decide (n = 0)) (hn : (n : Int) < G) (hq : q ≤ 31) :
    Calls Tryz.prog 110 #[.agg #[.bool K, .int .i64 (n : Int), .int .i64 (q : Int)], .agg #[.int .i64 W, .int .i64 H, .int .i64 G]] w fun e w' => e = .returned (.bool true) ∧ Mod (fun _ => False) w w' := by
  obtain ⟨⟨a1, a2, a3⟩, ⟨a4, a5, a6⟩, a7, a8⟩ := right_bd hr
  have h0 := ((Sat.nil (fun _ => False) w).alloc 62 #[.bool K, .int .i64 (n : Int), .int .i64 (q : Int)] rfl).alloc (g := w.heap.size + 1) 43 #[.int .i64 W, .int .i64 H, .int .i64 G] (by simp)
  have t1 : decide ((n : Int) < G) = true := decide_eq_true hn
  have t2 : decide ((q : Int) ≤ 31) = true := decide_eq_true (by omega)
  have t3 : decide ((0 : Int) ≤ (n : Int)) = true := decide_eq_true (by omega)
  have t4 : decide ((0 : Int) ≤ (q : Int)) = true := decide_eq_true (by omega)
  have t5 : (K == ((n : Int) == 0)) = true := by
    rw [hK, beq_iff_eq]
    by_cases e : n = 0
    · subst e; rfl
    · rw [decide_eq_false e]; symm; rw [beq_eq_false_iff_ne]; omega
  have H0 := Lib.hid (And.intro h0 hr)
  clear h0 hr hK
  go_enter Tryz.func110, Tryz.ntmps110
  go_wp2_with fail
  refine (refRight _ W H G ⟨by omega, by omega⟩ ⟨by omega, by omega⟩ ⟨by omega, by omega⟩).mono ?_
  rintro e w1 ⟨rfl, hm1⟩
  rw [H0.out.2]
  have HS := H0.out.1.quiet hm1
  obtain ⟨pc, pf⟩ := (HS.own_ 1 rfl).both
  obtain ⟨qc, qf⟩ := (HS.own_ 0 rfl).both
  have H1 := Lib.hid HS
  clear HS hm1 a3 a6
  go_wp2_with fail
  go_ret
  exact ⟨rfl, H1.out.mod⟩
set_option maxRecDepth 100000 in
set_option maxHeartbeats 4000000 in
theorem fHeader (w : World) (W H G : Int) (hr : seqRight W H G = true) (K : Bool) (n q : Nat) (hK : K = decide (n = 0)) (hn : (n : Int) < G) (hq : q ≤ 31) :
    Calls Tryz.prog 68 #[.agg #[.bool K, .int .i64 (n : Int), .int .i64 (q : Int)], .agg #[.int .i64 W, .int .i64 H, .int .i64 G]] w fun e w' => ∃ v, e = .returned (.tuple #[v, .int .i64 0]) ∧ Bytes w' w.heap.size v (hdrB n q) ∧ Mod (fun _ => False) w w' := by
  obtain ⟨_, _, a7, a8⟩ := right_bd hr
  have h0 := ((Sat.nil (fun _ => False) w).alloc 62 #[.bool K, .int .i64 (n : Int), .int .i64 (q : Int)] rfl).alloc (g := w.heap.size + 1) 43 #[.int .i64 W, .int .i64 H, .int .i64 G] (by simp)
  have hkb : digitsL (if n = 0 then 1 else 0) 1 = [if K = true then 1 else 0] := by
    rw [hK]
    by_cases e : n = 0
    · subst e; rfl
    · rw [if_neg e, decide_eq_false e]; rfl
  have hB : hdrB n q = packL ([if K = true then 1 else 0] ++ codeL n ++ digitsL q 5) := by unfold hdrB hdrBits; rw [hkb]
  have hn64 : n ≤ 64 := by omega
  have hcl := codeL_length n (by omega)
  have H0 := Lib.hid (And.intro h0 (And.intro (And.intro hr (And.intro hK hn)) hB))
  clear h0 hr hB hkb hn hK
  go_enter Tryz.func68, Tryz.ntmps68
  go_wp2_with fail
  refine (fFits _ W H G H0.out.2.1.1 K n q H0.out.2.1.2.1 H0.out.2.1.2.2 hq).mono ?_
  rintro e w1 ⟨rfl, hm1⟩
  have HS := H0.out.1.quiet hm1
  obtain ⟨pc, pf⟩ := (HS.own_ 1 rfl).both
  have hG : GrowS w w1 _ (.slice none 0 0) [] := ⟨World.ownsRow_nil _ _ _ _, HS⟩
  have HA := Lib.hid (And.intro hG hG.2.mod.size)
  clear HS hm1 hG
  cases K
  · go_upto_region 8 with (at_builtin; have _t := HA; refine wpList_app_u8 _ rfl (.tmp 18) (.tmp 19) rfl w.heap.size (.slice none 0 0) [] 0 rfl rfl HA.out.1.1 HA.out.2 (by simp) ?_; intro v2 w2 hown2 hM2 _ _; have HO := Lib.hid (HA.out.1.app (by intro e he; simp at he; rcases he with rfl | rfl <;> (dsimp only; decide)) hown2 hM2); clear hown2 hM2)
    clear pc pf HA
    obtain ⟨pc, pf⟩ := (HO.out.2.own_ 1 rfl).both
    go_wp2_with fail
    refine (refCode w2 n (by omega)).mono ?_
    rintro e w3 ⟨s3, rfl, hs3, hm3⟩
    obtain ⟨A3, d3, hv3⟩ := own_shape hs3
    obtain ⟨c3, hc3⟩ : ∃ c3, c3 = (codeL n).length := ⟨_, rfl⟩
    rw [← hc3] at hv3
    subst hv3
    have HX := Lib.hid (And.intro (HO.out.quiet hm3) (And.intro hs3.in_ (And.intro (HO.out.quiet hm3).2.mod.size (Nat.le_trans (Nat.le_of_eq hc3) hcl))))
    clear hs3 hm3 hc3 pc pf HO
    go_upto_region 9 with (at_builtin; have _t := HX; refine wpList_app_u8s _ rfl (.tmp 21) (.tmp 25) rfl w.heap.size v2 ([] ++ [0]) A3 c3 d3 (codeL n) rfl rfl HX.out.1.1 HX.out.2.1 HX.out.2.2.1 (by have := HX.out.2.2.2; simp; omega) ?_; intro v4 w4 hown4 hM4 _ _; have HO := Lib.hid (HX.out.1.app (by intro e he; simp at he; rcases he with rfl | rfl <;> (dsimp only; decide)) hown4 hM4); clear hown4 hM4)
    clear HX
    obtain ⟨pc, pf⟩ := (HO.out.2.own_ 1 rfl).both
    go_wp2_with fail
    refine (refDigits w4 q 5 (by omega) (by omega)).mono ?_
    rintro e w5 ⟨s5, rfl, hs5, hm5⟩
    obtain ⟨A5, d5, hv5⟩ := own_shape hs5
    rw [digitsL_length] at hv5
    subst hv5
    have HX := Lib.hid (And.intro (HO.out.quiet hm5) (And.intro hs5.in_ (HO.out.quiet hm5).2.mod.size))
    clear hs5 hm5 pc pf HO
    go_upto_region 10 with (at_builtin; have _t := HX; refine wpList_app_u8s _ rfl (.tmp 27) (.tmp 31) rfl w.heap.size v4 ([] ++ [0] ++ codeL n) A5 5 d5 (digitsL q 5) rfl rfl HX.out.1.1 HX.out.2.1 HX.out.2.2 (by simp; omega) ?_; intro v6 w6 hown6 hM6 _ _; have HO := Lib.hid (HX.out.1.app (by intro e he; simp at he; rcases he with rfl | rfl <;> (dsimp only; decide)) hown6 hM6); clear hown6 hM6)
    clear HX
    obtain ⟨A6, d6, hv6⟩ := own_shape HO.out.1
    obtain ⟨m6, hm6⟩ : ∃ m6, m6 = ([] ++ [0] ++ codeL n ++ digitsL q 5).length := ⟨_, rfl⟩
    rw [← hm6] at hv6
    subst hv6
    have hpos : 0 < m6 := by rw [hm6]; simp
    have hle : m6 ≤ 1048576 := by rw [hm6]; simp [digitsL_length]; omega
    clear hm6
    go_wp2_with fail
    refine (refPack w6 A6 m6 d6 _ (Bytes.in_ HO.out.1) hpos hle).mono ?_
    rintro e w9 ⟨s9, rfl, hs9, hm9⟩
    have HF := Lib.hid (And.intro (hs9.down HO.out.2.mod.size) (HO.out.2.mod.trans hm9))
    clear hs9 hm9
    go_wp2_with fail
    go_ret2
    exact ⟨s9, rfl, by rw [H0.out.2.2]; exact HF.out.1, HF.out.2⟩
  · go_upto_region 8 with (at_builtin; have _t := HA; refine wpList_app_u8 _ rfl (.tmp 15) (.tmp 16) rfl w.heap.size (.slice none 0 0) [] 1 rfl rfl HA.out.1.1 HA.out.2 (by simp) ?_; intro v2 w2 hown2 hM2 _ _; have HO := Lib.hid (HA.out.1.app (by intro e he; simp at he; rcases he with rfl | rfl <;> (dsimp only; decide)) hown2 hM2); clear hown2 hM2)
    clear pc pf HA
    obtain ⟨pc, pf⟩ := (HO.out.2.own_ 1 rfl).both
    go_wp2_with fail
    refine (refCode w2 n (by omega)).mono ?_
    rintro e w3 ⟨s3, rfl, hs3, hm3⟩
    obtain ⟨A3, d3, hv3⟩ := own_shape hs3
    obtain ⟨c3, hc3⟩ : ∃ c3, c3 = (codeL n).length := ⟨_, rfl⟩
    rw [← hc3] at hv3
    subst hv3
    have HX := Lib.hid (And.intro (HO.out.quiet hm3) (And.intro hs3.in_ (And.intro (HO.out.quiet hm3).2.mod.size (Nat.le_trans (Nat.le_of_eq hc3) hcl))))
    clear hs3 hm3 hc3 pc pf HO
    go_upto_region 9 with (at_builtin; have _t := HX; refine wpList_app_u8s _ rfl (.tmp 21) (.tmp 25) rfl w.heap.size v2 ([] ++ [1]) A3 c3 d3 (codeL n) rfl rfl HX.out.1.1 HX.out.2.1 HX.out.2.2.1 (by have := HX.out.2.2.2; simp; omega) ?_; intro v4 w4 hown4 hM4 _ _; have HO := Lib.hid (HX.out.1.app (by intro e he; simp at he; rcases he with rfl | rfl <;> (dsimp only; decide)) hown4 hM4); clear hown4 hM4)
    clear HX
    obtain ⟨pc, pf⟩ := (HO.out.2.own_ 1 rfl).both
    go_wp2_with fail
    refine (refDigits w4 q 5 (by omega) (by omega)).mono ?_
    rintro e w5 ⟨s5, rfl, hs5, hm5⟩
    obtain ⟨A5, d5, hv5⟩ := own_shape hs5
    rw [digitsL_length] at hv5
    subst hv5
    have HX := Lib.hid (And.intro (HO.out.quiet hm5) (And.intro hs5.in_ (HO.out.quiet hm5).2.mod.size))
    clear hs5 hm5 pc pf HO
    go_upto_region 10 with (at_builtin; have _t := HX; refine wpList_app_u8s _ rfl (.tmp 27) (.tmp 31) rfl w.heap.size v4 ([] ++ [1] ++ codeL n) A5 5 d5 (digitsL q 5) rfl rfl HX.out.1.1 HX.out.2.1 HX.out.2.2 (by simp; omega) ?_; intro v6 w6 hown6 hM6 _ _; have HO := Lib.hid (HX.out.1.app (by intro e he; simp at he; rcases he with rfl | rfl <;> (dsimp only; decide)) hown6 hM6); clear hown6 hM6)
    clear HX
    obtain ⟨A6, d6, hv6⟩ := own_shape HO.out.1
    obtain ⟨m6, hm6⟩ : ∃ m6, m6 = ([] ++ [1] ++ codeL n ++ digitsL q 5).length := ⟨_, rfl⟩
    rw [← hm6] at hv6
    subst hv6
    have hpos : 0 < m6 := by rw [hm6]; simp
    have hle : m6 ≤ 1048576 := by rw [hm6]; simp [digitsL_length]; omega
    clear hm6
    go_wp2_with fail
    refine (refPack w6 A6 m6 d6 _ (Bytes.in_ HO.out.1) hpos hle).mono ?_
    rintro e w9 ⟨s9, rfl, hs9, hm9⟩
    have HF := Lib.hid (And.intro (hs9.down HO.out.2.mod.size) (HO.out.2.mod.trans hm9))
    clear hs9 hm9
    go_wp2_with fail
    go_ret2
    exact ⟨s9, rfl, by rw [H0.out.2.2]; exact HF.out.1, HF.out.2⟩
end Go.Proofs.YteppnjgfebcmjaaGreat
