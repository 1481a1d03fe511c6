/-
  decoder: plain laws of a coded frame; a decoder's small functions by what it is.
-/
import Derived.Test.YtmkopcojnibhlaaGreatDoorM42
import Derived.Test.YtmkopcojnibhlaaGreatDoorM39
import Derived.Test.YtmkopcojnibhlaaGreatDoorM40
import Derived.Test.YtmkopcojnibhlaaGreatDoorM38
namespace Go.Proofs.YtmkopcojnibhlaaGreatDoor
open Go.RowKit

theorem stepB_key (d : Dim) (a b : Pix) (Q : Int) (pl x y : Nat) (vx vy : Int) (f : Pix) (s : St) : stepB d a 2 Q pl x y vx vy f s = stepB d b 2 Q pl x y vx vy f s := by
  unfold stepB gof
  rw [if_pos rfl, if_pos rfl]
theorem blkFrom_key (d : Dim) (a b : Pix) (Q : Int) (x y : Nat) (vx vy : Int) : ∀ (n : Nat) (f : Pix) (s : St), blkFrom d a 2 Q x y vx vy n f s = blkFrom d b 2 Q x y vx vy n f s := by
  intro n
  induction n with
  | zero => intro f s; rfl
  | succ n ih =>
    intro f s
    unfold blkFrom
    rw [stepB_key d a b]
    congr 1
    funext p
    exact ih _ _
theorem squareS_key (d : Dim) (a b : Pix) (Q : Int) (x y : Nat) (f : Pix) (s : St) : squareS d a true Q x y f s = squareS d b true Q x y f s := by
  unfold squareS skind
  rw [if_pos rfl]
  simp only [Option.bind_some]
  refine congrArg (Option.bind (skvec 2 s)) ?_
  funext v
  exact blkFrom_key d a b Q x y _ _ 6 f v.2
theorem rowS_key (d : Dim) (a b : Pix) (Q : Int) (y : Nat) : ∀ (n : Nat) (f : Pix) (s : St), rowS d a true Q y n f s = rowS d b true Q y n f s := by
  intro n
  induction n with
  | zero => intro f s; rfl
  | succ n ih =>
    intro f s
    unfold rowS
    rw [squareS_key d a b]
    congr 1
    funext p
    exact ih _ _
theorem rowsS_key (d : Dim) (a b : Pix) (Q : Int) : ∀ (n : Nat) (f : Pix) (s : St), rowsS d a true Q n f s = rowsS d b true Q n f s := by
  intro n
  induction n with
  | zero => intro f s; rfl
  | succ n ih =>
    intro f s
    unfold rowsS
    rw [rowS_key d a b]
    congr 1
    funext p
    exact ih _ _
theorem builtS_key (d : Dim) (a b : Pix) (Q : Int) (code : List UInt8) : builtS d a true Q code = builtS d b true Q code := by
  unfold builtS
  rw [rowsS_key d a b]
/-- A key's frame is what it is, whatever was ahead. -/
theorem frameS_key {d : Dim} {G nx nx' : Int} {ah ah' : Option Pix} {l : List UInt8} {N Q : Int} {a4 : Nat} (h : hdrParse l d.W d.H G = some ((true, N, Q), a4)) : frameS d G nx ah l = frameS d G nx' ah' l := by
  unfold frameS
  rw [h]
  dsimp only
  have k : ∀ m, keyless true N m = false := fun m => by simp [keyless]
  rw [k, k, builtS_key d (ah.getD noPix) (ah'.getD noPix)]
theorem frameS_bad0 {d : Dim} {G nx : Int} {ah : Option Pix} {l : List UInt8} {er : Int} (h : frameS d G 0 none l = .error er) (he : er = 121 ∨ er = 132) : frameS d G nx ah l = .error er := by
  cases hp : hdrParse l d.W d.H G with
  | none =>
    unfold frameS at h ⊢
    rw [hp] at h ⊢
    exact h
  | some x =>
    obtain ⟨⟨K, N, Q⟩, a4⟩ := x
    cases K with
    | true => rw [frameS_key hp (nx' := 0) (ah' := none)]; exact h
    | false =>
      unfold frameS at h
      rw [hp] at h
      dsimp only at h
      rw [if_pos (by simp [keyless])] at h
      injection h with h
      omega
theorem frameS_err {d : Dim} {G nx : Int} {ah : Option Pix} {l : List UInt8} {er : Int} (h : frameS d G nx ah l = .error er) : er = 121 ∨ er = 131 ∨ er = 132 := by
  unfold frameS at h
  split at h
  · injection h with h; omega
  · split at h
    · injection h with h; omega
    · split at h
      · injection h with h; omega
      · cases h
theorem frameS_ok1 {d : Dim} {G nx : Int} {ah : Option Pix} {l : List UInt8} {f : Pix} {m : Int} (h : frameS d G nx ah l = .ok (f, m)) : 0 ≤ m ∧ m < 64 := by
  unfold frameS at h
  split at h
  · cases h
  · rename_i K N Q a4 hp
    obtain ⟨_, h2, _⟩ := hdr_bounds hp
    split at h
    · cases h
    · split at h
      · cases h
      · injection h with h
        injection h with h3 h4
        have := Int.emod_nonneg (N + 1) (show G ≠ 0 by omega)
        have := Int.emod_lt_of_pos (N + 1) (show 0 < G by omega)
        omega
/-- Are the first bit's frames keys? -/
theorem hdr_key {l : List UInt8} {W H G : Int} {K : Bool} {N Q : Int} {a4 : Nat} (h : hdrParse l W H G = some ((K, N, Q), a4)) (h1 : 128 ≤ (l.getD 0 0).toNat) : K = true := by
  have hb : bitAt l 0 = 1 := by
    unfold bitAt
    have := UInt8.toNat_lt (l.getD 0 0)
    show (l.getD 0 0).toNat / 128 % 2 = 1
    omega
  unfold hdrParse at h
  split at h
  · cases h
  · rename_i k a1 hk
    have hk1 : k = 1 := by
      unfold bget at hk
      split at hk
      · injection hk with hk
        injection hk with hk _
        rw [numAt_one] at hk
        omega
      · cases hk
    subst hk1
    split at h
    · cases h
    · split at h
      · cases h
      · split at h
        · split at h
          · cases h
          · injection h with h
            injection h with h2 _
            injection h2 with h3 _
            rw [← h3]
            rfl
        · cases h

def mkDim (W H : Int) : Dim := ⟨W.toNat, H.toNat, W.toNat / 2, H.toNat / 2, W.toNat * H.toNat, W.toNat / 2 * (H.toNat / 2)⟩
theorem mkDim_ok {W H G : Int} (h : seqRight W H G = true) : (mkDim W H).Ok ∧ ((mkDim W H).W : Int) = W ∧ ((mkDim W H).H : Int) = H := by
  unfold seqRight at h
  rw [decide_eq_true_eq] at h
  refine ⟨⟨?_, ?_, ?_, ?_, ?_, rfl, rfl⟩, ?_, ?_⟩
  · unfold sidesB
    rw [decide_eq_true_eq]
    simp only [mkDim]
    omega
  all_goals (simp only [mkDim]; omega)

def NewAt (w : World) (l : List UInt8) (e : Ending) (w' : World) : Prop :=
  Mod (fun _ => False) w w' ∧ ((seqParse l = none ∧ e = .returned (.tuple #[.pointer none, .int .i64 121])) ∨
  ∃ (d : Dim) (G : Int) (g : Nat), d.Ok ∧ seqParse l = some ((d.W : Int), (d.H : Int), G) ∧ e = .returned (.tuple #[.pointer (some ⟨g, 0, none⟩), .int .i64 0]) ∧ DecAt w' g d G 0 none ∧ w.heap.size ≤ g)
theorem decNew' (w : World) (A : Option Addr) (n c : Nat) (l : List UInt8) (hin : BytesIn w A n c l) (hn : n ≤ 1048576) : Calls Tryz.prog 36 #[.slice A n c] w (NewAt w l) := by
  refine (decNew w A n c l hin hn).mono ?_
  rintro e w' ⟨hm, ⟨h1, rfl⟩ | ⟨W, H, G, g, hs, rfl, hb, hg⟩⟩
  · exact ⟨hm, .inl ⟨h1, rfl⟩⟩
  · obtain ⟨hd, hW, hH⟩ := mkDim_ok (seqParse_right hs)
    dsimp only at hd hW hH
    refine ⟨hm, .inr ⟨mkDim W H, G, g, hd, by rw [hs, hW, hH], rfl, ⟨noFrame, 0, 0, 0, ?_, rfl, fun _ => rfl, fun f e => by cases e⟩, hg⟩⟩
    rw [hW, hH]
    exact hb
theorem DecAt.next {w : World} {g : Nat} {d : Dim} {G nx : Int} {ah : Option Pix} (h : DecAt w g d G nx ah) : Calls Tryz.prog 39 #[.pointer (some ⟨g, 0, none⟩)] w fun e w' => e = .returned (.int .i64 nx) ∧ w = w' := by
  obtain ⟨fr, ay, au, av, hb, _⟩ := h
  exact decNext w g _ _ _ _ _ hb
/-- Any decoder in memory. -/
def DecAny (w : World) (g : Nat) : Prop := ∃ (W H G nx : Int) (fr : List Value), fr.length = 9 ∧ Blk w g 136 (decCells W H G nx fr)
theorem DecAt.any {w : World} {g : Nat} {d : Dim} {G nx : Int} {ah : Option Pix} (h : DecAt w g d G nx ah) : DecAny w g := by
  obtain ⟨fr, ay, au, av, hb, hl, _⟩ := h
  exact ⟨_, _, _, _, fr, hl, hb⟩
theorem DecAny.reset {w : World} {g : Nat} (h : DecAny w g) (A : Option Addr) (n c : Nat) (l : List UInt8) (hin : BytesIn w A n c l) (hn : n ≤ 1048576) :
    Calls Tryz.prog 80 #[.pointer (some ⟨g, 0, none⟩), .slice A n c] w (ResetPost w g l) := by
  obtain ⟨W, H, G, nx, fr, hl, hb⟩ := h
  exact decReset w g W H G nx fr hl hb A n c l hin hn
end Go.Proofs.YtmkopcojnibhlaaGreatDoor

/-
  An encoder in memory; Frame of any frame.
-/
namespace Go.Proofs.YtmkopcojnibhlaaGreatDoor
open Go.RowKit

/-- Is a frame one of this sequence's? -/
def FrX.goodB (f : FrX) (d : Dim) : Bool := wholeI f.W0 f.H0 f.n0 f.W1 f.H1 f.n1 f.W2 f.H2 f.n2 && (decide (f.W0 = (d.W : Int)) && decide (f.H0 = (d.H : Int)))
def FrX.pix (f : FrX) : Pix := ⟨f.p0, f.p1, f.p2⟩
theorem FrX.good {f : FrX} {d : Dim} (hd : d.Ok) (h : f.goodB d = true) : f.cells = flV d f.A0 f.A1 f.A2 f.c0 f.c1 f.c2 ∧ f.n0 = d.nY ∧ f.n1 = d.nC ∧ f.n2 = d.nC := by
  obtain ⟨X0, Y0, A0, n0, c0, X1, Y1, A1, n1, c1, X2, Y2, A2, n2, c2, p0, p1, p2⟩ := f
  unfold FrX.goodB at h
  dsimp only at h
  simp only [Bool.and_eq_true, decide_eq_true_eq] at h
  obtain ⟨hw, rfl, rfl⟩ := h
  unfold wholeI at hw
  rw [decide_eq_true_eq] at hw
  obtain ⟨r0, r1, r2, _, _, e1, e2, e3, e4⟩ := hw
  unfold rightI at r0 r1 r2
  simp only [Bool.and_eq_true, decide_eq_true_eq] at r0 r1 r2
  have a1 := hd.w2
  have a2 := hd.h2
  have f1 : X1 = (d.W2 : Int) := by omega
  have f2 : Y1 = (d.H2 : Int) := by omega
  have f3 : X2 = (d.W2 : Int) := by omega
  have f4 : Y2 = (d.H2 : Int) := by omega
  subst f1 f2 f3 f4
  have g0 : n0 = d.nY := by have := r0.2; rw [hd.ny]; have z : ((d.W * d.H : Nat) : Int) = (d.W : Int) * (d.H : Int) := Int.natCast_mul _ _; omega
  have g1 : n1 = d.nC := by have := r1.2; rw [hd.nc]; have z : ((d.W2 * d.H2 : Nat) : Int) = (d.W2 : Int) * (d.H2 : Int) := Int.natCast_mul _ _; omega
  have g2 : n2 = d.nC := by have := r2.2; rw [hd.nc]; have z : ((d.W2 * d.H2 : Nat) : Int) = (d.W2 : Int) * (d.H2 : Int) := Int.natCast_mul _ _; omega
  subst g0 g1
  refine ⟨?_, rfl, rfl, g2⟩
  unfold FrX.cells flV
  dsimp only
  rw [g2]
theorem FrX.frIn {f : FrX} {d : Dim} {w : World} (hd : d.Ok) (h : f.goodB d = true) (hin : f.In w) : FrIn w d (flV d f.A0 f.A1 f.A2 f.c0 f.c1 f.c2) f.pix := by
  obtain ⟨_, h0, h1, h2⟩ := FrX.good hd h
  refine ⟨rfl, fun p hp => ?_⟩
  have h3 : p = 0 ∨ p = 1 ∨ p = 2 := by omega
  have b0 := hin.b0
  have b1 := hin.b1
  have b2 := hin.b2
  have k0 := hin.k0
  have k1 := hin.k1
  have k2 := hin.k2
  rw [h0] at b0 k0
  rw [h1] at b1 k1
  rw [h2] at b2 k2
  rcases h3 with rfl | rfl | rfl
  · exact ⟨_, _, rfl, rfl, rfl, b0, k0⟩
  · exact ⟨_, _, rfl, rfl, rfl, b1, k1⟩
  · exact ⟨_, _, rfl, rfl, rfl, b2, k2⟩
/-- An encoder in memory. -/
def EncAt (w : World) (g : Nat) (d : Dim) (G q tg nu : Nat) (ahd : Pix) : Prop :=
  ∃ al, Blk w g 92 (encV (d.W : Int) (d.H : Int) (G : Int) (q : Int) (tg : Int) (nu : Int) al) ∧ ((al = zeroFr ∧ nu = 0) ∨ ∃ ay au av, al = frameV d ay au av ∧ (nu ≠ 0 → FrameAt w d ay au av ahd))
theorem EncAt.mod {w w' : World} {S : Nat → Prop} {g : Nat} {d : Dim} {G q tg nu : Nat} {ahd : Pix} (h : EncAt w g d G q tg nu ahd) (hm : Mod S w w') (hg : ¬ S g) (hS : ∀ j, S j → ∃ t cs, Blk w j t cs ∧ t ≠ 5) : EncAt w' g d G q tg nu ahd := by
  obtain ⟨al, hb, hc⟩ := h
  refine ⟨al, hb.keep hm hg, ?_⟩
  rcases hc with hc | ⟨ay, au, av, rfl, hf⟩
  · exact .inl hc
  · have ne : ∀ {j cs}, Blk w j 5 cs → ¬ S j := fun hb hj => by
      obtain ⟨t, cs, hb2, ht⟩ := hS _ hj
      exact hb2.ne_ hb ht rfl
    exact .inr ⟨ay, au, av, rfl, fun hn => (hf hn).mod hm (ne (hf hn).by_) (ne (hf hn).bu) (ne (hf hn).bv)⟩
theorem EncAt.quiet {w w' : World} {g : Nat} {d : Dim} {G q tg nu : Nat} {ahd : Pix} (h : EncAt w g d G q tg nu ahd) (hm : Mod (fun _ => False) w w') : EncAt w' g d G q tg nu ahd := h.mod hm (fun h => h) (fun _ h => h.elim)
theorem EncAt.lt {w : World} {g : Nat} {d : Dim} {G q tg nu : Nat} {ahd : Pix} (h : EncAt w g d G q tg nu ahd) : g < w.heap.size := by
  obtain ⟨al, hb, _⟩ := h
  exact hb.lt
theorem EncAt.any {w : World} {g : Nat} {d : Dim} {G q tg : Nat} {ahd : Pix} (h : EncAt w g d G q tg 0 ahd) (a : Pix) : EncAt w g d G q tg 0 a := by
  obtain ⟨al, hb, hc⟩ := h
  refine ⟨al, hb, ?_⟩
  rcases hc with hc | ⟨ay, au, av, rfl, _⟩
  · exact .inl hc
  · exact .inr ⟨ay, au, av, rfl, fun h => absurd rfl h⟩
theorem EncAt.q {w : World} {g : Nat} {d : Dim} {G q tg nu : Nat} {ahd : Pix} (h : EncAt w g d G q tg nu ahd) : Calls Tryz.prog 19 #[.pointer (some ⟨g, 0, none⟩)] w fun e w' => e = .returned (.int .i64 (q : Int)) ∧ w = w' := by
  obtain ⟨al, hb, _⟩ := h
  exact encQ w g _ _ _ _ _ _ _ hb
theorem EncAt.number {w : World} {g : Nat} {d : Dim} {G q tg nu : Nat} {ahd : Pix} (h : EncAt w g d G q tg nu ahd) : Calls Tryz.prog 20 #[.pointer (some ⟨g, 0, none⟩)] w fun e w' => e = .returned (.int .i64 (nu : Int)) ∧ w = w' := by
  obtain ⟨al, hb, _⟩ := h
  exact encNumber w g _ _ _ _ _ _ _ hb
theorem EncAt.end_ {w : World} {g : Nat} {d : Dim} {G q tg nu : Nat} {ahd : Pix} (h : EncAt w g d G q tg nu ahd) : Calls Tryz.prog 22 #[.pointer (some ⟨g, 0, none⟩)] w fun e w' => e = .returned (.tuple #[]) ∧ EncAt w' g d G q tg 0 ahd ∧ Mod (· = g) w w' := by
  obtain ⟨al, hb, hc⟩ := h
  refine (encEnd w g _ _ _ _ _ _ _ hb).mono ?_
  rintro e w' ⟨rfl, hb', hm⟩
  refine ⟨rfl, ⟨al, hb', ?_⟩, hm⟩
  rcases hc with ⟨h1, _⟩ | ⟨ay, au, av, rfl, _⟩
  · exact .inl ⟨h1, rfl⟩
  · exact .inr ⟨ay, au, av, rfl, fun h => absurd rfl h⟩
/-- What Frame does of any frame. -/
def EncPost (w : World) (g : Nat) (d : Dim) (G q tg nu : Nat) (ahd : Pix) (f : FrX) (e : Ending) (w' : World) : Prop :=
  (f.goodB d = false ∧ e = NoFr 61 ∧ Mod (fun _ => False) w w') ∨
  (f.goodB d = true ∧ ∃ v p, e = .returned (.tuple #[v, p, .int .i64 0]) ∧ Bytes w' w.heap.size v (eframe d f.pix ahd nu q).1 ∧ FrameMade w d (eframe d f.pix ahd nu q).2 p w' ∧
    EncAt w' g d G (newQ q tg G (eframe d f.pix ahd nu q).1.length) tg (newN nu G) (eframe d f.pix ahd nu q).2 ∧ Mod (· = g) w w')
theorem encFrameAt {w : World} {g : Nat} {d : Dim} {G q tg nu : Nat} {ahd : Pix} (h : EncAt w g d G q tg nu ahd) (he : EnvP w) (hd : d.Ok) (hW : d.W ≤ 64) (hH : d.H ≤ 64) (hG : 1 ≤ G ∧ G ≤ 64) (hq : q ≤ 31) (ht : tg ≤ 1048576) (hnu : nu < G) (f : FrX) (hf : f.In w) :
    Calls Tryz.prog 16 #[.pointer (some ⟨g, 0, none⟩), .agg f.cells.toArray] w (EncPost w g d G q tg nu ahd f) := by
  obtain ⟨al, hb, hc⟩ := h
  cases hgd : f.goodB d with
  | false => exact (encFrame_bad w g _ _ _ _ _ _ al hb f.W0 f.H0 f.W1 f.H1 f.W2 f.H2 f.A0 f.A1 f.A2 f.n0 f.c0 f.n1 f.c1 f.n2 f.c2 hgd).mono (fun e w' k => .inl ⟨hgd, k⟩)
  | true =>
    obtain ⟨hcl, _, _, _⟩ := FrX.good hd hgd
    have hfi := FrX.frIn hd hgd hf
    have hwh : ∀ w', Mod (fun _ => False) w w' → Calls Tryz.prog 43 #[.agg (flV d f.A0 f.A1 f.A2 f.c0 f.c1 f.c2).toArray] w' fun e w'' => e = .returned (.bool true) ∧ Mod (fun _ => False) w' w'' := by
      intro w' _
      rw [← hcl]
      refine (pWholeI w' f.W0 f.H0 f.W1 f.H1 f.W2 f.H2 f.A0 f.A1 f.A2 f.n0 f.c0 f.n1 f.c1 f.n2 f.c2).mono ?_
      rintro e w'' ⟨rfl, hm⟩
      unfold FrX.goodB at hgd
      rw [Bool.and_eq_true] at hgd
      rw [hgd.1]
      exact ⟨rfl, hm⟩
    rw [hcl]
    have hpost : ∀ e w', EFrPost w g G q tg nu d (eframe d f.pix ahd nu q) e w' → EncPost w g d G q tg nu ahd f e w' := by
      rintro e w' ⟨v, p, ay, au, av, he, h1, h2, h3, h4, _, _, h5⟩
      exact .inr ⟨hgd, v, p, he, h1, h2, ⟨_, h3, .inr ⟨ay, au, av, rfl, fun _ => h4⟩⟩, h5⟩
    rcases hc with ⟨hal, h0⟩ | ⟨ay, au, av, hal, hfa⟩
    · exact (encFrame w g G q tg nu d hd hW hH 0 0 0 0 0 0 none none none 0 0 0 0 0 0 al hal hG hq ht hnu hb he ahd (fun h => absurd h0 h) f.A0 f.A1 f.A2 f.c0 f.c1 f.c2 f.pix hfi hwh).mono hpost
    · refine (encFrame w g G q tg nu d hd hW hH (d.W : Int) (d.H : Int) (d.W2 : Int) (d.H2 : Int) (d.W2 : Int) (d.H2 : Int) (some ⟨ay, 0, none⟩) (some ⟨au, 0, none⟩) (some ⟨av, 0, none⟩) d.nY d.nY d.nC d.nC d.nC d.nC al hal hG hq ht hnu hb he ahd (fun h => ?_) f.A0 f.A1 f.A2 f.c0 f.c1 f.c2 f.pix hfi hwh).mono hpost
      rw [hal]
      exact FrameAt.frIn hd (hfa h)
def EncMade (w : World) (W H G q tg : Int) (e : Ending) (w' : World) : Prop :=
  Mod (fun _ => False) w w' ∧ ((seqRight W H G = false ∧ e = .returned (.tuple #[.pointer none, .int .i64 121])) ∨ (seqRight W H G = true ∧ encArgs q tg = false ∧ e = .returned (.tuple #[.pointer none, .int .i64 1])) ∨
    ∃ (d : Dim) (G' q' tg' g : Nat), seqRight W H G = true ∧ encArgs q tg = true ∧ d.Ok ∧ W = (d.W : Int) ∧ H = (d.H : Int) ∧ G = (G' : Int) ∧ (1 ≤ G' ∧ G' ≤ 64) ∧ q = (q' : Int) ∧ q' ≤ 31 ∧ tg = (tg' : Int) ∧ tg' ≤ 1048576 ∧ e = .returned (.tuple #[.pointer (some ⟨g, 0, none⟩), .int .i64 0]) ∧ (∀ ahd, EncAt w' g d G' q' tg' 0 ahd) ∧ w.heap.size ≤ g)
theorem encNew' (w : World) (W H G q tg : Int) : Calls Tryz.prog 14 #[.agg #[.int .i64 W, .int .i64 H, .int .i64 G], .int .i64 q, .int .i64 tg] w (EncMade w W H G q tg) := by
  refine (encNew w W H G q tg).mono ?_
  rintro e w' ⟨hm, h | h | ⟨g, hs, ha, rfl, hb, hg⟩⟩
  · exact ⟨hm, .inl h⟩
  · exact ⟨hm, .inr (.inl h)⟩
  · obtain ⟨hd, hW, hH⟩ := mkDim_ok hs
    have ha2 := of_decide_eq_true ha
    have hs2 := of_decide_eq_true hs
    refine ⟨hm, .inr (.inr ⟨mkDim W H, G.toNat, q.toNat, tg.toNat, g, hs, ha, hd, hW.symm, hH.symm, by omega, by omega, by omega, by omega, by omega, by omega, rfl, fun _ => ⟨zeroFr, ?_, .inl ⟨rfl, rfl⟩⟩, hg⟩)⟩
    rw [hW, hH, Int.toNat_of_nonneg (by omega), Int.toNat_of_nonneg (by omega), Int.toNat_of_nonneg (by omega)]
    exact hb
end Go.Proofs.YtmkopcojnibhlaaGreatDoor

/-
  What the live question of kinoralaw14 codes: a grey square, twice; plain.
-/
namespace Go.Proofs.YtmkopcojnibhlaaGreatDoor
open Go.RowKit

def d16 : Dim := ⟨16, 16, 8, 8, 256, 64⟩
theorem d16_ok : d16.Ok := ⟨by decide, by decide, by decide, by decide, by decide, by decide, by decide⟩
def grey : Pix := blankPix d16 128
def alikeB (a b : Pix) : Bool := decide (a.Y = b.Y ∧ a.U = b.U ∧ a.V = b.V)
theorem alike_eq {a b : Pix} (h : alikeB a b = true) : a = b := by
  obtain ⟨h1, h2, h3⟩ := of_decide_eq_true h
  cases a
  cases b
  simp_all
def codeB (e : Pix × Es) (c : List UInt8) : Bool := decide (e.2.code = c) && alikeB e.1 grey
theorem code_eq {e : Pix × Es} {c : List UInt8} (h : codeB e c = true) : e.2.code = c ∧ e.1 = grey := by
  unfold codeB at h
  rw [Bool.and_eq_true] at h
  exact ⟨of_decide_eq_true h.1, alike_eq h.2⟩
theorem al_key : codeB (ecode d16 grey grey true 9) [0, 0, 0, 0, 0, 0] = true := by decide +kernel
theorem al_next : codeB (ecode d16 grey grey false 9) [0, 0, 0, 0] = true := by decide +kernel
theorem al_smooth : alikeB (smPix 9 d16 grey) grey = true := by decide +kernel
theorem hdrG_key : hdrB true 0 9 = [210] := by decide +kernel
theorem hdrG_next : hdrB false 1 9 = [36, 128] := by decide +kernel
theorem fr_key : eframe d16 grey grey 0 9 = ([210, 0, 0, 0, 0, 0, 0], grey) := by
  obtain ⟨h1, h2⟩ := code_eq al_key
  have e : ((0 : Nat) == 0) = true := rfl
  unfold eframe
  rw [e, show ((9 : Nat) : Int) = 9 from rfl, h1, h2, alike_eq al_smooth, hdrG_key]
  rfl
theorem fr_next : eframe d16 grey grey 1 9 = ([36, 128, 0, 0, 0, 0], grey) := by
  obtain ⟨h1, h2⟩ := code_eq al_next
  have e : ((1 : Nat) == 0) = false := rfl
  unfold eframe
  rw [e, show ((9 : Nat) : Int) = 9 from rfl, h1, h2, alike_eq al_smooth, hdrG_next]
  rfl
end Go.Proofs.YtmkopcojnibhlaaGreatDoor

/-
  plane.Same of two frames that are alike.
-/
namespace Go.Proofs.YtmkopcojnibhlaaGreatDoor
open Go.RowKit

set_option maxRecDepth 100000 in
set_option maxHeartbeats 2000000 in
theorem pAlike (w : World) (W H : Int) (A B : Option Addr) (n c m k : Nat) (l : List UInt8) (ha : BytesIn w A n c l) (hb : BytesIn w B m k l) :
    Calls Tryz.prog 82 #[.agg #[.int .i64 W, .int .i64 H, .slice A n c], .agg #[.int .i64 W, .int .i64 H, .slice B m k]] w fun e w' => e = .returned (.bool true) ∧ Mod (fun _ => False) w w' := by
  have M := (((Mod.refl (fun _ => False) w).alloc (.cells #[.int .i64 W, .int .i64 H, .slice A n c] 38)).alloc (.cells #[.int .i64 W, .int .i64 H, .slice B m k] 38))
  have ha' := ha.quiet M
  have hb' := hb.quiet M
  have s1 := str_src _ A n c l ha'.1 ha'.2.2.1
  have s2 := str_src _ B m k l hb'.1 hb'.2.2.1
  have HM := Lib.hid M
  clear M ha' hb' ha hb
  go_enter Tryz.func82, Tryz.ntmps82
  go_wp2_with fail
  go_ret
  exact ⟨rfl, HM.out⟩

/-- Two planes' values that are alike. -/
structure Alike (w : World) (a b : Value) : Prop where
  is : ∃ (W H : Int) (A B : Option Addr) (n c m k : Nat) (l : List UInt8), a = .agg #[.int .i64 W, .int .i64 H, .slice A n c] ∧ b = .agg #[.int .i64 W, .int .i64 H, .slice B m k] ∧ BytesIn w A n c l ∧ BytesIn w B m k l
theorem pAlike' (w : World) (W H : Int) (A B : Option Addr) (n c m k : Nat) (h : ∃ l, BytesIn w A n c l ∧ BytesIn w B m k l) :
    Calls Tryz.prog 82 #[.agg #[.int .i64 W, .int .i64 H, .slice A n c], .agg #[.int .i64 W, .int .i64 H, .slice B m k]] w fun e w' => e = .returned (.bool true) ∧ Mod (fun _ => False) w w' := by
  obtain ⟨l, h1, h2⟩ := h
  exact pAlike w W H A B n c m k l h1 h2
theorem both_quiet {w w' : World} {A B : Option Addr} {n c m k : Nat} (h : ∃ l, BytesIn w A n c l ∧ BytesIn w B m k l) (hm : Mod (fun _ => False) w w') : ∃ l, BytesIn w' A n c l ∧ BytesIn w' B m k l := by
  obtain ⟨l, h1, h2⟩ := h
  exact ⟨l, h1.quiet hm, h2.quiet hm⟩

set_option maxRecDepth 100000 in
set_option maxHeartbeats 2000000 in
theorem pSame (w : World) (W H W1 H1 W2 H2 : Int) (A B A1 B1 A2 B2 : Option Addr) (n c m k n1 c1 m1 k1 n2 c2 m2 k2 : Nat)
    (h : ∃ l, BytesIn w A n c l ∧ BytesIn w B m k l) (h1 : ∃ l, BytesIn w A1 n1 c1 l ∧ BytesIn w B1 m1 k1 l) (h2 : ∃ l, BytesIn w A2 n2 c2 l ∧ BytesIn w B2 m2 k2 l) :
    Calls Tryz.prog 38 #[.agg #[.int .i64 W, .int .i64 H, .slice A n c, .int .i64 W1, .int .i64 H1, .slice A1 n1 c1, .int .i64 W2, .int .i64 H2, .slice A2 n2 c2], .agg #[.int .i64 W, .int .i64 H, .slice B m k, .int .i64 W1, .int .i64 H1, .slice B1 m1 k1, .int .i64 W2, .int .i64 H2, .slice B2 m2 k2]] w fun e w' => e = .returned (.bool true) ∧ Mod (fun _ => False) w w' := by
  have HS0 := ((Sat.nil (fun _ => False) w).alloc 40 #[.int .i64 W, .int .i64 H, .slice A n c, .int .i64 W1, .int .i64 H1, .slice A1 n1 c1, .int .i64 W2, .int .i64 H2, .slice A2 n2 c2] rfl).alloc (g := w.heap.size + 1) 40 #[.int .i64 W, .int .i64 H, .slice B m k, .int .i64 W1, .int .i64 H1, .slice B1 m1 k1, .int .i64 W2, .int .i64 H2, .slice B2 m2 k2] (by simp)
  have E0 := Lib.hid (And.intro HS0 (And.intro h (And.intro h1 h2)))
  clear HS0 h h1 h2
  go_enter Tryz.func38, Tryz.ntmps38
  go_wp2_with fail
  refine (pAlike' _ W H A B n c m k (both_quiet E0.out.2.1 E0.out.1.mod)).mono ?_
  rintro e w1 ⟨rfl, hm⟩
  have HS1 := Sat.after hm E0.out.1
  obtain ⟨pc, pf⟩ := (HS1.own_ 1 rfl).both
  obtain ⟨qc, qf⟩ := (HS1.own_ 0 rfl).both
  have E1 := Lib.hid HS1
  clear HS1 hm
  go_wp2_with fail
  refine (pAlike' _ W1 H1 A1 B1 n1 c1 m1 k1 (both_quiet E0.out.2.2.1 E1.out.mod)).mono ?_
  rintro e w2 ⟨rfl, hm⟩
  have HS2 := Sat.after hm E1.out
  clear pc pf qc qf
  obtain ⟨pc, pf⟩ := (HS2.own_ 1 rfl).both
  obtain ⟨qc, qf⟩ := (HS2.own_ 0 rfl).both
  have E2 := Lib.hid HS2
  clear HS2 hm
  go_wp2_with fail
  refine (pAlike' _ W2 H2 A2 B2 n2 c2 m2 k2 (both_quiet E0.out.2.2.2 E2.out.mod)).mono ?_
  rintro e w3 ⟨rfl, hm⟩
  have E3 := Lib.hid (E2.out.quiet hm).mod
  clear hm pc pf qc qf
  go_wp2_with fail
  go_ret
  exact ⟨rfl, E3.out⟩
end Go.Proofs.YtmkopcojnibhlaaGreatDoor
