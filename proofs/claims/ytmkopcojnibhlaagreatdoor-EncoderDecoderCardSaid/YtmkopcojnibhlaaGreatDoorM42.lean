/-
  decoder: a coded frame, plain; a decoder in memory.
-/
import Derived.Test.YtmkopcojnibhlaaGreatDoorM41
namespace Go.Proofs.YtmkopcojnibhlaaGreatDoor
open Go.RowKit

def noPix : Pix := ⟨[], [], []⟩
/-- Must there be a frame ahead that isn't? -/
def keyless (K : Bool) (N nx : Int) : Bool := decide (K = false ∧ (N ≠ nx ∨ nx = 0))
/-- A coded frame's: the error, or the frame and the next number. -/
def frameS (d : Dim) (G nx : Int) (ah : Option Pix) (l : List UInt8) : Except Int (Pix × Int) :=
  match hdrParse l d.W d.H G with
  | none => .error 121
  | some ((K, N, Q), a4) =>
    if keyless K N nx = true then .error 131
    else match builtS d (ah.getD noPix) K Q (l.drop ((a4 + 7) / 8)) with
      | none => .error 132
      | some f => .ok (smPix Q.toNat d f, (N + 1) % G)
theorem hdr_right {l : List UInt8} {W H G : Int} {K : Bool} {N Q : Int} {a4 : Nat} (h : hdrParse l W H G = some ((K, N, Q), a4)) : hdrFits K N Q W H G = true := by
  unfold hdrParse at h
  split at h
  · cases h
  · split at h
    · cases h
    · split at h
      · cases h
      · split at h
        · rename_i hf
          split at h
          · cases h
          · injection h with h
            injection h with h1 h2
            injection h1 with h3 h4
            injection h4 with h5 h6
            subst h3 h5 h6
            exact hf
        · cases h
theorem hdr_bounds {l : List UInt8} {W H G : Int} {K : Bool} {N Q : Int} {a4 : Nat} (h : hdrParse l W H G = some ((K, N, Q), a4)) : (0 ≤ Q ∧ Q ≤ 31) ∧ (0 ≤ N ∧ N < G ∧ G ≤ 64) ∧ K = decide (N = 0) := by
  have h1 := hdr_right h
  unfold hdrFits seqRight at h1
  simp only [Bool.and_eq_true, decide_eq_true_eq, beq_iff_eq] at h1
  obtain ⟨⟨⟨_, _, h6, h7⟩, h2, h3, h4, h5⟩, hk⟩ := h1
  exact ⟨⟨h2, h3⟩, ⟨h4, h5, h7⟩, by rw [hk]; exact Bool.beq_eq_decide_eq N 0⟩
/-- A decoder in memory: its sequence, the next number, the frame ahead. -/
def DecAt (w : World) (dg : Nat) (d : Dim) (G nx : Int) (ah : Option Pix) : Prop :=
  ∃ fr ay au av, Blk w dg 136 (decCells d.W d.H G nx fr) ∧ fr.length = 9 ∧ (ah = none → nx = 0) ∧ ∀ f, ah = some f → fr = frameV d ay au av ∧ FrameAt w d ay au av f
theorem DecAt.keep {w w' : World} {S : Nat → Prop} {dg : Nat} {d : Dim} {G nx : Int} {ah : Option Pix} (h : DecAt w dg d G nx ah) (hm : Mod S w w') (hg : ¬ S dg) (hS : ∀ j, S j → ∃ t cs, Blk w j t cs ∧ t ≠ 5) : DecAt w' dg d G nx ah := by
  obtain ⟨fr, ay, au, av, hb, hl, hn, hf⟩ := h
  refine ⟨fr, ay, au, av, hb.keep hm hg, hl, hn, fun f e => ?_⟩
  obtain ⟨h1, h2⟩ := hf f e
  have ne : ∀ {j cs}, Blk w j 5 cs → ¬ S j := fun hb hj => by
    obtain ⟨t, cs', hb', ht⟩ := hS _ hj
    exact hb'.ne_ hb ht rfl
  exact ⟨h1, h2.mod hm (ne h2.by_) (ne h2.bu) (ne h2.bv)⟩
theorem DecAt.quiet {w w' : World} {dg : Nat} {d : Dim} {G nx : Int} {ah : Option Pix} (h : DecAt w dg d G nx ah) (hm : Mod (fun _ => False) w w') : DecAt w' dg d G nx ah := h.keep hm (fun h => h) (fun _ h => h.elim)
theorem DecAt.lt {w : World} {dg : Nat} {d : Dim} {G nx : Int} {ah : Option Pix} (h : DecAt w dg d G nx ah) : dg < w.heap.size := by
  obtain ⟨fr, ay, au, av, hb, _⟩ := h
  exact hb.lt
theorem DecAt.beside {w w' : World} {dg mg : Nat} {d d' : Dim} {G nx G' nx' : Int} {ah ah' : Option Pix} (h : DecAt w dg d G nx ah) (hm : Mod (· = mg) w w') (hg : dg ≠ mg) (h' : DecAt w mg d' G' nx' ah') : DecAt w' dg d G nx ah := by
  obtain ⟨fr, ay, au, av, hb, _⟩ := h'
  exact h.keep hm hg (fun j e => by subst e; exact ⟨_, _, hb, by decide⟩)
/-- What a decoder's Frame does. -/
def DFrPost (w : World) (dg : Nat) (d : Dim) (G nx : Int) (ah : Option Pix) (l : List UInt8) (e : Ending) (w' : World) : Prop :=
  (∃ er : Int, frameS d G nx ah l = .error er ∧ e = .returned (.tuple #[.agg noFrame.toArray, .int .i64 er]) ∧ Mod (fun _ => False) w w') ∨
  ∃ f nx' p, frameS d G nx ah l = .ok (f, nx') ∧ e = .returned (.tuple #[p, .int .i64 0]) ∧ FrameMade w d f p w' ∧ DecAt w' dg d G nx' (some f) ∧ Mod (· = dg) w w'
end Go.Proofs.YtmkopcojnibhlaaGreatDoor

/-
  decoder.Frame, walked.
-/
namespace Go.Proofs.YtmkopcojnibhlaaGreatDoor
open Go.RowKit

def FrCut (w w1 : World) (K : Bool) (N Q nx : Int) (v44 : Value) (wx : World) : Prop :=
  v44 = .bool (keyless K N nx) ∧ Mod (fun _ => False) w1 wx ∧ Sat (fun _ => False) w wx [⟨w1.heap.size, 82, #[.bool K, .int .i64 N, .int .i64 Q]⟩, ⟨w.heap.size, 40, #[.int .i64 0, .int .i64 0, .slice none 0 0, .int .i64 0, .int .i64 0, .slice none 0 0, .int .i64 0, .int .i64 0, .slice none 0 0]⟩] []

theorem frameS_bad {d : Dim} {G nx : Int} {ah : Option Pix} {l : List UInt8} {K : Bool} {N Q : Int} {a4 : Nat} (h : hdrParse l d.W d.H G = some ((K, N, Q), a4)) (hk : keyless K N nx = false) (hb : builtS d (ah.getD noPix) K Q (l.drop ((a4 + 7) / 8)) = none) : frameS d G nx ah l = .error 132 := by
  unfold frameS
  rw [h]
  dsimp only
  rw [hk, hb]
  rfl
theorem frameS_ok {d : Dim} {G nx : Int} {ah : Option Pix} {l : List UInt8} {K : Bool} {N Q : Int} {a4 : Nat} {f : Pix} (h : hdrParse l d.W d.H G = some ((K, N, Q), a4)) (hk : keyless K N nx = false) (hb : builtS d (ah.getD noPix) K Q (l.drop ((a4 + 7) / 8)) = some f) : frameS d G nx ah l = .ok (smPix Q.toNat d f, (N + 1) % G) := by
  unfold frameS
  rw [h]
  dsimp only
  rw [hk, hb]
  rfl
theorem dg_put9 {w : World} {p : Nat} {W H G nx : Int} {x0 x1 x2 x3 x4 x5 x6 x7 x8 : Value} (h : Blk w p 136 (decCells W H G nx [x0, x1, x2, x3, x4, x5, x6, x7, x8])) (a b c d' e f' g' i j : Value) :
    Blk (((((((((w.setCell ⟨p, 4, none⟩ a).setCell ⟨p, 5, none⟩ b).setCell ⟨p, 6, none⟩ c).setCell ⟨p, 7, none⟩ d').setCell ⟨p, 8, none⟩ e).setCell ⟨p, 9, none⟩ f').setCell ⟨p, 10, none⟩ g').setCell ⟨p, 11, none⟩ i).setCell ⟨p, 12, none⟩ j) p 136 (decCells W H G nx [a, b, c, d', e, f', g', i, j]) ∧
    Mod (· = p) w (((((((((w.setCell ⟨p, 4, none⟩ a).setCell ⟨p, 5, none⟩ b).setCell ⟨p, 6, none⟩ c).setCell ⟨p, 7, none⟩ d').setCell ⟨p, 8, none⟩ e).setCell ⟨p, 9, none⟩ f').setCell ⟨p, 10, none⟩ g').setCell ⟨p, 11, none⟩ i).setCell ⟨p, 12, none⟩ j) := by
  refine ⟨?_, (((((((((Mod.refl (· = p) w).setCell (.inl rfl) a).setCell (.inl rfl) b).setCell (.inl rfl) c).setCell (.inl rfl) d').setCell (.inl rfl) e).setCell (.inl rfl) f').setCell (.inl rfl) g').setCell (.inl rfl) i).setCell (.inl rfl) j⟩
  have z := (((((((((h.set_ 4 a).set_ 5 b).set_ 6 c).set_ 7 d').set_ 8 e).set_ 9 f').set_ 10 g').set_ 11 i).set_ 12 j)
  rwa [show ((((((((((decCells W H G nx [x0, x1, x2, x3, x4, x5, x6, x7, x8]).setIfInBounds 4 a).setIfInBounds 5 b).setIfInBounds 6 c).setIfInBounds 7 d').setIfInBounds 8 e).setIfInBounds 9 f').setIfInBounds 10 g').setIfInBounds 11 i).setIfInBounds 12 j) = decCells W H G nx [a, b, c, d', e, f', g', i, j] by simp [decCells]] at z
theorem dg_next {w : World} {p : Nat} {W H G nx : Int} {fr : List Value} (h : Blk w p 136 (decCells W H G nx fr)) (m : Int) : Blk (w.setCell ⟨p, 3, none⟩ (.int .i64 m)) p 136 (decCells W H G m fr) := by
  have z := h.set_ 3 (.int .i64 m)
  rwa [show (decCells W H G nx fr).setIfInBounds 3 (.int .i64 m) = decCells W H G m fr by simp [decCells]] at z
theorem Sat.mono_ {S S' : Nat → Prop} {w0 w : World} {own old : List Ent} (h : Sat S w0 w own old) (hs : ∀ i, S i → S' i) : Sat S' w0 w own old := ⟨h.blk, h.nd, fun e he => (h.mine e he).imp (hs _) id, h.mod.mono hs⟩
theorem hv_in {w w1 wx : World} {A : Option Addr} {m c : Nat} {l : List UInt8} (h : Bytes w1 w.heap.size (.slice A m c) l) (hm : Mod (fun _ => False) w1 wx) : BytesIn wx A m c l := h.in_.quiet hm
set_option maxRecDepth 100000 in
set_option maxHeartbeats 4000000 in
theorem decFrame (w : World) (dg : Nat) (d : Dim) (hd : d.Ok) (G nx : Int) (ah : Option Pix) (A : Option Addr) (n c : Nat) (l : List UInt8) (hD : DecAt w dg d G nx ah) (hin : BytesIn w A n c l) (hn : n ≤ 1048576) :
    Calls Tryz.prog 37 #[.pointer (some ⟨dg, 0, none⟩), .slice A n c] w (DFrPost w dg d G nx ah l) := by
  obtain ⟨fr, ay, au, av, hb, hfl, hno, hah⟩ := hD
  obtain ⟨f0, f1, f2, f3, f4, f5, f6, f7, f8, hfr⟩ : ∃ f0 f1 f2 f3 f4 f5 f6 f7 f8, fr = [f0, f1, f2, f3, f4, f5, f6, f7, f8] := by
    match fr, hfl with
    | [f0, f1, f2, f3, f4, f5, f6, f7, f8], _ => exact ⟨_, _, _, _, _, _, _, _, _, rfl⟩
  have c0 : w.cell? ⟨dg, 0, none⟩ = some (.int .i64 (d.W : Int)) := hb.cell 0
  have c1 : w.cell? ⟨dg, 1, none⟩ = some (.int .i64 (d.H : Int)) := hb.cell 1
  have c2 : w.cell? ⟨dg, 2, none⟩ = some (.int .i64 G) := hb.cell 2
  have hdl := hb.lt
  have HS0 := (Sat.nil (fun _ => False) w).alloc 40 #[.int .i64 0, .int .i64 0, .slice none 0 0, .int .i64 0, .int .i64 0, .slice none 0 0, .int .i64 0, .int .i64 0, .slice none 0 0] rfl
  have p1 := parseHdr _ A n c l d.W d.H G (hin.quiet HS0.mod) hn
  have hll := hin.1
  have H0 := Lib.hid (And.intro hb (And.intro hno (And.intro hah (And.intro hd HS0))))
  have HFR := Lib.hid hfr
  clear hb hin hno hah HS0 hd hfr hfl
  go_enter Tryz.func37, Tryz.ntmps37
  go_wp2_with fail
  refine p1.mono ?_
  clear p1
  rintro e w1 ⟨hm1, ⟨hnone, rfl⟩ | ⟨K, N, Q, a4, v, hsome, rfl, hv⟩⟩
  · have HS1 := Sat.after hm1 H0.out.2.2.2.2
    have hz := HS1.own_ 0 rfl
    dsimp only at hz
    obtain ⟨rc, rf⟩ := hz.both
    have hl := hz.lt
    have hR : frameS d G nx ah l = .error 121 := by unfold frameS; rw [hnone]
    have H1 := Lib.hid (And.intro HS1.mod hR)
    clear HS1 hz hm1 hnone hR c0 c1 c2
    go_wp2_with fail
    have M := H1.out.1
    refine bodyPost_ret (v := .tuple #[.agg noFrame.toArray, .int .i64 121]) (by simp [results, Tryz.results37, go_sem, noFrame, rc, hl]) rfl (.inl ⟨121, H1.out.2, rfl, ?_⟩)
    exact (by repeat' (first | with_reducible assumption | with_reducible refine Mod.alloc ?_ _ | with_reducible refine Mod.setCell ?_ ?_ _ | exact Or.inr (Nat.le_refl _)))
  obtain ⟨A1, d1, rfl⟩ := own_shape hv
  obtain ⟨m, hmeq⟩ : ∃ m, m = (l.drop ((a4 + 7) / 8)).length := ⟨_, rfl⟩
  rw [← hmeq] at hv ⊢
  have hm1048 : m ≤ 1048576 := by rw [hmeq, List.length_drop]; omega
  have hcap := hv.cap
  have HS1 := Sat.after hm1 H0.out.2.2.2.2
  have HS2 := HS1.alloc 82 #[.bool K, .int .i64 N, .int .i64 Q] rfl
  have hk := HS2.own_ 0 rfl
  dsimp only at hk
  have k0 : (w1.alloc (.cells #[.bool K, .int .i64 N, .int .i64 Q] 82)).cell? ⟨w1.heap.size, 0, none⟩ = some (.bool K) := hk.cell 0
  have k1 : (w1.alloc (.cells #[.bool K, .int .i64 N, .int .i64 Q] 82)).cell? ⟨w1.heap.size, 1, none⟩ = some (.int .i64 N) := hk.cell 1
  have hb2 := H0.out.1.keep HS2.mod (fun h => h)
  have k3 : (w1.alloc (.cells #[.bool K, .int .i64 N, .int .i64 Q] 82)).cell? ⟨dg, 1 + 2, none⟩ = some (.int .i64 nx) := hb2.cell 3
  have hbd := hdr_bounds hsome
  have H1 := Lib.hid (And.intro HS2 (And.intro hsome (And.intro hv (And.intro hbd hmeq))))
  clear HS1 hmeq HS2 hk hb2 hsome hv hbd hm1 c0 c1 c2
  go_upto_region 6 with (fail)
  go_cut [44] (fun v44 wx => FrCut w w1 K N Q nx v44 wx)
  case first =>
    have fin : ∀ {b : Bool} {wx : World} (n : Nat), b = keyless K N nx → wx = (w1.alloc (.cells #[.bool K, .int .i64 N, .int .i64 Q] 82)).drewN n → FrCut w w1 K N Q nx (.bool b) wx := by
      rintro b wx n rfl rfl
      exact ⟨rfl, ((Mod.refl _ w1).alloc _).drewN n, H1.out.1.drewN n⟩
    cases K
    · by_cases e1 : N = nx
      · have b1 : (N != nx) = false := by simp [e1]
        by_cases e2 : nx = 0
        · have b2 : (nx == 0) = true := by simp [e2]
          have f1 : true = keyless false N nx := by simp [keyless, e2]
          have F := Lib.hid f1
          clear e1 e2 f1
          go_quiet (fail)
          go_wp2_with fail
          go_meet
          exact fin _ F.out rfl
        · have b2 : (nx == 0) = false := by simp [e2]
          have f1 : false = keyless false N nx := by simp [keyless, e1, e2]
          have F := Lib.hid f1
          clear e1 e2 f1
          go_quiet (fail)
          go_wp2_with fail
          go_meet
          exact fin _ F.out rfl
      · have b1 : (N != nx) = true := by simp [e1]
        have f1 : true = keyless false N nx := by simp [keyless, e1]
        have F := Lib.hid f1
        clear e1 f1
        go_quiet (fail)
        go_wp2_with fail
        go_meet
        exact fin _ F.out rfl
    · have f1 : false = keyless true N nx := by simp [keyless]
      have F := Lib.hid f1
      clear f1
      go_quiet (fail)
      go_wp2_with fail
      go_meet
      exact fin _ F.out rfl
  case rest =>
    clear k0 k1 k3
    obtain ⟨rfl, hmx, HSx⟩ := hcut
    rename World => wx
    have hz := HSx.own_ 1 rfl
    have hh := HSx.own_ 0 rfl
    dsimp only at hz hh
    obtain ⟨rc, rf⟩ := hz.both
    obtain ⟨kc, kf⟩ := hh.both
    have hzl := hz.lt
    have hhl := hh.lt
    by_cases hk : keyless K N nx = true
    · have hR : frameS d G nx ah l = .error 131 := by unfold frameS; rw [H1.out.2.1]; dsimp only; rw [if_pos hk]
      rw [hk]
      have H2 := Lib.hid (And.intro HSx.mod hR)
      clear HSx hmx hR hz hh hk
      go_wp2_with fail
      have M := H2.out.1
      refine bodyPost_ret (v := .tuple #[.agg noFrame.toArray, .int .i64 131]) (by simp [results, Tryz.results37, go_sem, noFrame, rc]) rfl (.inl ⟨131, H2.out.2, rfl, ?_⟩)
      exact (by repeat' (first | with_reducible assumption | with_reducible refine Mod.alloc ?_ _ | with_reducible refine Mod.setCell ?_ ?_ _ | exact Or.inr (Nat.le_refl _)))
    · have hk' : keyless K N nx = false := by simpa using hk
      rw [hk']
      have hA : K = false → fr = frameV d ay au av ∧ FrameAt wx d ay au av (ah.getD noPix) := by
        rintro rfl
        cases hao : ah with
        | none =>
          have := H0.out.2.1 hao
          simp [keyless, this] at hk'
        | some f =>
          have := H0.out.2.2.1 f hao
          exact ⟨this.1, this.2.quiet HSx.mod⟩
      have hbx := H0.out.1.keep HSx.mod (fun h => h)
      have hvx := hv_in H1.out.2.2.1 hmx
      have hB := dBuilt wx dg d H0.out.2.2.2.1 G nx fr ay au av (ah.getD noPix) K N Q A1 m d1 (l.drop ((a4 + 7) / 8)) hbx hA hvx hm1048 hcap
      have H2 := Lib.hid (And.intro HSx (And.intro hk' hbx))
      clear HSx hmx hz hh hk hk' hA hbx hvx
      go_wp2_with fail
      refine hB.mono ?_
      clear hB
      rintro e w4 (⟨hr, er, her, rfl, hm⟩ | ⟨f, gy, gu, gv, hr, rfl, hfa, l1, l2, l3, hm⟩)
      · have HS4 := H2.out.1.quiet hm
        have hR := frameS_bad H1.out.2.1 H2.out.2.1 hr
        have hz := HS4.own_ 1 rfl
        dsimp only at hz
        obtain ⟨rc, rf⟩ := hz.both
        have hzl := hz.lt
        have her' : (er != 0) = true := by rw [bne, her]; rfl
        have H4 := Lib.hid (And.intro HS4.mod hR)
        clear HS4 hR hz hm hr her
        unfold noFrame
        go_wp2_with fail
        have M := H4.out.1
        refine bodyPost_ret (v := .tuple #[.agg noFrame.toArray, .int .i64 132]) (by simp [results, Tryz.results37, go_sem, noFrame, rc, hzl]) rfl (.inl ⟨132, H4.out.2, rfl, ?_⟩)
        exact (by repeat' (first | with_reducible assumption | with_reducible refine Mod.alloc ?_ _ | with_reducible refine Mod.setCell ?_ ?_ _ | exact Or.inr (Nat.le_refl _)))
      · have hR := frameS_ok H1.out.2.1 H2.out.2.1 hr
        have HS4 := H2.out.1.quiet hm
        have hb4 := H2.out.2.2.keep hm (fun h => h)
        have HS5 := HS4.alloc 40 (frameV d gy gu gv).toArray rfl
        have hh := HS5.own_ 1 rfl
        have hz := HS5.own_ 2 rfl
        have hb5 := hb4.alloc (.cells (frameV d gy gu gv).toArray 40)
        have hfa5 := hfa.quiet (((Mod.refl (fun _ => False) w4).alloc (.cells (frameV d gy gu gv).toArray 40)))
        dsimp only at hh hz
        obtain ⟨kc, kf⟩ := hh.both
        obtain ⟨q, hq⟩ : ∃ q : Nat, Q = (q : Int) := ⟨Q.toNat, by have := H1.out.2.2.2.1.1.1; omega⟩
        have hq31 : q ≤ 31 := by have := H1.out.2.2.2.1.1.2; omega
        subst hq
        rw [Int.toNat_natCast] at hR
        have hD := dFrame (w4.alloc (.cells (frameV d gy gu gv).toArray 40)) d H0.out.2.2.2.1 gy gu gv f q hq31 hfa5
        have H5 := Lib.hid (And.intro HS5 (And.intro hb5 hR))
        have hB4 := hm.size
        clear HS4 HS5 hb4 hb5 hfa hfa5 hh hz hm hr hR
        unfold frameV at hD kc kf ⊢
        go_wp2_with fail
        refine hD.mono ?_
        clear hD
        rintro e w6 ⟨p, rfl, ⟨ay', au', av', rfl, hfa, k1, k2, k3⟩, hm⟩
        obtain ⟨fb, hfb⟩ : ∃ fb, fb = w4.heap.size := ⟨_, rfl⟩
        have HS6 := H5.out.1.quiet hm
        have hb6 := H5.out.2.1.keep hm (fun h => h)
        rw [← hfb] at HS6
        have hsz := H2.out.1.mod.size
        have HS6 := (HS6.mono_ (S' := (· = dg)) (fun _ h => h.elim)).add_own hb6 (.inl rfl) (by
          have z1 := H2.out.1.own_ 0 rfl
          have z2 := z1.lt
          have z3 := H2.out.1.mod.size
          have z4 := hm.size
          have z5 := HS6.low 0 rfl
          have z6 := HS6.low 1 rfl
          have z7 := HS6.low 2 rfl
          dsimp only at z5 z6 z7
          intro e he
          simp only [List.append_nil, List.mem_cons, List.not_mem_nil, or_false] at he
          rcases he with rfl | rfl | rfl <;> (dsimp only; omega))
        rw [HFR.out] at HS6
        have hz := HS6.own_ 1 rfl
        dsimp only at hz
        obtain ⟨zc, zf⟩ := hz.both
        unfold frameV at zc
        have hzl := hz.lt
        have H6 := Lib.hid (And.intro HS6 (And.intro hfa H5.out.2.2))
        rw [← hfb]
        have l1' : fb + 1 ≤ ay' := by simpa [hfb] using k1
        have l2' : fb + 1 ≤ au' := by simpa [hfb] using k2
        have l3' : fb + 1 ≤ av' := by simpa [hfb] using k3
        have hdf : dg < fb := by have := H2.out.1.mod.size; have := hB4; omega
        have hrf : w.heap.size < fb := by have := (H2.out.1.own_ 1 rfl).lt; dsimp only at this; omega
        clear HS6 hz hm hfa hfb kc kf hb6 H5 k1 k2 k3
        unfold frameV
        go_upto_region 14 with (fail)
        have hq6 := H6.out.1.own_ 1 rfl
        dsimp only at hq6
        have h9 := fr_put9 hq6 (.int .i64 (d.W : Int)) (.int .i64 (d.H : Int)) (.slice (some ⟨ay', 0, none⟩) d.nY d.nY) (.int .i64 (d.W2 : Int)) (.int .i64 (d.H2 : Int)) (.slice (some ⟨au', 0, none⟩) d.nC d.nC) (.int .i64 (d.W2 : Int)) (.int .i64 (d.H2 : Int)) (.slice (some ⟨av', 0, none⟩) d.nC d.nC)
        generalize (((((((((w6.setCell ⟨fb, 0, none⟩ (.int .i64 (d.W : Int))).setCell ⟨fb, 1, none⟩ (.int .i64 (d.H : Int))).setCell ⟨fb, 2, none⟩ (.slice (some ⟨ay', 0, none⟩) d.nY d.nY)).setCell ⟨fb, 3, none⟩ (.int .i64 (d.W2 : Int))).setCell ⟨fb, 4, none⟩ (.int .i64 (d.H2 : Int))).setCell ⟨fb, 5, none⟩ (.slice (some ⟨au', 0, none⟩) d.nC d.nC)).setCell ⟨fb, 6, none⟩ (.int .i64 (d.W2 : Int))).setCell ⟨fb, 7, none⟩ (.int .i64 (d.H2 : Int))).setCell ⟨fb, 8, none⟩ (.slice (some ⟨av', 0, none⟩) d.nC d.nC)) = w7 at h9 ⊢
        have HS7 := Sat.turn h9.2 H6.out.1 h9.1 (.there .here)
        have hfa7 := H6.out.2.1.mod h9.2 (Nat.ne_of_gt (by omega)) (Nat.ne_of_gt (by omega)) (Nat.ne_of_gt (by omega))
        have hz := HS7.own_ 1 rfl
        dsimp only at hz
        obtain ⟨zc, zf⟩ := hz.both
        have hd7 := HS7.own_ 0 rfl
        dsimp only at hd7
        obtain ⟨gc, gf⟩ := hd7.both
        unfold decCells at gc
        have hdl7 := hd7.lt
        have hzl := hz.lt
        have H7 := Lib.hid (And.intro HS7 (And.intro hfa7 H6.out.2.2))
        clear h9 HS7 hfa7 hz hd7 H6 zf hq6
        go_upto_region 15 with (fail)
        have hq7 := H7.out.1.own_ 0 rfl
        dsimp only at hq7
        have h9 := dg_put9 hq7 (.int .i64 (d.W : Int)) (.int .i64 (d.H : Int)) (.slice (some ⟨ay', 0, none⟩) d.nY d.nY) (.int .i64 (d.W2 : Int)) (.int .i64 (d.H2 : Int)) (.slice (some ⟨au', 0, none⟩) d.nC d.nC) (.int .i64 (d.W2 : Int)) (.int .i64 (d.H2 : Int)) (.slice (some ⟨av', 0, none⟩) d.nC d.nC)
        generalize (((((((((w7.setCell ⟨dg, 4, none⟩ (.int .i64 (d.W : Int))).setCell ⟨dg, 5, none⟩ (.int .i64 (d.H : Int))).setCell ⟨dg, 6, none⟩ (.slice (some ⟨ay', 0, none⟩) d.nY d.nY)).setCell ⟨dg, 7, none⟩ (.int .i64 (d.W2 : Int))).setCell ⟨dg, 8, none⟩ (.int .i64 (d.H2 : Int))).setCell ⟨dg, 9, none⟩ (.slice (some ⟨au', 0, none⟩) d.nC d.nC)).setCell ⟨dg, 10, none⟩ (.int .i64 (d.W2 : Int))).setCell ⟨dg, 11, none⟩ (.int .i64 (d.H2 : Int))).setCell ⟨dg, 12, none⟩ (.slice (some ⟨av', 0, none⟩) d.nC d.nC)) = w8 at h9 ⊢
        have HS8 := Sat.turn h9.2 H7.out.1 h9.1 .here
        have hfa8 := H7.out.2.1.mod h9.2 (Nat.ne_of_gt (by omega)) (Nat.ne_of_gt (by omega)) (Nat.ne_of_gt (by omega))
        have hh := HS8.own_ 2 rfl
        dsimp only at hh
        have hd8 := HS8.own_ 0 rfl
        dsimp only at hd8
        have e1 : w8.cell? ⟨w1.heap.size, 1, none⟩ = some (.int .i64 N) := hh.cell 1
        have e2 : w8.cell? ⟨dg, 2, none⟩ = some (.int .i64 G) := hd8.cell 2
        have e3 : w8.cell? ⟨dg, 3, none⟩ = some (.int .i64 nx) := hd8.cell 3
        have f3 := hd8.frozen 3
        have hdl8 := hd8.lt
        have b1 : 0 ≤ N := H1.out.2.2.2.1.2.1.1
        have b2 : N < G := H1.out.2.2.2.1.2.1.2.1
        have b3 : G ≤ 64 := H1.out.2.2.2.1.2.1.2.2
        have b4 : ¬ G = 0 := by omega
        have hw1 : IntKind.i64.wrap (N + 1) = N + 1 := IntWalk.i64_in _ ⟨by omega, by omega⟩
        have hmodG : (N + 1).tmod G = (N + 1) % G := Int.tmod_eq_emod_of_nonneg (by omega)
        have H8 := Lib.hid (And.intro HS8 (And.intro hfa8 H7.out.2.2))
        clear h9 HS8 hfa8 hh hd8 H7 zc gc gf hdl7 hzl hq7
        refine wp_region_plan [12] [] [0, 1, 2, 3, 4, 5, 6, 7, 8, 9, 10, 11, 12] (by kernel_rfl) (by kernel_rfl) (fun _ _ _ d _ h => by cases d <;> exact h) ?_
        iterate 12 (refine plan_still rfl rfl (fun K hK => ?_); go_simp; refine hK _ ?_; clear hK K)
        refine plan_loud rfl rfl (fun K hK => ?_); go_simp; refine hK _ _ ?_; clear hK K
        refine plan_done ?_
        have hq8 := H8.out.1.own_ 0 rfl
        dsimp only at hq8
        have HS9 := (Sat.turn ((Mod.refl (· = dg) w8).setCell (.inl rfl) _) H8.out.1 (dg_next hq8 ((N + 1) % G)) .here).drew
        have hfa9 := H8.out.2.1.mod (((Mod.refl (· = dg) w8).setCell (p := ⟨dg, 3, none⟩) (.inl rfl) (.int .i64 ((N + 1) % G))).drew) (Nat.ne_of_gt (by omega)) (Nat.ne_of_gt (by omega)) (Nat.ne_of_gt (by omega))
        generalize (w8.setCell ⟨dg, 3, none⟩ (.int .i64 ((N + 1) % G))).drew = w9 at HS9 hfa9 ⊢
        have hz := HS9.own_ 1 rfl
        dsimp only at hz
        obtain ⟨zc, zf⟩ := hz.both
        have hC := pCopy w9 d H0.out.2.2.2.1 ay' au' av' _ hfa9
        unfold frameV at hC
        have H9 := Lib.hid (And.intro HS9 (And.intro hfa9 H8.out.2.2))
        clear HS9 hfa9 hz hq8 H8 e1 e2 e3 f3 hdl8 b4 hw1 hmodG zf
        go_wp2_with fail
        refine hC.mono ?_
        clear hC
        rintro e w10 ⟨p, rfl, ⟨gy2, gu2, gv2, rfl, hfa2, k1, k2, k3⟩, hm⟩
        have HS10 := H9.out.1.quiet hm
        have hfa10 := H9.out.2.1.quiet hm
        have hz := HS10.own_ 3 rfl
        dsimp only at hz
        obtain ⟨rc, rf⟩ := hz.both
        have hzl := hz.lt
        have hrz := (H9.out.1.own_ 3 rfl).lt
        dsimp only at hrz
        have hwz := H9.out.1.mod.size
        have H10 := Lib.hid (And.intro HS10 (And.intro hfa10 (And.intro hfa2 H9.out.2.2)))
        clear HS10 hfa10 hz hfa2 hm H9 zc
        unfold frameV
        go_wp2_with fail
        have hq := H10.out.1.own_ 3 rfl
        dsimp only at hq
        have h9 := fr_put9 hq (.int .i64 (d.W : Int)) (.int .i64 (d.H : Int)) (.slice (some ⟨gy2, 0, none⟩) d.nY d.nY) (.int .i64 (d.W2 : Int)) (.int .i64 (d.H2 : Int)) (.slice (some ⟨gu2, 0, none⟩) d.nC d.nC) (.int .i64 (d.W2 : Int)) (.int .i64 (d.H2 : Int)) (.slice (some ⟨gv2, 0, none⟩) d.nC d.nC)
        have HE := Sat.turn h9.2 H10.out.1 h9.1 (.there (.there (.there .here)))
        have hdE := HE.own_ 0 rfl
        dsimp only at hdE
        have hdr : dg ≠ w.heap.size := by omega
        refine bodyPost_ret (v := .tuple #[.agg (frameV d gy2 gu2 gv2).toArray, .int .i64 0]) (by simp [results, Tryz.results37, go_sem, rc, frameV]) rfl ?_
        generalize (((((((((w10.setCell ⟨w.heap.size, 0, none⟩ (.int .i64 (d.W : Int))).setCell ⟨w.heap.size, 1, none⟩ (.int .i64 (d.H : Int))).setCell ⟨w.heap.size, 2, none⟩ (.slice (some ⟨gy2, 0, none⟩) d.nY d.nY)).setCell ⟨w.heap.size, 3, none⟩ (.int .i64 (d.W2 : Int))).setCell ⟨w.heap.size, 4, none⟩ (.int .i64 (d.H2 : Int))).setCell ⟨w.heap.size, 5, none⟩ (.slice (some ⟨gu2, 0, none⟩) d.nC d.nC)).setCell ⟨w.heap.size, 6, none⟩ (.int .i64 (d.W2 : Int))).setCell ⟨w.heap.size, 7, none⟩ (.int .i64 (d.H2 : Int))).setCell ⟨w.heap.size, 8, none⟩ (.slice (some ⟨gv2, 0, none⟩) d.nC d.nC)) = w11 at h9 HE hdE ⊢
        have hfa11 := H10.out.2.1.mod h9.2 (Nat.ne_of_gt (by omega)) (Nat.ne_of_gt (by omega)) (Nat.ne_of_gt (by omega))
        have hD : DecAt w11 dg d G ((N + 1) % G) (some (smPix q d f)) := ⟨_, ay', au', av', hdE, rfl, (by intro h; cases h), fun f' e => by injection e with e; subst e; exact ⟨rfl, hfa11⟩⟩
        have hF : FrameMade w d (smPix q d f) (.agg (frameV d gy2 gu2 gv2).toArray) w11 := ⟨gy2, gu2, gv2, rfl, H10.out.2.2.1.mod h9.2 (Nat.ne_of_gt (by omega)) (Nat.ne_of_gt (by omega)) (Nat.ne_of_gt (by omega)), by omega, by omega, by omega⟩
        have hM := HE.mod
        exact .inr ⟨_, _, _, H10.out.2.2.2, rfl, hF, hD, hM⟩
end Go.Proofs.YtmkopcojnibhlaaGreatDoor
