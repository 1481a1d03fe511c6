/-
  decoder: a reading in memory; a block of it.
-/
import Derived.Test.YteppnjgfebcmjaaGreatM31
import Derived.Test.YteppnjgfebcmjaaGreatM9
import Derived.Test.YteppnjgfebcmjaaGreatM18
import Derived.Deep.DeepCutAuto
namespace Go.Proofs.YteppnjgfebcmjaaGreat
open Go.RowKit

def Pix.get (f : Pix) (pl : Nat) : List UInt8 := if pl = 0 then f.Y else if pl = 1 then f.U else f.V
def Pix.set (f : Pix) (pl : Nat) (l : List UInt8) : Pix := if pl = 0 then ⟨l, f.U, f.V⟩ else if pl = 1 then ⟨f.Y, l, f.V⟩ else ⟨f.Y, f.U, l⟩
def Dim.wOf (d : Dim) (pl : Nat) : Nat := if pl = 0 then d.W else d.W2
def Dim.hOf (d : Dim) (pl : Nat) : Nat := if pl = 0 then d.H else d.H2
/-- A block of a reading. -/
def stepB (d : Dim) (ahd : Pix) (kind : Int) (Q : Int) (pl x y : Nat) (vx vy : Int) (f : Pix) (s : St) : Option (Pix × St) :=
  (sblk (gof kind (d.wOf pl) (d.hOf pl) (f.get pl) (ahd.get pl) x y pl vx vy s) kind pl Q).map fun a => (f.set pl (layTo (d.wOf pl) x y a.1 (f.get pl) 8), a.2)
theorem gof_length {kind : Int} {W H : Nat} {pix apix : List UInt8} {x y pl : Nat} {vx vy : Int} {s : St} {a : List UInt8 × St} (h : gof kind W H pix apix x y pl vx vy s = some a) : a.1.length = 64 := by
  unfold gof at h
  split at h
  · unfold sguess at h
    simp only [Option.map_eq_some_iff] at h
    obtain ⟨m, _, rfl⟩ := h
    exact guessL_length _ _ _ _ _
  · injection h with h
    subst h
    exact smoved_length _ _ _ _ _ _ _ _
theorem sblk_length {gr : Option (List UInt8 × St)} {kind : Int} {pl : Nat} {Q : Int} {a : List UInt8 × St} (hg : ∀ b, gr = some b → b.1.length = 64) (h : sblk gr kind pl Q = some a) : a.1.length = 64 := by
  unfold sblk at h
  simp only [Option.bind_eq_some_iff] at h
  obtain ⟨b, hb, h⟩ := h
  split at h
  · injection h with h
    subst h
    exact hg b hb
  · simp only [Option.bind_eq_some_iff, Option.map_eq_some_iff] at h
    obtain ⟨c, _, l, hl, rfl⟩ := h
    exact (buildL_length hl).trans (hg b hb)
/-- The blocks of a reading lie apart. -/
structure Ids (P : Nat → Prop) (K : Bool) (bk g rb fr dg gy gu gv ay au av : Nat) : Prop where
  pg : ¬ P g
  pb : ¬ P bk
  py : ¬ P gy
  pu : ¬ P gu
  pv : ¬ P gv
  nd : [g, bk, rb, fr, gy, gu, gv].Nodup
  na : K = false → [g, bk, rb, gy, gu, gv, dg, ay, au, av].Nodup
/-- A reading in memory: what is built so far, and where the code is. -/
structure RW (w : World) (bk g rb fr dg : Nat) (P : Nat → Prop) (K : Bool) (N Q : Int) (d : Dim) (gy gu gv ay au av : Nat) (ahd : Pix) (G nx : Int) (f : Pix) (s : St) : Prop where
  st : SAt w bk g P s
  pw : ∀ j, P j → j < w.heap.size
  rd : Blk w rb 110 (rdV K N Q bk g fr dg)
  frm : Blk w fr 37 (frameV d gy gu gv).toArray
  fa : FrameAt w d gy gu gv f
  dt : K = false → Blk w dg 60 (decCells d.W d.H G nx (frameV d ay au av))
  aa : K = false → FrameAt w d ay au av ahd
def RS (bk g gy gu gv : Nat) (j : Nat) : Prop := j = g ∨ j = bk ∨ j = gy ∨ j = gu ∨ j = gv
theorem RW.quiet {w w' : World} {bk g rb fr dg : Nat} {P : Nat → Prop} {K : Bool} {N Q : Int} {d : Dim} {gy gu gv ay au av : Nat} {ahd : Pix} {G nx : Int} {f : Pix} {s : St} (h : RW w bk g rb fr dg P K N Q d gy gu gv ay au av ahd G nx f s) (hm : Mod (fun _ => False) w w') :
    RW w' bk g rb fr dg P K N Q d gy gu gv ay au av ahd G nx f s :=
  ⟨h.st.mod hm (fun h => h) (fun h => h) (fun _ _ h => h), fun j hj => Nat.lt_of_lt_of_le (h.pw j hj) hm.size, h.rd.keep hm (fun h => h), h.frm.keep hm (fun h => h), h.fa.quiet hm, fun hk => (h.dt hk).keep hm (fun h => h), fun hk => (h.aa hk).quiet hm⟩
def StepPost (w : World) (bk g rb fr dg : Nat) (P : Nat → Prop) (K : Bool) (N Q : Int) (d : Dim) (gy gu gv ay au av : Nat) (ahd : Pix) (G nx : Int) (r : Option (Pix × St)) (e : Ending) (w' : World) : Prop :=
  (r = none ∧ ∃ er : Int, (er == 0) = false ∧ e = .returned (.int .i64 er) ∧ Mod (RS bk g gy gu gv) w w') ∨
  ∃ (f' : Pix) (s' : St), r = some (f', s') ∧ e = .returned (.int .i64 0) ∧ RW w' bk g rb fr dg P K N Q d gy gu gv ay au av ahd G nx f' s' ∧ Mod (RS bk g gy gu gv) w w'

set_option maxHeartbeats 2000000 in
theorem dStep (w : World) (bk g rb fr dg : Nat) (P : Nat → Prop) (K : Bool) (N Q : Int) (d : Dim) (hd : d.Ok) (gy gu gv ay au av : Nat) (ahd : Pix) (G nx : Int) (f : Pix) (s : St) (hi : Ids P K bk g rb fr dg gy gu gv ay au av) (h : RW w bk g rb fr dg P K N Q d gy gu gv ay au av ahd G nx f s)
    (kind : Int) (hK : K = true → kind = 2) (pl x y : Nat) (hpl : pl < 3) (hx : x + 8 ≤ d.wOf pl) (hy : y + 8 ≤ d.hOf pl) (vx vy : Int) (hvx : -128 ≤ vx ∧ vx ≤ 128) (hvy : -128 ≤ vy ∧ vy ≤ 128) :
    Calls Tryz.prog 107 #[.pointer (some ⟨rb, 0, none⟩), .int .i64 kind, .agg #[.int .i64 (pl : Int), .int .i64 (x : Int), .int .i64 (y : Int)], .agg #[.int .i64 vx, .int .i64 vy]] w (StepPost w bk g rb fr dg P K N Q d gy gu gv ay au av ahd G nx (stepB d ahd kind Q pl x y vx vy f s)) := by
  have nd := hi.nd
  simp only [List.nodup_cons, List.mem_cons, List.not_mem_nil, or_false, not_or, List.nodup_nil, and_true, not_false_eq_true] at nd
  obtain ⟨⟨n1, n2, n3, n4, n5, n6⟩, ⟨n7, n8, n9, n10, n11⟩, ⟨n12, n13, n14, n15⟩, ⟨n16, n17, n18⟩, ⟨n19, n20⟩, n21⟩ := nd
  have kf : kind ≠ 2 → K = false := fun hk => by
    cases K
    · rfl
    · exact absurd (hK rfl) hk
  have fa := h.fa
  have hnA : ∀ {aq : Nat} (_ : aq = ay ∨ aq = au ∨ aq = av), kind ≠ 2 → rb ≠ dg ∧ rb ≠ aq ∧ dg ≠ aq := fun ha hk => by
    have na := hi.na (kf hk)
    simp only [List.nodup_cons, List.mem_cons, List.not_mem_nil, or_false, not_or, List.nodup_nil, and_true, not_false_eq_true] at na
    obtain ⟨_, _, ⟨_, _, _, m1, m2, m3, m4⟩, _, _, _, ⟨m5, m6, m7⟩, _⟩ := na
    rcases ha with rfl | rfl | rfl
    · exact ⟨m1, m2, m5⟩
    · exact ⟨m1, m3, m6⟩
    · exact ⟨m1, m4, m7⟩
  have fin : ∀ {S : Nat → Prop} {w' : World}, (∀ j, S j → RS bk g gy gu gv j) → Mod S w w' → ∀ {f' : Pix} {s' : St}, SAt w' bk g P s' → FrameAt w' d gy gu gv f' → RW w' bk g rb fr dg P K N Q d gy gu gv ay au av ahd G nx f' s' := by
    intro S w' hS hm f' s' hs' hf'
    have hm' := hm.mono hS
    have o1 : ¬ RS bk g gy gu gv rb := by (intro h; unfold RS at h; rcases h with h | h | h | h | h <;> first | exact absurd h (by assumption) | exact absurd h.symm (by assumption))
    have o2 : ¬ RS bk g gy gu gv fr := by (intro h; unfold RS at h; rcases h with h | h | h | h | h <;> first | exact absurd h (by assumption) | exact absurd h.symm (by assumption))
    refine ⟨hs', fun j hj => Nat.lt_of_lt_of_le (h.pw j hj) hm.size, h.rd.keep hm' o1, h.frm.keep hm' o2, hf', fun hk => ?_, fun hk => ?_⟩
    all_goals
      have na := hi.na hk
      simp only [List.nodup_cons, List.mem_cons, List.not_mem_nil, or_false, not_or, List.nodup_nil, and_true, not_false_eq_true] at na
      obtain ⟨⟨_, _, _, _, _, _, _, _, _⟩, ⟨_, _, _, _, _, _, _, _⟩, ⟨_, _, _, _, _, _, _⟩, ⟨_, _, _, _, _, _⟩, ⟨_, _, _, _, _⟩, ⟨_, _, _, _⟩, ⟨_, _, _⟩, _⟩ := na
    · exact (h.dt hk).keep hm' (by (intro h; unfold RS at h; rcases h with h | h | h | h | h <;> first | exact absurd h (by assumption) | exact absurd h.symm (by assumption)))
    · exact (h.aa hk).mod hm' (by (intro h; unfold RS at h; rcases h with h | h | h | h | h <;> first | exact absurd h (by assumption) | exact absurd h.symm (by assumption))) (by (intro h; unfold RS at h; rcases h with h | h | h | h | h <;> first | exact absurd h (by assumption) | exact absurd h.symm (by assumption))) (by (intro h; unfold RS at h; rcases h with h | h | h | h | h <;> first | exact absurd h (by assumption) | exact absurd h.symm (by assumption)))
  have h3 : pl = 0 ∨ pl = 1 ∨ pl = 2 := by omega
  rcases h3 with rfl | rfl | rfl
  · refine (dBlockAt w bk g rb fr dg P hi.pg hi.pb h.pw n1 K N Q s h.st h.rd (Ne.symm n2) (Ne.symm n7) kind d.W d.H d.nY gy 0 0 f.Y hd.sides hd.ny _ h.frm rfl rfl rfl (by omega) rfl fa.by_ fa.ly hi.py (Ne.symm n3) (Ne.symm n8) (Ne.symm n4) (Ne.symm n9) n12 n13 n16 ahd.Y (decCells d.W d.H G nx (frameV d ay au av)) ay 4 rfl
      (fun hk => ⟨h.dt (kf hk), (h.aa (kf hk)).by_, rfl, rfl, rfl, (h.aa (kf hk)).ly, hnA (by simp) hk⟩) x y hx hy vx vy hvx hvy).mono ?_
    rintro e w' (⟨hr, er, her, rfl, hm⟩ | ⟨l, s', hr, rfl, hb, hs', hm⟩)
    · exact .inl ⟨by show Option.map _ (sblk (gof kind d.W d.H f.Y ahd.Y x y 0 vx vy s) kind 0 Q) = none; rw [hr]; rfl, er, her, rfl, hm.mono (by (intro _ h; unfold RS; rcases h with h | h | h <;> simp [h]))⟩
    · refine .inr ⟨⟨layTo d.W x y l f.Y 8, f.U, f.V⟩, s', by show Option.map _ (sblk (gof kind d.W d.H f.Y ahd.Y x y 0 vx vy s) kind 0 Q) = _; rw [hr]; rfl, rfl, fin (by (intro _ h; unfold RS; rcases h with h | h | h <;> simp [h])) hm hs' ?_, hm.mono (by (intro _ h; unfold RS; rcases h with h | h | h <;> simp [h]))⟩
      have hl : l.length = 64 := sblk_length (fun b hb => gof_length hb) hr
      have hln := (layTo_length hx hy (fa.ly.trans hd.ny) hl 8 (Nat.le_refl _)).trans hd.ny.symm
      exact ⟨hb, fa.bu.keep hm (by (intro h; rcases h with h | h | h <;> first | exact absurd h (by assumption) | exact absurd h.symm (by assumption))), fa.bv.keep hm (by (intro h; rcases h with h | h | h <;> first | exact absurd h (by assumption) | exact absurd h.symm (by assumption))), hln, fa.lu, fa.lv, fa.yu, fa.yv, fa.uv⟩
  · refine (dBlockAt w bk g rb fr dg P hi.pg hi.pb h.pw n1 K N Q s h.st h.rd (Ne.symm n2) (Ne.symm n7) kind d.W2 d.H2 d.nC gu 3 1 f.U hd.half hd.nc _ h.frm rfl rfl rfl (by omega) rfl fa.bu fa.lu hi.pu (Ne.symm n3) (Ne.symm n8) (Ne.symm n5) (Ne.symm n10) n12 n14 n17 ahd.U (decCells d.W d.H G nx (frameV d ay au av)) au 7 rfl
      (fun hk => ⟨h.dt (kf hk), (h.aa (kf hk)).bu, rfl, rfl, rfl, (h.aa (kf hk)).lu, hnA (by simp) hk⟩) x y hx hy vx vy hvx hvy).mono ?_
    rintro e w' (⟨hr, er, her, rfl, hm⟩ | ⟨l, s', hr, rfl, hb, hs', hm⟩)
    · exact .inl ⟨by show Option.map _ (sblk (gof kind d.W2 d.H2 f.U ahd.U x y 1 vx vy s) kind 1 Q) = none; rw [hr]; rfl, er, her, rfl, hm.mono (by (intro _ h; unfold RS; rcases h with h | h | h <;> simp [h]))⟩
    · refine .inr ⟨⟨f.Y, layTo d.W2 x y l f.U 8, f.V⟩, s', by show Option.map _ (sblk (gof kind d.W2 d.H2 f.U ahd.U x y 1 vx vy s) kind 1 Q) = _; rw [hr]; rfl, rfl, fin (by (intro _ h; unfold RS; rcases h with h | h | h <;> simp [h])) hm hs' ?_, hm.mono (by (intro _ h; unfold RS; rcases h with h | h | h <;> simp [h]))⟩
      have hl : l.length = 64 := sblk_length (fun b hb => gof_length hb) hr
      have hln := (layTo_length hx hy (fa.lu.trans hd.nc) hl 8 (Nat.le_refl _)).trans hd.nc.symm
      exact ⟨fa.by_.keep hm (by (intro h; rcases h with h | h | h <;> first | exact absurd h (by assumption) | exact absurd h.symm (by assumption))), hb, fa.bv.keep hm (by (intro h; rcases h with h | h | h <;> first | exact absurd h (by assumption) | exact absurd h.symm (by assumption))), fa.ly, hln, fa.lv, fa.yu, fa.yv, fa.uv⟩
  · refine (dBlockAt w bk g rb fr dg P hi.pg hi.pb h.pw n1 K N Q s h.st h.rd (Ne.symm n2) (Ne.symm n7) kind d.W2 d.H2 d.nC gv 6 2 f.V hd.half hd.nc _ h.frm rfl rfl rfl (by omega) rfl fa.bv fa.lv hi.pv (Ne.symm n3) (Ne.symm n8) (Ne.symm n6) (Ne.symm n11) n12 n15 n18 ahd.V (decCells d.W d.H G nx (frameV d ay au av)) av 10 rfl
      (fun hk => ⟨h.dt (kf hk), (h.aa (kf hk)).bv, rfl, rfl, rfl, (h.aa (kf hk)).lv, hnA (by simp) hk⟩) x y hx hy vx vy hvx hvy).mono ?_
    rintro e w' (⟨hr, er, her, rfl, hm⟩ | ⟨l, s', hr, rfl, hb, hs', hm⟩)
    · exact .inl ⟨by show Option.map _ (sblk (gof kind d.W2 d.H2 f.V ahd.V x y 2 vx vy s) kind 2 Q) = none; rw [hr]; rfl, er, her, rfl, hm.mono (by (intro _ h; unfold RS; rcases h with h | h | h <;> simp [h]))⟩
    · refine .inr ⟨⟨f.Y, f.U, layTo d.W2 x y l f.V 8⟩, s', by show Option.map _ (sblk (gof kind d.W2 d.H2 f.V ahd.V x y 2 vx vy s) kind 2 Q) = _; rw [hr]; rfl, rfl, fin (by (intro _ h; unfold RS; rcases h with h | h | h <;> simp [h])) hm hs' ?_, hm.mono (by (intro _ h; unfold RS; rcases h with h | h | h <;> simp [h]))⟩
      have hl : l.length = 64 := sblk_length (fun b hb => gof_length hb) hr
      have hln := (layTo_length hx hy (fa.lv.trans hd.nc) hl 8 (Nat.le_refl _)).trans hd.nc.symm
      exact ⟨fa.by_.keep hm (by (intro h; rcases h with h | h | h <;> first | exact absurd h (by assumption) | exact absurd h.symm (by assumption))), fa.bu.keep hm (by (intro h; rcases h with h | h | h <;> first | exact absurd h (by assumption) | exact absurd h.symm (by assumption))), hb, fa.ly, fa.lu, hln, fa.yu, fa.yv, fa.uv⟩
end Go.Proofs.YteppnjgfebcmjaaGreat

/-
  decoder: a square of a reading.
-/
namespace Go.Proofs.YteppnjgfebcmjaaGreat
open Go.RowKit

def pcP (i : Nat) : Nat := if i < 4 then 0 else i - 3
def pcX (x i : Nat) : Nat := if 4 ≤ i then x / 2 else if i % 2 = 1 then x + 8 else x
def pcY (y i : Nat) : Nat := if 4 ≤ i then y / 2 else if 2 ≤ i then y + 8 else y
/-- The last n of a square's six blocks. -/
def blkFrom (d : Dim) (ahd : Pix) (kind : Int) (Q : Int) (x y : Nat) (vx vy : Int) : Nat → Pix → St → Option (Pix × St)
  | 0, f, s => some (f, s)
  | n + 1, f, s => (stepB d ahd kind Q (pcP (5 - n)) (pcX x (5 - n)) (pcY y (5 - n)) vx vy f s).bind fun a => blkFrom d ahd kind Q x y vx vy n a.1 a.2
/-- A square's kind, and its vector. -/
def skind (K : Bool) (s : St) : Option (Nat × St) := if K = true then some (2, s) else sone 1 3 s
def skvec (k : Nat) (s : St) : Option ((Int × Int) × St) := if k = 1 then svec s else some ((0, 0), s)
def squareS (d : Dim) (ahd : Pix) (K : Bool) (Q : Int) (x y : Nat) (f : Pix) (s : St) : Option (Pix × St) :=
  (skind K s).bind fun k => (skvec k.1 k.2).bind fun v => blkFrom d ahd (k.1 : Int) Q x y v.1.1 v.1.2 6 f v.2
theorem vec_bounds {s s' : St} {a b : Int} (h : svec s = some ((a, b), s')) : (-128 ≤ a ∧ a ≤ 128) ∧ (-128 ≤ b ∧ b ≤ 128) := by
  unfold svec at h
  rw [vecTo_2] at h
  simp only [Option.bind_eq_some_iff] at h
  obtain ⟨p, _, h⟩ := h
  split at h
  · cases h
  · rw [vecTo_1] at h
    simp only [Option.bind_eq_some_iff] at h
    obtain ⟨q, _, h⟩ := h
    split at h
    · cases h
    · simp only [vecTo, Option.some.injEq, Prod.mk.injEq] at h
      omega
theorem skvec_bounds {k : Nat} {s s' : St} {a b : Int} (h : skvec k s = some ((a, b), s')) : (-128 ≤ a ∧ a ≤ 128) ∧ (-128 ≤ b ∧ b ≤ 128) := by
  unfold skvec at h
  split at h
  · exact vec_bounds h
  · injection h with h
    injection h with h1 h2
    injection h1 with h3 h4
    omega
theorem skind_lt {K : Bool} {s s' : St} {k : Nat} (h : skind K s = some (k, s')) : k < 3 ∧ (K = true → k = 2) := by
  unfold skind at h
  split at h
  · injection h with h
    injection h with h1 h2
    omega
  · rename_i hk
    exact ⟨sone_lt h, fun e => absurd e hk⟩
theorem pc_in {d : Dim} (hd : d.Ok) {x y i : Nat} (hi : i < 6) (hx : x + 16 ≤ d.W) (hy : y + 16 ≤ d.H) : pcP i < 3 ∧ pcX x i + 8 ≤ d.wOf (pcP i) ∧ pcY y i + 8 ≤ d.hOf (pcP i) := by
  have := hd.w2
  have := hd.h2
  have h6 : i = 0 ∨ i = 1 ∨ i = 2 ∨ i = 3 ∨ i = 4 ∨ i = 5 := by omega
  rcases h6 with rfl | rfl | rfl | rfl | rfl | rfl <;> simp [pcP, pcX, pcY, Dim.wOf, Dim.hOf] <;> omega
theorem plL_at (x y : Nat) {i : Nat} (hi : i < 6) : ∀ w, (Instr.index 175 (.agg (plL x y).toArray) (.int .i64 (i : Int))).run Tryz.prog w = .ok (.agg #[.int .i64 (pcP i : Int), .int .i64 (pcX x i : Int), .int .i64 (pcY y i : Int)]) w := by
  have h6 : i = 0 ∨ i = 1 ∨ i = 2 ∨ i = 3 ∨ i = 4 ∨ i = 5 := by omega
  rcases h6 with rfl | rfl | rfl | rfl | rfl | rfl <;> intro w <;> kernel_rfl
end Go.Proofs.YteppnjgfebcmjaaGreat

/-
  decoder: a square of a reading, walked.
-/
namespace Go.Proofs.YteppnjgfebcmjaaGreat
open Go.RowKit

theorem Ids.gb {P : Nat → Prop} {K : Bool} {bk g rb fr dg gy gu gv ay au av : Nat} (h : Ids P K bk g rb fr dg gy gu gv ay au av) : g ≠ bk ∧ rb ≠ g ∧ rb ≠ bk := by
  have nd := h.nd
  simp only [List.nodup_cons, List.mem_cons, List.not_mem_nil, or_false, not_or, List.nodup_nil, and_true, not_false_eq_true] at nd
  obtain ⟨⟨n1, n2, _⟩, ⟨n7, _⟩, _⟩ := nd
  exact ⟨n1, Ne.symm n2, Ne.symm n7⟩
set_option maxHeartbeats 2000000 in
/-- What the book and the code alone change. -/
theorem RW.book {w w' : World} {bk g rb fr dg : Nat} {P : Nat → Prop} {K : Bool} {N Q : Int} {d : Dim} {gy gu gv ay au av : Nat} {ahd : Pix} {G nx : Int} {f : Pix} {s s' : St} (hi : Ids P K bk g rb fr dg gy gu gv ay au av) (h : RW w bk g rb fr dg P K N Q d gy gu gv ay au av ahd G nx f s)
    (hm : Mod (fun j => j = g ∨ j = bk) w w') (hs : SAt w' bk g P s') : RW w' bk g rb fr dg P K N Q d gy gu gv ay au av ahd G nx f s' := by
  have nd := hi.nd
  simp only [List.nodup_cons, List.mem_cons, List.not_mem_nil, or_false, not_or, List.nodup_nil, and_true, not_false_eq_true] at nd
  obtain ⟨⟨n1, n2, n3, n4, n5, n6⟩, ⟨n7, n8, n9, n10, n11⟩, _⟩ := nd
  refine ⟨hs, fun j hj => Nat.lt_of_lt_of_le (h.pw j hj) hm.size, h.rd.keep hm (by (intro h; rcases h with h | h <;> first | exact absurd h (by assumption) | exact absurd h.symm (by assumption))), h.frm.keep hm (by (intro h; rcases h with h | h <;> first | exact absurd h (by assumption) | exact absurd h.symm (by assumption))), h.fa.mod hm (by (intro h; rcases h with h | h <;> first | exact absurd h (by assumption) | exact absurd h.symm (by assumption))) (by (intro h; rcases h with h | h <;> first | exact absurd h (by assumption) | exact absurd h.symm (by assumption))) (by (intro h; rcases h with h | h <;> first | exact absurd h (by assumption) | exact absurd h.symm (by assumption))), fun hk => ?_, fun hk => ?_⟩
  all_goals
    have na := hi.na hk
    simp only [List.nodup_cons, List.mem_cons, List.not_mem_nil, or_false, not_or, List.nodup_nil, and_true, not_false_eq_true] at na
    obtain ⟨⟨_, _, _, _, _, _, _, _, _⟩, ⟨_, _, _, _, _, _, _, _⟩, _⟩ := na
  · exact (h.dt hk).keep hm (by (intro h; rcases h with h | h <;> first | exact absurd h (by assumption) | exact absurd h.symm (by assumption)))
  · exact (h.aa hk).mod hm (by (intro h; rcases h with h | h <;> first | exact absurd h (by assumption) | exact absurd h.symm (by assumption))) (by (intro h; rcases h with h | h <;> first | exact absurd h (by assumption) | exact absurd h.symm (by assumption))) (by (intro h; rcases h with h | h <;> first | exact absurd h (by assumption) | exact absurd h.symm (by assumption)))
theorem rs2 {bk g gy gu gv : Nat} {w w' : World} (hm : Mod (fun j => j = g ∨ j = bk) w w') : Mod (RS bk g gy gu gv) w w' := hm.mono fun _ h => by unfold RS; rcases h with h | h <;> simp [h]
def SqCut1 (w : World) (bk g rb fr dg : Nat) (P : Nat → Prop) (K : Bool) (N Q : Int) (d : Dim) (gy gu gv ay au av : Nat) (ahd : Pix) (G nx : Int) (f : Pix) (s : St) (v7 : Value) (wx : World) : Prop :=
  ∃ (kd : Nat) (s1 : St), v7 = .int .i64 (kd : Int) ∧ skind K s = some (kd, s1) ∧ RW wx bk g rb fr dg P K N Q d gy gu gv ay au av ahd G nx f s1 ∧ Mod (RS bk g gy gu gv) w wx
def SqCut2 (w : World) (vb : Nat) (bk g rb fr dg : Nat) (P : Nat → Prop) (K : Bool) (N Q : Int) (d : Dim) (gy gu gv ay au av : Nat) (ahd : Pix) (G nx : Int) (f : Pix) (kd : Nat) (s1 : St) (wx : World) : Prop :=
  ∃ (a b : Int) (s2 : St), skvec kd s1 = some ((a, b), s2) ∧ Blk wx vb 125 #[.int .i64 a, .int .i64 b] ∧ RW wx bk g rb fr dg P K N Q d gy gu gv ay au av ahd G nx f s2 ∧ Mod (RS bk g gy gu gv) w wx
def SqRel (w : World) (vb : Nat) (bk g rb fr dg : Nat) (P : Nat → Prop) (K : Bool) (N Q : Int) (d : Dim) (gy gu gv ay au av : Nat) (ahd : Pix) (G nx : Int) (kind : Int) (x y : Nat) (a b : Int) (r : Option (Pix × St)) (v47 : Value) (wr : World) : Prop :=
  ∃ (i : Nat) (f : Pix) (s : St), i ≤ 6 ∧ v47 = .int .i64 (i : Int) ∧ blkFrom d ahd kind Q x y a b (6 - i) f s = r ∧ Blk wr vb 125 #[.int .i64 a, .int .i64 b] ∧ RW wr bk g rb fr dg P K N Q d gy gu gv ay au av ahd G nx f s ∧ Mod (RS bk g gy gu gv) w wr

set_option maxRecDepth 100000 in
set_option maxHeartbeats 4000000 in
theorem dSquare (w : World) (bk g rb fr dg : Nat) (P : Nat → Prop) (K : Bool) (N Q : Int) (d : Dim) (hd : d.Ok) (gy gu gv ay au av : Nat) (ahd : Pix) (G nx : Int) (f : Pix) (s : St) (hi : Ids P K bk g rb fr dg gy gu gv ay au av) (h : RW w bk g rb fr dg P K N Q d gy gu gv ay au av ahd G nx f s)
    (x y : Nat) (hx : x + 16 ≤ d.W) (hy : y + 16 ≤ d.H) :
    Calls Tryz.prog 63 #[.pointer (some ⟨rb, 0, none⟩), .int .i64 (x : Int), .int .i64 (y : Int)] w (StepPost w bk g rb fr dg P K N Q d gy gu gv ay au av ahd G nx (squareS d ahd K Q x y f s)) := by
  have r0 : w.cell? ⟨rb, 0, none⟩ = some (.bool K) := h.rd.cell 0
  have r3 : w.cell? ⟨rb, 3, none⟩ = some (.pointer (some ⟨bk, 0, none⟩)) := h.rd.cell 3
  have r4 : w.cell? ⟨rb, 4, none⟩ = some (.pointer (some ⟨g, 0, none⟩)) := h.rd.cell 4
  have H0 := Lib.hid (And.intro h (And.intro hi hd))
  clear h hi hd
  go_enter Tryz.func63, Tryz.ntmps63
  go_upto_if 18 with (fail)
  go_cut [7] (fun v7 wx => SqCut1 w bk g rb fr dg P K N Q d gy gu gv ay au av ahd G nx f s v7 wx)
  case first =>
    cases K
    · go_wp2_with fail
      refine wp_region_plan [8] [] [0, 1, 2, 3, 4, 5, 6, 7, 8, 9, 10, 11, 12, 13] (by kernel_rfl) (by kernel_rfl) (fun _ _ _ d _ h => by cases d <;> exact h) ?_
      iterate 8 (refine plan_still rfl rfl (fun K hK => ?_); go_simp; refine hK _ ?_; clear hK K)
      refine plan_loud rfl rfl (fun K hK => ?_)
      go_simp
      refine (bookOne3 w.drew bk g P H0.out.2.1.pg H0.out.2.1.pb (fun j hj => H0.out.1.pw j hj) H0.out.2.1.gb.1 s 1 (by omega) (H0.out.1.st.mod ((Mod.refl (fun _ => False) w).drew) (fun h => h) (fun h => h) (fun _ _ h => h))).mono ?_
      rintro e w3 (⟨hr, er, her, rfl, hm⟩ | ⟨v, s3, hr, rfl, hs3, hm⟩)
      · have hM : Mod (fun j => j = g ∨ j = bk) w w3 := ((Mod.refl (fun j => j = g ∨ j = bk) w).drew).trans hm
        have hR : squareS d ahd false Q x y f s = none := by
          show (sone 1 3 s).bind _ = none
          rw [hr]
          rfl
        have H3 := Lib.hid (And.intro hM hR)
        have her' : (er != 0) = true := by rw [bne, her]; rfl
        clear hM hR hm hr her r0 r3 r4
        dsimp only []
        refine hK _ _ ?_
        clear hK K
        iterate 5 (refine plan_still rfl rfl (fun K hK => ?_); go_simp; refine hK _ ?_; clear hK K)
        refine plan_done ?_
        go_wp2_with fail
        go_ret
        exact .inl ⟨H3.out.2, er, by simpa using her', rfl, rs2 H3.out.1⟩
      · have hM : Mod (fun j => j = g ∨ j = bk) w w3 := ((Mod.refl (fun j => j = g ∨ j = bk) w).drew).trans hm
        have H3 := Lib.hid (And.intro hM (And.intro (H0.out.1.book H0.out.2.1 hM hs3) hr))
        clear hM hm hr hs3 r0 r3 r4
        dsimp only []
        refine hK _ _ ?_
        clear hK K
        iterate 5 (refine plan_still rfl rfl (fun K hK => ?_); go_simp; refine hK _ ?_; clear hK K)
        refine plan_done ?_
        go_wp2_with fail
        go_meet
        exact ⟨v, s3, rfl, H3.out.2.2, H3.out.2.1, rs2 H3.out.1⟩
    · go_wp2_with fail
      go_meet
      exact ⟨2, s, rfl, rfl, H0.out.1, Mod.refl _ _⟩
  case rest =>
    clear r0 r3 r4
    obtain ⟨kd, s1, rfl, hR, hw, hm⟩ := hcut
    rename World => wx
    have hkd := skind_lt hR
    have hws := hw.quiet ((Mod.refl (fun _ => False) wx).alloc (.cells #[.int .i64 0, .int .i64 0] 125))
    have H1 := Lib.hid (And.intro hR (And.intro hw (And.intro hws (And.intro hm hkd))))
    clear hR hw hws hm hkd
    go_upto_if 35 with (fail)
    go_cut [] (fun wy => SqCut2 w wx.heap.size bk g rb fr dg P K N Q d gy gu gv ay au av ahd G nx f kd s1 wy)
    case first =>
      by_cases hk1 : kd = 1
      · have d1 : ((kd : Int) == 1) = true := by simp; omega
        have HK1 := Lib.hid hk1
        clear hk1
        go_wp2_with fail
        refine (dVector (wx.alloc (.cells #[.int .i64 0, .int .i64 0] 125)) bk g rb fr dg P H0.out.2.1.pg H0.out.2.1.pb (fun j hj => H1.out.2.2.1.pw j hj) H0.out.2.1.gb.1 K N Q s1 H1.out.2.2.1.st H1.out.2.2.1.rd H0.out.2.1.gb.2.1 H0.out.2.1.gb.2.2).mono ?_
        have hgl : g < wx.heap.size := by obtain ⟨_, _, _, hb, _⟩ := H1.out.2.1.st.2.2; exact hb.lt
        have hbl : bk < wx.heap.size := H1.out.2.1.st.1.lt
        rintro e w3 (⟨hr, er, her, rfl, hm⟩ | ⟨a, b, s3, hr, rfl, hs3, hm⟩)
        · have vb := (Blk.new wx 125 #[.int .i64 0, .int .i64 0]).keep hm (by omega)
          obtain ⟨vc, vf⟩ := vb.both
          have vl := vb.lt
          have hR : squareS d ahd K Q x y f s = none := by
            unfold squareS skvec
            rw [H1.out.1]
            show (if kd = 1 then svec s1 else _).bind _ = none
            rw [if_pos HK1.out, hr]
            rfl
          have H3 := Lib.hid (And.intro hm hR)
          have her' : (er != 0) = true := by rw [bne, her]; rfl
          clear hm hR hr her vb
          go_wp2_with fail
          go_ret
          refine .inl ⟨H3.out.2, er, by simpa using her', rfl, ?_⟩
          refine H1.out.2.2.2.1.then_ ?_ (S' := RS bk g gy gu gv) (fun _ _ h => h)
          exact (rs2 (((Mod.refl (fun j => j = g ∨ j = bk) wx).alloc _).trans H3.out.1)).then_ (((Mod.refl (· = wx.heap.size) w3).setCell (.inl rfl) _).setCell (.inl rfl) _) (fun j h e => by omega)
        · have vb := (Blk.new wx 125 #[.int .i64 0, .int .i64 0]).keep hm (by omega)
          obtain ⟨vc, vf⟩ := vb.both
          have vl := vb.lt
          have H3 := Lib.hid (And.intro hm (And.intro hs3 (And.intro hr vb)))
          clear hm hr hs3 vb
          go_wp2_with fail
          go_meet
          have hmS : Mod (· = wx.heap.size) w3 ((w3.setCell ⟨wx.heap.size, 0, none⟩ (.int .i64 a)).setCell ⟨wx.heap.size, 1, none⟩ (.int .i64 b)) := ((Mod.refl (· = wx.heap.size) w3).setCell (.inl rfl) _).setCell (.inl rfl) _
          have hmA := (((Mod.refl (fun j => j = g ∨ j = bk) wx).alloc _).trans H3.out.1).then_ hmS (fun j h e => by omega)
          have hs4 := H3.out.2.1.mod hmS (by omega) (by omega) (fun j hj e => by have := H1.out.2.1.pw j hj; omega)
          exact ⟨a, b, s3, by unfold skvec; rw [if_pos HK1.out]; exact H3.out.2.2.1, (((Sat.own1 H3.out.2.2.2).put (.here rfl)).put (.here rfl)).own_ 0 rfl, H1.out.2.1.book H0.out.2.1 hmA hs4, H1.out.2.2.2.1.then_ (rs2 hmA) (fun _ _ h => h)⟩
      · have d1 : ((kd : Int) == 1) = false := by simp; omega
        go_wp2_with fail
        go_meet
        exact ⟨0, 0, s1, by unfold skvec; rw [if_neg hk1], Blk.new _ _ _, H1.out.2.2.1, H1.out.2.2.2.1.then_ ((Mod.refl (fun _ => False) wx).alloc _) (fun _ _ h => h.elim)⟩
    case rest =>
      obtain ⟨a, b, s2, hV, hb, hw, hm⟩ := hcut
      rename World => wy
      have hbd := skvec_bounds hV
      have hR2 : squareS d ahd K Q x y f s = blkFrom d ahd (kd : Int) Q x y a b 6 f s2 := by
        unfold squareS
        rw [H1.out.1]
        show (skvec kd s1).bind _ = _
        rw [hV]
        rfl
      have hdl := area_le H0.out.2.2.sides
      have hx4 : x ≤ 4096 := by omega
      have hy4 : y ≤ 4096 := by omega
      have H2 := Lib.hid (And.intro hR2 (And.intro hb (And.intro hw (And.intro hm hbd))))
      clear hR2 hb hw hm hbd hV hdl
      go_wp2_with fail
      refine (dPlaces _ x y hx4 hy4).mono ?_
      rintro e w5 ⟨rfl, hm5⟩
      have H5 := Lib.hid (And.intro (H2.out.2.1.keep hm5 (fun h => h)) (And.intro (H2.out.2.2.1.quiet hm5) (H2.out.2.2.2.1.then_ hm5 (fun _ _ h => h.elim))))
      clear hm5
      go_wp2_with fail
      go_loopw [47] (SqRel w wx.heap.size bk g rb fr dg P K N Q d gy gu gv ay au av ahd G nx (kd : Int) x y a b (squareS d ahd K Q x y f s)) (fun s _ => 6 - (intOf s).toNat)
      case atStart => exact ⟨0, f, s2, by omega, rfl, H2.out.1.symm, H5.out.1, H5.out.2.1, H5.out.2.2⟩
      case round =>
        obtain ⟨i, f1, s3, hi6, rfl, hRr, hb1, hw1, hm1⟩ := hrel
        rename World => wr
        obtain ⟨vc, vf⟩ := hb1.both
        have vl := hb1.lt
        have HK := Lib.hid (And.intro hRr (And.intro hb1 (And.intro hw1 hm1)))
        clear hRr hb1 hw1 hm1
        by_cases hlt : i < 6
        · have d1 : decide ((i : Int) < 6) = true := decide_eq_true (by omega)
          have ix := plL_at x y hlt
          go_wp2_with fail
          obtain ⟨p1, p2, p3⟩ := pc_in H0.out.2.2 hlt hx hy
          have hn : 6 - i = (5 - i) + 1 := by omega
          have hRr := HK.out.1
          rw [hn] at hRr
          unfold blkFrom at hRr
          rw [show 5 - (5 - i) = i by omega] at hRr
          have hMa : Mod (fun _ => False) wr (wr.alloc (.cells #[.int .i64 (pcP i : Int), .int .i64 (pcX x i : Int), .int .i64 (pcY y i : Int)] 174)) := (Mod.refl (fun _ => False) wr).alloc _
          refine (dStep _ bk g rb fr dg P K N Q d H0.out.2.2 gy gu gv ay au av ahd G nx f1 s3 H0.out.2.1 (HK.out.2.2.1.quiet hMa) (kd : Int) (fun e => by have := H1.out.2.2.2.2.2 e; omega) (pcP i) (pcX x i) (pcY y i) p1 p2 p3 a b H2.out.2.2.2.2.1 H2.out.2.2.2.2.2).mono ?_
          rintro e w6 (⟨hr, er, her, rfl, hm⟩ | ⟨f2, s4, hr, rfl, hw6, hm⟩)
          · rw [hr] at hRr
            have H6 := Lib.hid (And.intro hRr (HK.out.2.2.2.then_ ((hMa.mono (fun _ h => h.elim)).trans hm) (fun _ _ h => h)))
            have her' : (er != 0) = true := by rw [bne, her]; rfl
            clear hRr hm hr her ix hn hMa
            go_wp2_with fail
            go_ret
            exact .inl ⟨H6.out.1.symm, er, by simpa using her', rfl, H6.out.2⟩
          · rw [hr] at hRr
            have hx1 := H1.out.2.1
            have hmS := (hMa.mono (S' := RS bk g gy gu gv) (fun _ h => h.elim)).trans hm
            have hnv : ¬ RS bk g gy gu gv wx.heap.size := by
              have q1 := hx1.st.1.lt
              have q2 : g < wx.heap.size := by obtain ⟨_, _, _, hb, _⟩ := hx1.st.2.2; exact hb.lt
              have q3 := hx1.fa.by_.lt
              have q4 := hx1.fa.bu.lt
              have q5 := hx1.fa.bv.lt
              unfold RS
              omega
            have H6 := Lib.hid (And.intro hRr (And.intro hw6 (And.intro (HK.out.2.1.keep hmS hnv) (HK.out.2.2.2.then_ hmS (fun _ _ h => h)))))
            clear hRr hm hr ix hn hMa hw6 hmS hnv hx1
            go_wp2_with fail
            go_roundw
            case rel => exact ⟨i + 1, f2, s4, by omega, by go_num, by rw [show 6 - (i + 1) = 5 - i by omega]; exact H6.out.1, H6.out.2.2.1, H6.out.2.1, H6.out.2.2.2⟩
            case measure => simp [intOf]; omega
        · obtain rfl : i = 6 := by omega
          go_wp2_with fail
          go_ret
          exact .inr ⟨f1, s3, HK.out.1.symm, rfl, HK.out.2.2.1, HK.out.2.2.2⟩
end Go.Proofs.YteppnjgfebcmjaaGreat

/-
  decoder: a frame's squares, plain.
-/
namespace Go.Proofs.YteppnjgfebcmjaaGreat
open Go.RowKit

/-- The last n squares of the row at y. -/
def rowS (d : Dim) (ahd : Pix) (K : Bool) (Q : Int) (y : Nat) : Nat → Pix → St → Option (Pix × St)
  | 0, f, s => some (f, s)
  | n + 1, f, s => (squareS d ahd K Q (d.W - 16 * (n + 1)) y f s).bind fun a => rowS d ahd K Q y n a.1 a.2
/-- The last n rows of squares. -/
def rowsS (d : Dim) (ahd : Pix) (K : Bool) (Q : Int) : Nat → Pix → St → Option (Pix × St)
  | 0, f, s => some (f, s)
  | n + 1, f, s => (rowS d ahd K Q (d.H - 16 * (n + 1)) (d.W / 16) f s).bind fun a => rowsS d ahd K Q n a.1 a.2
/-- What a code stands for: a frame, not smooth yet. -/
def builtS (d : Dim) (ahd : Pix) (K : Bool) (Q : Int) (code : List UInt8) : Option Pix :=
  if code.length < 4 then none else
    (rowsS d ahd K Q (d.H / 16) (blankPix d 0) ⟨fillB 16, code.drop 4, be (code.take 4), 4294967295⟩).bind fun a => if a.2.code = [] ∧ a.2.rest = 0 then some a.1 else none
end Go.Proofs.YteppnjgfebcmjaaGreat
