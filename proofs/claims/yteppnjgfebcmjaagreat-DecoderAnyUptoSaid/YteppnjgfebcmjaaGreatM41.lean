/-
  decoder: a block of any plane, its guess by its square's kind.
-/
import Derived.Test.YteppnjgfebcmjaaGreatM40
import Derived.Test.YteppnjgfebcmjaaGreatM15
namespace Go.Proofs.YteppnjgfebcmjaaGreat
open Go.RowKit

/-- What a block's guess is. -/
def gof (kind : Int) (W H : Nat) (pix apix : List UInt8) (x y pl : Nat) (vx vy : Int) (s : St) : Option (List UInt8 × St) :=
  if kind = 2 then sguess W pix x y s else some (smoved W H apix x y pl vx vy, s)
theorem dBlockAt (w : World) (bk g rb fr dg : Nat) (P : Nat → Prop) (hPg : ¬ P g) (hPb : ¬ P bk) (hPw : ∀ j, P j → j < w.heap.size) (hgb : g ≠ bk) (K : Bool) (N Q : Int) (s : St) (h : SAt w bk g P s)
    (hr : Blk w rb 110 (rdV K N Q bk g fr dg)) (hrg : rb ≠ g) (hrb : rb ≠ bk) (kind : Int)
    (W H n gq fo pl : Nat) (pix : List UInt8) (hsd : sidesB W H = true) (hn : n = W * H) (fc : Array Value) (hf : Blk w fr 37 fc) (hf0 : fc[fo]? = some (.int .i64 (W : Int))) (hf1 : fc[fo + 1]? = some (.int .i64 (H : Int))) (hf2 : fc[fo + 2]? = some (.slice (some ⟨gq, 0, none⟩) n n))
    (hpl : pl < 3) (hro : (rdV K N Q bk g fr dg)[5 + pl]? = some (.pointer (some ⟨fr, fo, none⟩)))
    (hq : Blk w gq 5 (u8s pix).toArray) (hql : pix.length = n) (hPq : ¬ P gq) (a1 : fr ≠ g) (a2 : fr ≠ bk) (a3 : gq ≠ g) (a4 : gq ≠ bk) (a5 : rb ≠ fr) (a6 : rb ≠ gq) (a7 : fr ≠ gq)
    (apix : List UInt8) (dc : Array Value) (aq ao : Nat) (hro2 : (rdV K N Q bk g fr dg)[8 + pl]? = some (.pointer (some ⟨dg, ao, none⟩)))
    (hA : kind ≠ 2 → Blk w dg 60 dc ∧ Blk w aq 5 (u8s apix).toArray ∧ dc[ao]? = some (.int .i64 (W : Int)) ∧ dc[ao + 1]? = some (.int .i64 (H : Int)) ∧ dc[ao + 2]? = some (.slice (some ⟨aq, 0, none⟩) n n) ∧ apix.length = n ∧ rb ≠ dg ∧ rb ≠ aq ∧ dg ≠ aq)
    (x y : Nat) (hx : x + 8 ≤ W) (hy : y + 8 ≤ H) (vx vy : Int) (hvx : -128 ≤ vx ∧ vx ≤ 128) (hvy : -128 ≤ vy ∧ vy ≤ 128) :
    Calls Tryz.prog 107 #[.pointer (some ⟨rb, 0, none⟩), .int .i64 kind, .agg #[.int .i64 (pl : Int), .int .i64 (x : Int), .int .i64 (y : Int)], .agg #[.int .i64 vx, .int .i64 vy]] w (BKPost w bk g gq P W x y pix (sblk (gof kind W H pix apix x y pl vx vy s) kind pl Q)) := by
  refine dBlock w bk g rb fr dg P hPg hPb hPw hgb K N Q s h hr hrg hrb kind W H n gq fo pl pix hsd hn fc hf hf0 hf2 hpl hro hq hql hPq a1 a2 a3 a4 a5 a6 a7 x y hx hy vx vy _ fun w1 hm => ?_
  have h1 := h.mod hm (fun h => h) (fun h => h) (fun _ _ h => h)
  have hr1 := hr.keep hm (fun h => h)
  have hP1 : ∀ j, P j → j < w1.heap.size := fun j hj => Nat.lt_of_lt_of_le (hPw j hj) hm.size
  unfold gof
  by_cases hk : kind = 2
  · rw [if_pos hk, hk]
    exact gOwn w1 bk g rb fr dg P hPg hPb hP1 hgb K N Q s h1 hr1 hrg hrb W H n gq fo pl pix hsd hn fc (hf.keep hm (fun h => h)) hf0 hf1 hf2 hpl hro (hq.keep hm (fun h => h)) hql a1 a2 a3 a4 a5 a6 a7 x y hx hy vx vy
  · obtain ⟨b1, b2, b3, b4, b5, b6, b7, b8, b9⟩ := hA hk
    rw [if_neg hk]
    exact gMoved w1 bk g rb fr dg P K N Q s h1 hP1 hr1 kind (by simpa using hk) W H n aq ao pl apix hsd hn dc (b1.keep hm (fun h => h)) b3 b4 b5 hpl hro2 (b2.keep hm (fun h => h)) b6 b7 b8 b9 x y hx hy vx vy hvx hvy
end Go.Proofs.YteppnjgfebcmjaaGreat

/-
  decoder: a reading in memory; a block of it.
-/
namespace Go.Proofs.YteppnjgfebcmjaaGreat
open Go.RowKit

def Pix.get (f : Pix) (pl : Nat) : List UInt8 := if pl = 0 then f.Y else if pl = 1 then f.U else f.V
def Pix.set (f : Pix) (pl : Nat) (l : List UInt8) : Pix := if pl = 0 then ⟨l, f.U, f.V⟩ else if pl = 1 then ⟨f.Y, l, f.V⟩ else ⟨f.Y, f.U, l⟩
def Dim.wOf (d : Dim) (pl : Nat) : Nat := if pl = 0 then d.W else d.W2
def Dim.hOf (d : Dim) (pl : Nat) : Nat := if pl = 0 then d.H else d.H2
/-- A block of a reading. -/
def stepB (d : Dim) (ahd : Pix) (kind : Int) (Q : Int) (pl x y : Nat) (vx vy : Int) (f : Pix) (s : St) : Option (Pix × St) :=
  (sblk (gof kind (d.wOf pl) (d.hOf pl) (f.get pl) (ahd.get pl) x y pl vx vy s) kind pl Q).map fun a => (f.set pl (layTo (d.wOf pl) x y a.1 (f.get pl) 8), a.2)
theorem gof_length {kind : Int} {W H : Nat} {pix apix : List UInt8} {x y pl : Nat} {vx vy : Int} {s : St} {a : List UInt8 × St} (h : gof kind W H pix apix x y pl vx vy s = some a) : a.1.length = 64 := by
  unfold gof at h
  split at h
  · unfold sguess at h
    simp only [Option.map_eq_some_iff] at h
    obtain ⟨m, _, rfl⟩ := h
    exact guessL_length _ _ _ _ _
  · injection h with h
    subst h
    exact smoved_length _ _ _ _ _ _ _ _
theorem sblk_length {gr : Option (List UInt8 × St)} {kind : Int} {pl : Nat} {Q : Int} {a : List UInt8 × St} (hg : ∀ b, gr = some b → b.1.length = 64) (h : sblk gr kind pl Q = some a) : a.1.length = 64 := by
  unfold sblk at h
  simp only [Option.bind_eq_some_iff] at h
  obtain ⟨b, hb, h⟩ := h
  split at h
  · injection h with h
    subst h
    exact hg b hb
  · simp only [Option.bind_eq_some_iff, Option.map_eq_some_iff] at h
    obtain ⟨c, _, l, hl, rfl⟩ := h
    exact (buildL_length hl).trans (hg b hb)
/-- The blocks of a reading lie apart. -/
structure Ids (P : Nat → Prop) (K : Bool) (bk g rb fr dg gy gu gv ay au av : Nat) : Prop where
  pg : ¬ P g
  pb : ¬ P bk
  py : ¬ P gy
  pu : ¬ P gu
  pv : ¬ P gv
  nd : [g, bk, rb, fr, gy, gu, gv].Nodup
  na : K = false → [g, bk, rb, gy, gu, gv, dg, ay, au, av].Nodup
/-- A reading in memory: what is built so far, and where the code is. -/
structure RW (w : World) (bk g rb fr dg : Nat) (P : Nat → Prop) (K : Bool) (N Q : Int) (d : Dim) (gy gu gv ay au av : Nat) (ahd : Pix) (G nx : Int) (f : Pix) (s : St) : Prop where
  st : SAt w bk g P s
  pw : ∀ j, P j → j < w.heap.size
  rd : Blk w rb 110 (rdV K N Q bk g fr dg)
  frm : Blk w fr 37 (frameV d gy gu gv).toArray
  fa : FrameAt w d gy gu gv f
  dt : K = false → Blk w dg 60 (decCells d.W d.H G nx (frameV d ay au av))
  aa : K = false → FrameAt w d ay au av ahd
def RS (bk g gy gu gv : Nat) (j : Nat) : Prop := j = g ∨ j = bk ∨ j = gy ∨ j = gu ∨ j = gv
theorem RW.quiet {w w' : World} {bk g rb fr dg : Nat} {P : Nat → Prop} {K : Bool} {N Q : Int} {d : Dim} {gy gu gv ay au av : Nat} {ahd : Pix} {G nx : Int} {f : Pix} {s : St} (h : RW w bk g rb fr dg P K N Q d gy gu gv ay au av ahd G nx f s) (hm : Mod (fun _ => False) w w') :
    RW w' bk g rb fr dg P K N Q d gy gu gv ay au av ahd G nx f s :=
  ⟨h.st.mod hm (fun h => h) (fun h => h) (fun _ _ h => h), fun j hj => Nat.lt_of_lt_of_le (h.pw j hj) hm.size, h.rd.keep hm (fun h => h), h.frm.keep hm (fun h => h), h.fa.quiet hm, fun hk => (h.dt hk).keep hm (fun h => h), fun hk => (h.aa hk).quiet hm⟩
def StepPost (w : World) (bk g rb fr dg : Nat) (P : Nat → Prop) (K : Bool) (N Q : Int) (d : Dim) (gy gu gv ay au av : Nat) (ahd : Pix) (G nx : Int) (r : Option (Pix × St)) (e : Ending) (w' : World) : Prop :=
  (r = none ∧ ∃ er : Int, (er == 0) = false ∧ e = .returned (.int .i64 er) ∧ Mod (RS bk g gy gu gv) w w') ∨
  ∃ (f' : Pix) (s' : St), r = some (f', s') ∧ e = .returned (.int .i64 0) ∧ RW w' bk g rb fr dg P K N Q d gy gu gv ay au av ahd G nx f' s' ∧ Mod (RS bk g gy gu gv) w w'

set_option maxHeartbeats 2000000 in
theorem dStep (w : World) (bk g rb fr dg : Nat) (P : Nat → Prop) (K : Bool) (N Q : Int) (d : Dim) (hd : d.Ok) (gy gu gv ay au av : Nat) (ahd : Pix) (G nx : Int) (f : Pix) (s : St) (hi : Ids P K bk g rb fr dg gy gu gv ay au av) (h : RW w bk g rb fr dg P K N Q d gy gu gv ay au av ahd G nx f s)
    (kind : Int) (hK : K = true → kind = 2) (pl x y : Nat) (hpl : pl < 3) (hx : x + 8 ≤ d.wOf pl) (hy : y + 8 ≤ d.hOf pl) (vx vy : Int) (hvx : -128 ≤ vx ∧ vx ≤ 128) (hvy : -128 ≤ vy ∧ vy ≤ 128) :
    Calls Tryz.prog 107 #[.pointer (some ⟨rb, 0, none⟩), .int .i64 kind, .agg #[.int .i64 (pl : Int), .int .i64 (x : Int), .int .i64 (y : Int)], .agg #[.int .i64 vx, .int .i64 vy]] w (StepPost w bk g rb fr dg P K N Q d gy gu gv ay au av ahd G nx (stepB d ahd kind Q pl x y vx vy f s)) := by
  have nd := hi.nd
  simp only [List.nodup_cons, List.mem_cons, List.not_mem_nil, or_false, not_or, List.nodup_nil, and_true, not_false_eq_true] at nd
  obtain ⟨⟨n1, n2, n3, n4, n5, n6⟩, ⟨n7, n8, n9, n10, n11⟩, ⟨n12, n13, n14, n15⟩, ⟨n16, n17, n18⟩, ⟨n19, n20⟩, n21⟩ := nd
  have kf : kind ≠ 2 → K = false := fun hk => by
    cases K
    · rfl
    · exact absurd (hK rfl) hk
  have fa := h.fa
  have hnA : ∀ {aq : Nat} (_ : aq = ay ∨ aq = au ∨ aq = av), kind ≠ 2 → rb ≠ dg ∧ rb ≠ aq ∧ dg ≠ aq := fun ha hk => by
    have na := hi.na (kf hk)
    simp only [List.nodup_cons, List.mem_cons, List.not_mem_nil, or_false, not_or, List.nodup_nil, and_true, not_false_eq_true] at na
    obtain ⟨_, _, ⟨_, _, _, m1, m2, m3, m4⟩, _, _, _, ⟨m5, m6, m7⟩, _⟩ := na
    rcases ha with rfl | rfl | rfl
    · exact ⟨m1, m2, m5⟩
    · exact ⟨m1, m3, m6⟩
    · exact ⟨m1, m4, m7⟩
  have fin : ∀ {S : Nat → Prop} {w' : World}, (∀ j, S j → RS bk g gy gu gv j) → Mod S w w' → ∀ {f' : Pix} {s' : St}, SAt w' bk g P s' → FrameAt w' d gy gu gv f' → RW w' bk g rb fr dg P K N Q d gy gu gv ay au av ahd G nx f' s' := by
    intro S w' hS hm f' s' hs' hf'
    have hm' := hm.mono hS
    have o1 : ¬ RS bk g gy gu gv rb := by (intro h; unfold RS at h; rcases h with h | h | h | h | h <;> first | exact absurd h (by assumption) | exact absurd h.symm (by assumption))
    have o2 : ¬ RS bk g gy gu gv fr := by (intro h; unfold RS at h; rcases h with h | h | h | h | h <;> first | exact absurd h (by assumption) | exact absurd h.symm (by assumption))
    refine ⟨hs', fun j hj => Nat.lt_of_lt_of_le (h.pw j hj) hm.size, h.rd.keep hm' o1, h.frm.keep hm' o2, hf', fun hk => ?_, fun hk => ?_⟩
    all_goals
      have na := hi.na hk
      simp only [List.nodup_cons, List.mem_cons, List.not_mem_nil, or_false, not_or, List.nodup_nil, and_true, not_false_eq_true] at na
      obtain ⟨⟨_, _, _, _, _, _, _, _, _⟩, ⟨_, _, _, _, _, _, _, _⟩, ⟨_, _, _, _, _, _, _⟩, ⟨_, _, _, _, _, _⟩, ⟨_, _, _, _, _⟩, ⟨_, _, _, _⟩, ⟨_, _, _⟩, _⟩ := na
    · exact (h.dt hk).keep hm' (by (intro h; unfold RS at h; rcases h with h | h | h | h | h <;> first | exact absurd h (by assumption) | exact absurd h.symm (by assumption)))
    · exact (h.aa hk).mod hm' (by (intro h; unfold RS at h; rcases h with h | h | h | h | h <;> first | exact absurd h (by assumption) | exact absurd h.symm (by assumption))) (by (intro h; unfold RS at h; rcases h with h | h | h | h | h <;> first | exact absurd h (by assumption) | exact absurd h.symm (by assumption))) (by (intro h; unfold RS at h; rcases h with h | h | h | h | h <;> first | exact absurd h (by assumption) | exact absurd h.symm (by assumption)))
  have h3 : pl = 0 ∨ pl = 1 ∨ pl = 2 := by omega
  rcases h3 with rfl | rfl | rfl
  · refine (dBlockAt w bk g rb fr dg P hi.pg hi.pb h.pw n1 K N Q s h.st h.rd (Ne.symm n2) (Ne.symm n7) kind d.W d.H d.nY gy 0 0 f.Y hd.sides hd.ny _ h.frm rfl rfl rfl (by omega) rfl fa.by_ fa.ly hi.py (Ne.symm n3) (Ne.symm n8) (Ne.symm n4) (Ne.symm n9) n12 n13 n16 ahd.Y (decCells d.W d.H G nx (frameV d ay au av)) ay 4 rfl
      (fun hk => ⟨h.dt (kf hk), (h.aa (kf hk)).by_, rfl, rfl, rfl, (h.aa (kf hk)).ly, hnA (by simp) hk⟩) x y hx hy vx vy hvx hvy).mono ?_
    rintro e w' (⟨hr, er, her, rfl, hm⟩ | ⟨l, s', hr, rfl, hb, hs', hm⟩)
    · exact .inl ⟨by show Option.map _ (sblk (gof kind d.W d.H f.Y ahd.Y x y 0 vx vy s) kind 0 Q) = none; rw [hr]; rfl, er, her, rfl, hm.mono (by (intro _ h; unfold RS; rcases h with h | h | h <;> simp [h]))⟩
    · refine .inr ⟨⟨layTo d.W x y l f.Y 8, f.U, f.V⟩, s', by show Option.map _ (sblk (gof kind d.W d.H f.Y ahd.Y x y 0 vx vy s) kind 0 Q) = _; rw [hr]; rfl, rfl, fin (by (intro _ h; unfold RS; rcases h with h | h | h <;> simp [h])) hm hs' ?_, hm.mono (by (intro _ h; unfold RS; rcases h with h | h | h <;> simp [h]))⟩
      have hl : l.length = 64 := sblk_length (fun b hb => gof_length hb) hr
      have hln := (layTo_length hx hy (fa.ly.trans hd.ny) hl 8 (Nat.le_refl _)).trans hd.ny.symm
      exact ⟨hb, fa.bu.keep hm (by (intro h; rcases h with h | h | h <;> first | exact absurd h (by assumption) | exact absurd h.symm (by assumption))), fa.bv.keep hm (by (intro h; rcases h with h | h | h <;> first | exact absurd h (by assumption) | exact absurd h.symm (by assumption))), hln, fa.lu, fa.lv, fa.yu, fa.yv, fa.uv⟩
  · refine (dBlockAt w bk g rb fr dg P hi.pg hi.pb h.pw n1 K N Q s h.st h.rd (Ne.symm n2) (Ne.symm n7) kind d.W2 d.H2 d.nC gu 3 1 f.U hd.half hd.nc _ h.frm rfl rfl rfl (by omega) rfl fa.bu fa.lu hi.pu (Ne.symm n3) (Ne.symm n8) (Ne.symm n5) (Ne.symm n10) n12 n14 n17 ahd.U (decCells d.W d.H G nx (frameV d ay au av)) au 7 rfl
      (fun hk => ⟨h.dt (kf hk), (h.aa (kf hk)).bu, rfl, rfl, rfl, (h.aa (kf hk)).lu, hnA (by simp) hk⟩) x y hx hy vx vy hvx hvy).mono ?_
    rintro e w' (⟨hr, er, her, rfl, hm⟩ | ⟨l, s', hr, rfl, hb, hs', hm⟩)
    · exact .inl ⟨by show Option.map _ (sblk (gof kind d.W2 d.H2 f.U ahd.U x y 1 vx vy s) kind 1 Q) = none; rw [hr]; rfl, er, her, rfl, hm.mono (by (intro _ h; unfold RS; rcases h with h | h | h <;> simp [h]))⟩
    · refine .inr ⟨⟨f.Y, layTo d.W2 x y l f.U 8, f.V⟩, s', by show Option.map _ (sblk (gof kind d.W2 d.H2 f.U ahd.U x y 1 vx vy s) kind 1 Q) = _; rw [hr]; rfl, rfl, fin (by (intro _ h; unfold RS; rcases h with h | h | h <;> simp [h])) hm hs' ?_, hm.mono (by (intro _ h; unfold RS; rcases h with h | h | h <;> simp [h]))⟩
      have hl : l.length = 64 := sblk_length (fun b hb => gof_length hb) hr
      have hln := (layTo_length hx hy (fa.lu.trans hd.nc) hl 8 (Nat.le_refl _)).trans hd.nc.symm
      exact ⟨fa.by_.keep hm (by (intro h; rcases h with h | h | h <;> first | exact absurd h (by assumption) | exact absurd h.symm (by assumption))), hb, fa.bv.keep hm (by (intro h; rcases h with h | h | h <;> first | exact absurd h (by assumption) | exact absurd h.symm (by assumption))), fa.ly, hln, fa.lv, fa.yu, fa.yv, fa.uv⟩
  · refine (dBlockAt w bk g rb fr dg P hi.pg hi.pb h.pw n1 K N Q s h.st h.rd (Ne.symm n2) (Ne.symm n7) kind d.W2 d.H2 d.nC gv 6 2 f.V hd.half hd.nc _ h.frm rfl rfl rfl (by omega) rfl fa.bv fa.lv hi.pv (Ne.symm n3) (Ne.symm n8) (Ne.symm n6) (Ne.symm n11) n12 n15 n18 ahd.V (decCells d.W d.H G nx (frameV d ay au av)) av 10 rfl
      (fun hk => ⟨h.dt (kf hk), (h.aa (kf hk)).bv, rfl, rfl, rfl, (h.aa (kf hk)).lv, hnA (by simp) hk⟩) x y hx hy vx vy hvx hvy).mono ?_
    rintro e w' (⟨hr, er, her, rfl, hm⟩ | ⟨l, s', hr, rfl, hb, hs', hm⟩)
    · exact .inl ⟨by show Option.map _ (sblk (gof kind d.W2 d.H2 f.V ahd.V x y 2 vx vy s) kind 2 Q) = none; rw [hr]; rfl, er, her, rfl, hm.mono (by (intro _ h; unfold RS; rcases h with h | h | h <;> simp [h]))⟩
    · refine .inr ⟨⟨f.Y, f.U, layTo d.W2 x y l f.V 8⟩, s', by show Option.map _ (sblk (gof kind d.W2 d.H2 f.V ahd.V x y 2 vx vy s) kind 2 Q) = _; rw [hr]; rfl, rfl, fin (by (intro _ h; unfold RS; rcases h with h | h | h <;> simp [h])) hm hs' ?_, hm.mono (by (intro _ h; unfold RS; rcases h with h | h | h <;> simp [h]))⟩
      have hl : l.length = 64 := sblk_length (fun b hb => gof_length hb) hr
      have hln := (layTo_length hx hy (fa.lv.trans hd.nc) hl 8 (Nat.le_refl _)).trans hd.nc.symm
      exact ⟨fa.by_.keep hm (by (intro h; rcases h with h | h | h <;> first | exact absurd h (by assumption) | exact absurd h.symm (by assumption))), fa.bu.keep hm (by (intro h; rcases h with h | h | h <;> first | exact absurd h (by assumption) | exact absurd h.symm (by assumption))), hb, fa.ly, fa.lu, hln, fa.yu, fa.yv, fa.uv⟩
end Go.Proofs.YteppnjgfebcmjaaGreat

/-
  decoder: a square of a reading.
-/
namespace Go.Proofs.YteppnjgfebcmjaaGreat
open Go.RowKit

def pcP (i : Nat) : Nat := if i < 4 then 0 else i - 3
def pcX (x i : Nat) : Nat := if 4 ≤ i then x / 2 else if i % 2 = 1 then x + 8 else x
def pcY (y i : Nat) : Nat := if 4 ≤ i then y / 2 else if 2 ≤ i then y + 8 else y
/-- The last n of a square's six blocks. -/
def blkFrom (d : Dim) (ahd : Pix) (kind : Int) (Q : Int) (x y : Nat) (vx vy : Int) : Nat → Pix → St → Option (Pix × St)
  | 0, f, s => some (f, s)
  | n + 1, f, s => (stepB d ahd kind Q (pcP (5 - n)) (pcX x (5 - n)) (pcY y (5 - n)) vx vy f s).bind fun a => blkFrom d ahd kind Q x y vx vy n a.1 a.2
/-- A square's kind, and its vector. -/
def skind (K : Bool) (s : St) : Option (Nat × St) := if K = true then some (2, s) else sone 1 3 s
def skvec (k : Nat) (s : St) : Option ((Int × Int) × St) := if k = 1 then svec s else some ((0, 0), s)
def squareS (d : Dim) (ahd : Pix) (K : Bool) (Q : Int) (x y : Nat) (f : Pix) (s : St) : Option (Pix × St) :=
  (skind K s).bind fun k => (skvec k.1 k.2).bind fun v => blkFrom d ahd (k.1 : Int) Q x y v.1.1 v.1.2 6 f v.2
theorem vec_bounds {s s' : St} {a b : Int} (h : svec s = some ((a, b), s')) : (-128 ≤ a ∧ a ≤ 128) ∧ (-128 ≤ b ∧ b ≤ 128) := by
  unfold svec at h
  rw [vecTo_2] at h
  simp only [Option.bind_eq_some_iff] at h
  obtain ⟨p, _, h⟩ := h
  split at h
  · cases h
  · rw [vecTo_1] at h
    simp only [Option.bind_eq_some_iff] at h
    obtain ⟨q, _, h⟩ := h
    split at h
    · cases h
    · simp only [vecTo, Option.some.injEq, Prod.mk.injEq] at h
      omega
theorem skvec_bounds {k : Nat} {s s' : St} {a b : Int} (h : skvec k s = some ((a, b), s')) : (-128 ≤ a ∧ a ≤ 128) ∧ (-128 ≤ b ∧ b ≤ 128) := by
  unfold skvec at h
  split at h
  · exact vec_bounds h
  · injection h with h
    injection h with h1 h2
    injection h1 with h3 h4
    omega
theorem skind_lt {K : Bool} {s s' : St} {k : Nat} (h : skind K s = some (k, s')) : k < 3 ∧ (K = true → k = 2) := by
  unfold skind at h
  split at h
  · injection h with h
    injection h with h1 h2
    omega
  · rename_i hk
    exact ⟨sone_lt h, fun e => absurd e hk⟩
theorem pc_in {d : Dim} (hd : d.Ok) {x y i : Nat} (hi : i < 6) (hx : x + 16 ≤ d.W) (hy : y + 16 ≤ d.H) : pcP i < 3 ∧ pcX x i + 8 ≤ d.wOf (pcP i) ∧ pcY y i + 8 ≤ d.hOf (pcP i) := by
  have := hd.w2
  have := hd.h2
  have h6 : i = 0 ∨ i = 1 ∨ i = 2 ∨ i = 3 ∨ i = 4 ∨ i = 5 := by omega
  rcases h6 with rfl | rfl | rfl | rfl | rfl | rfl <;> simp [pcP, pcX, pcY, Dim.wOf, Dim.hOf] <;> omega
theorem plL_at (x y : Nat) {i : Nat} (hi : i < 6) : ∀ w, (Instr.index 175 (.agg (plL x y).toArray) (.int .i64 (i : Int))).run Tryz.prog w = .ok (.agg #[.int .i64 (pcP i : Int), .int .i64 (pcX x i : Int), .int .i64 (pcY y i : Int)]) w := by
  have h6 : i = 0 ∨ i = 1 ∨ i = 2 ∨ i = 3 ∨ i = 4 ∨ i = 5 := by omega
  rcases h6 with rfl | rfl | rfl | rfl | rfl | rfl <;> intro w <;> kernel_rfl
end Go.Proofs.YteppnjgfebcmjaaGreat
