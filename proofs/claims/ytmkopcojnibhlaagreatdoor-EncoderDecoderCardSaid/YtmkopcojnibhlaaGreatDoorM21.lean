/-
  decoder.Decoder: New, Reset, Next; Frame of none; coder.Open of too little.
-/
import Derived.Test.YtmkopcojnibhlaaGreatDoorM20
import Derived.Test.YtmkopcojnibhlaaGreatDoorM18
import Derived.Test.YtmkopcojnibhlaaGreatDoorM0
import Derived.Test.YtmkopcojnibhlaaGreatDoorM17
import Derived.Test.YtmkopcojnibhlaaGreatDoorM2
import Derived.BigQuiet
namespace Go.Proofs.YtmkopcojnibhlaaGreatDoor
open Go.RowKit

def decCells (W H G nx : Int) (fr : List Value) : Array Value := (.int .i64 W :: .int .i64 H :: .int .i64 G :: .int .i64 nx :: fr).toArray
def noFrame : List Value := [.int .i64 0, .int .i64 0, .slice none 0 0, .int .i64 0, .int .i64 0, .slice none 0 0, .int .i64 0, .int .i64 0, .slice none 0 0]

theorem decNext_nil (w : World) : Calls Tryz.prog 39 #[.pointer none] w fun e w' => e = .returned (.int .i64 0) ∧ w = w' := by
  go_enter Tryz.func39, Tryz.ntmps39
  go_wp2_with fail
  go_ret
  exact ⟨rfl, rfl⟩
theorem decReset_nil (w : World) (A : Option Addr) (n c : Nat) : Calls Tryz.prog 80 #[.pointer none, .slice A n c] w fun e w' => e = .returned (.int .i64 1) ∧ w = w' := by
  go_enter Tryz.func80, Tryz.ntmps80
  go_wp2_with fail
  go_ret
  exact ⟨rfl, rfl⟩
set_option maxHeartbeats 1000000 in
theorem decFrame_nil (w : World) (A : Option Addr) (n c : Nat) : Calls Tryz.prog 37 #[.pointer none, .slice A n c] w fun e w' => e = .returned (.tuple #[.agg noFrame.toArray, .int .i64 1]) ∧ Mod (fun _ => False) w w' := by
  go_enter Tryz.func37, Tryz.ntmps37
  go_wp2_with fail
  exact bodyPost_ret (v := .tuple #[.agg noFrame.toArray, .int .i64 1]) (by simp [results, Tryz.results37, go_sem, noFrame]) rfl ⟨rfl, (Mod.refl _ _).alloc _⟩
theorem decNext (w : World) (g : Nat) (W H G nx : Int) (fr : List Value) (hb : Blk w g 136 (decCells W H G nx fr)) : Calls Tryz.prog 39 #[.pointer (some ⟨g, 0, none⟩)] w fun e w' => e = .returned (.int .i64 nx) ∧ w = w' := by
  have c3 : w.cell? ⟨g, 3, none⟩ = some (.int .i64 nx) := hb.cell 3
  clear hb
  go_enter Tryz.func39, Tryz.ntmps39
  go_wp2_with fail
  go_ret
  exact ⟨rfl, rfl⟩
theorem coderOpen_short (w : World) (A : Option Addr) (n c : Nat) (h : n < 4) : Calls Tryz.prog 127 #[.slice A n c] w fun e w' => e = .returned (.tuple #[.pointer none, .int .i64 41]) ∧ w = w' := by
  go_enter Tryz.func127, Tryz.ntmps127
  go_wp2_with fail
  go_ret2
  exact ⟨rfl, rfl⟩

def ResetPost (w : World) (g : Nat) (l : List UInt8) (e : Ending) (w' : World) : Prop :=
  (seqParse l = none ∧ e = .returned (.int .i64 121) ∧ Mod (fun _ => False) w w') ∨
  ∃ W H G, seqParse l = some (W, H, G) ∧ e = .returned (.int .i64 0) ∧ Blk w' g 136 (decCells W H G 0 noFrame) ∧ Mod (· = g) w w'

set_option maxRecDepth 100000 in
set_option maxHeartbeats 2000000 in
theorem decReset (w : World) (g : Nat) (W0 H0 G0 nx : Int) (fr : List Value) (hfr : fr.length = 9) (hb : Blk w g 136 (decCells W0 H0 G0 nx fr)) (A : Option Addr) (n c : Nat) (l : List UInt8) (hin : BytesIn w A n c l) (hn : n ≤ 1048576) :
    Calls Tryz.prog 80 #[.pointer (some ⟨g, 0, none⟩), .slice A n c] w (ResetPost w g l) := by
  match fr, hfr with
  | [f0, f1, f2, f3, f4, f5, f6, f7, f8], _ =>
    go_enter Tryz.func80, Tryz.ntmps80
    go_wp2_with fail
    refine (parseSeq _ A n c l hin hn).mono ?_
    rintro e w1 ⟨hm, ⟨hnone, rfl⟩ | ⟨W, H, G, hsome, rfl⟩⟩
    · have HN := Lib.hid (And.intro hnone hm)
      clear hnone hm
      go_wp2_with fail
      go_ret
      exact .inl ⟨HN.out.1, rfl, HN.out.2.alloc _⟩
    · have hb1 := hb.keep hm (fun h => h)
      obtain ⟨hc, hf⟩ := hb1.both
      unfold decCells at hc
      have hl := hb1.lt
      have HN := Lib.hid (And.intro hsome (And.intro hm hb1))
      clear hsome hm hb1 hb
      go_wp2_with fail
      go_ret
      obtain ⟨z1, z2, z3⟩ := HN.out
      refine .inr ⟨W, H, G, z1, rfl, ?_, ?_⟩
      · refine Blk.alloc ?_ _
        have z5 := ((((((((((((z3.set_ 0 (.int .i64 W)).set_ 1 (.int .i64 H)).set_ 2 (.int .i64 G)).set_ 3 (.int .i64 0)).set_ 4 (.int .i64 0)).set_ 5 (.int .i64 0)).set_ 6 (.slice none 0 0)).set_ 7 (.int .i64 0)).set_ 8 (.int .i64 0)).set_ 9 (.slice none 0 0)).set_ 10 (.int .i64 0)).set_ 11 (.int .i64 0)).set_ 12 (.slice none 0 0)
        rwa [show (((((((((((((decCells W0 H0 G0 nx [f0, f1, f2, f3, f4, f5, f6, f7, f8]).setIfInBounds 0 (.int .i64 W)).setIfInBounds 1 (.int .i64 H)).setIfInBounds 2 (.int .i64 G)).setIfInBounds 3 (.int .i64 0)).setIfInBounds 4 (.int .i64 0)).setIfInBounds 5 (.int .i64 0)).setIfInBounds 6 (.slice none 0 0)).setIfInBounds 7 (.int .i64 0)).setIfInBounds 8 (.int .i64 0)).setIfInBounds 9 (.slice none 0 0)).setIfInBounds 10 (.int .i64 0)).setIfInBounds 11 (.int .i64 0)).setIfInBounds 12 (.slice none 0 0) = decCells W H G 0 noFrame by simp [decCells, noFrame]] at z5
      · have z4 : Mod (· = g) w w1 := z2.mono (fun _ h => h.elim)
        refine Mod.alloc ?_ _
        exact (by repeat' (first | with_reducible exact z4 | with_reducible refine Mod.setCell ?_ ?_ _ | exact Or.inl rfl))

def NewPost (w : World) (l : List UInt8) (e : Ending) (w' : World) : Prop :=
  Mod (fun _ => False) w w' ∧ ((seqParse l = none ∧ e = .returned (.tuple #[.pointer none, .int .i64 121])) ∨
  ∃ W H G g, seqParse l = some (W, H, G) ∧ e = .returned (.tuple #[.pointer (some ⟨g, 0, none⟩), .int .i64 0]) ∧ Blk w' g 136 (decCells W H G 0 noFrame) ∧ w.heap.size ≤ g)

set_option maxRecDepth 100000 in
set_option maxHeartbeats 2000000 in
theorem decNew (w : World) (A : Option Addr) (n c : Nat) (l : List UInt8) (hin : BytesIn w A n c l) (hn : n ≤ 1048576) : Calls Tryz.prog 36 #[.slice A n c] w (NewPost w l) := by
  have hb : Blk (w.alloc (.cells (decCells 0 0 0 0 noFrame) 136)) w.heap.size 136 (decCells 0 0 0 0 noFrame) := Blk.new _ _ _
  have M0 : Mod (fun _ => False) w (w.alloc (.cells (decCells 0 0 0 0 noFrame) 136)) := (Mod.refl _ _).alloc _
  have c1 := decReset _ w.heap.size 0 0 0 0 noFrame rfl hb A n c l (hin.quiet M0) hn
  clear hin hb
  unfold decCells noFrame at c1 M0
  go_enter Tryz.func36, Tryz.ntmps36
  go_wp2_with fail
  refine c1.mono ?_
  clear c1
  rintro e w1 (⟨hnone, rfl, hm⟩ | ⟨W, H, G, hsome, rfl, hb1, hm⟩)
  · have HN := Lib.hid (And.intro hnone (M0.trans hm))
    clear hnone hm M0
    go_wp2_with fail
    go_ret2
    exact ⟨HN.out.2, .inl ⟨HN.out.1, rfl⟩⟩
  · have HN := Lib.hid (And.intro hsome (And.intro (M0.into hm (fun i e => .inr (by omega))) hb1))
    clear hsome hm M0 hb1
    go_wp2_with fail
    go_ret2
    exact ⟨HN.out.2.1, .inr ⟨W, H, G, _, HN.out.1, rfl, HN.out.2.2, Nat.le_refl _⟩⟩
end Go.Proofs.YtmkopcojnibhlaaGreatDoor

/-
  decoder: a reading in memory; a block of it.
-/
namespace Go.Proofs.YtmkopcojnibhlaaGreatDoor
open Go.RowKit

def Pix.get (f : Pix) (pl : Nat) : List UInt8 := if pl = 0 then f.Y else if pl = 1 then f.U else f.V
def Pix.set (f : Pix) (pl : Nat) (l : List UInt8) : Pix := if pl = 0 then ⟨l, f.U, f.V⟩ else if pl = 1 then ⟨f.Y, l, f.V⟩ else ⟨f.Y, f.U, l⟩
def Dim.wOf (d : Dim) (pl : Nat) : Nat := if pl = 0 then d.W else d.W2
def Dim.hOf (d : Dim) (pl : Nat) : Nat := if pl = 0 then d.H else d.H2
/-- A block of a reading. -/
def stepB (d : Dim) (ahd : Pix) (kind : Int) (Q : Int) (pl x y : Nat) (vx vy : Int) (f : Pix) (s : St) : Option (Pix × St) :=
  (sblk (gof kind (d.wOf pl) (d.hOf pl) (f.get pl) (ahd.get pl) x y pl vx vy s) kind pl Q).map fun a => (f.set pl (layTo (d.wOf pl) x y a.1 (f.get pl) 8), a.2)
theorem gof_length {kind : Int} {W H : Nat} {pix apix : List UInt8} {x y pl : Nat} {vx vy : Int} {s : St} {a : List UInt8 × St} (h : gof kind W H pix apix x y pl vx vy s = some a) : a.1.length = 64 := by
  unfold gof at h
  split at h
  · unfold sguess at h
    simp only [Option.map_eq_some_iff] at h
    obtain ⟨m, _, rfl⟩ := h
    exact guessL_length _ _ _ _ _
  · injection h with h
    subst h
    exact smoved_length _ _ _ _ _ _ _ _
theorem sblk_length {gr : Option (List UInt8 × St)} {kind : Int} {pl : Nat} {Q : Int} {a : List UInt8 × St} (hg : ∀ b, gr = some b → b.1.length = 64) (h : sblk gr kind pl Q = some a) : a.1.length = 64 := by
  unfold sblk at h
  simp only [Option.bind_eq_some_iff] at h
  obtain ⟨b, hb, h⟩ := h
  split at h
  · injection h with h
    subst h
    exact hg b hb
  · simp only [Option.bind_eq_some_iff, Option.map_eq_some_iff] at h
    obtain ⟨c, _, l, hl, rfl⟩ := h
    exact (buildL_length hl).trans (hg b hb)
/-- The blocks of a reading lie apart. -/
structure Ids (P : Nat → Prop) (K : Bool) (bk g rb fr dg gy gu gv ay au av : Nat) : Prop where
  pg : ¬ P g
  pb : ¬ P bk
  py : ¬ P gy
  pu : ¬ P gu
  pv : ¬ P gv
  nd : [g, bk, rb, fr, gy, gu, gv].Nodup
  na : K = false → [g, bk, rb, gy, gu, gv, dg, ay, au, av].Nodup
/-- A reading in memory: what is built so far, and where the code is. -/
structure RW (w : World) (bk g rb fr dg : Nat) (P : Nat → Prop) (K : Bool) (N Q : Int) (d : Dim) (gy gu gv ay au av : Nat) (ahd : Pix) (G nx : Int) (f : Pix) (s : St) : Prop where
  st : SAt w bk g P s
  pw : ∀ j, P j → j < w.heap.size
  rd : Blk w rb 217 (rdV K N Q bk g fr dg)
  frm : Blk w fr 40 (frameV d gy gu gv).toArray
  fa : FrameAt w d gy gu gv f
  dt : K = false → Blk w dg 136 (decCells d.W d.H G nx (frameV d ay au av))
  aa : K = false → FrameAt w d ay au av ahd
def RS (bk g gy gu gv : Nat) (j : Nat) : Prop := j = g ∨ j = bk ∨ j = gy ∨ j = gu ∨ j = gv
theorem RW.quiet {w w' : World} {bk g rb fr dg : Nat} {P : Nat → Prop} {K : Bool} {N Q : Int} {d : Dim} {gy gu gv ay au av : Nat} {ahd : Pix} {G nx : Int} {f : Pix} {s : St} (h : RW w bk g rb fr dg P K N Q d gy gu gv ay au av ahd G nx f s) (hm : Mod (fun _ => False) w w') :
    RW w' bk g rb fr dg P K N Q d gy gu gv ay au av ahd G nx f s :=
  ⟨h.st.mod hm (fun h => h) (fun h => h) (fun _ _ h => h), fun j hj => Nat.lt_of_lt_of_le (h.pw j hj) hm.size, h.rd.keep hm (fun h => h), h.frm.keep hm (fun h => h), h.fa.quiet hm, fun hk => (h.dt hk).keep hm (fun h => h), fun hk => (h.aa hk).quiet hm⟩
def StepPost (w : World) (bk g rb fr dg : Nat) (P : Nat → Prop) (K : Bool) (N Q : Int) (d : Dim) (gy gu gv ay au av : Nat) (ahd : Pix) (G nx : Int) (r : Option (Pix × St)) (e : Ending) (w' : World) : Prop :=
  (r = none ∧ ∃ er : Int, (er == 0) = false ∧ e = .returned (.int .i64 er) ∧ Mod (RS bk g gy gu gv) w w') ∨
  ∃ (f' : Pix) (s' : St), r = some (f', s') ∧ e = .returned (.int .i64 0) ∧ RW w' bk g rb fr dg P K N Q d gy gu gv ay au av ahd G nx f' s' ∧ Mod (RS bk g gy gu gv) w w'

set_option maxHeartbeats 2000000 in
theorem dStep (w : World) (bk g rb fr dg : Nat) (P : Nat → Prop) (K : Bool) (N Q : Int) (d : Dim) (hd : d.Ok) (gy gu gv ay au av : Nat) (ahd : Pix) (G nx : Int) (f : Pix) (s : St) (hi : Ids P K bk g rb fr dg gy gu gv ay au av) (h : RW w bk g rb fr dg P K N Q d gy gu gv ay au av ahd G nx f s)
    (kind : Int) (hK : K = true → kind = 2) (pl x y : Nat) (hpl : pl < 3) (hx : x + 8 ≤ d.wOf pl) (hy : y + 8 ≤ d.hOf pl) (vx vy : Int) (hvx : -128 ≤ vx ∧ vx ≤ 128) (hvy : -128 ≤ vy ∧ vy ≤ 128) :
    Calls Tryz.prog 188 #[.pointer (some ⟨rb, 0, none⟩), .int .i64 kind, .agg #[.int .i64 (pl : Int), .int .i64 (x : Int), .int .i64 (y : Int)], .agg #[.int .i64 vx, .int .i64 vy]] w (StepPost w bk g rb fr dg P K N Q d gy gu gv ay au av ahd G nx (stepB d ahd kind Q pl x y vx vy f s)) := by
  have nd := hi.nd
  simp only [List.nodup_cons, List.mem_cons, List.not_mem_nil, or_false, not_or, List.nodup_nil, and_true, not_false_eq_true] at nd
  obtain ⟨⟨n1, n2, n3, n4, n5, n6⟩, ⟨n7, n8, n9, n10, n11⟩, ⟨n12, n13, n14, n15⟩, ⟨n16, n17, n18⟩, ⟨n19, n20⟩, n21⟩ := nd
  have kf : kind ≠ 2 → K = false := fun hk => by
    cases K
    · rfl
    · exact absurd (hK rfl) hk
  have fa := h.fa
  have hnA : ∀ {aq : Nat} (_ : aq = ay ∨ aq = au ∨ aq = av), kind ≠ 2 → rb ≠ dg ∧ rb ≠ aq ∧ dg ≠ aq := fun ha hk => by
    have na := hi.na (kf hk)
    simp only [List.nodup_cons, List.mem_cons, List.not_mem_nil, or_false, not_or, List.nodup_nil, and_true, not_false_eq_true] at na
    obtain ⟨_, _, ⟨_, _, _, m1, m2, m3, m4⟩, _, _, _, ⟨m5, m6, m7⟩, _⟩ := na
    rcases ha with rfl | rfl | rfl
    · exact ⟨m1, m2, m5⟩
    · exact ⟨m1, m3, m6⟩
    · exact ⟨m1, m4, m7⟩
  have fin : ∀ {S : Nat → Prop} {w' : World}, (∀ j, S j → RS bk g gy gu gv j) → Mod S w w' → ∀ {f' : Pix} {s' : St}, SAt w' bk g P s' → FrameAt w' d gy gu gv f' → RW w' bk g rb fr dg P K N Q d gy gu gv ay au av ahd G nx f' s' := by
    intro S w' hS hm f' s' hs' hf'
    have hm' := hm.mono hS
    have o1 : ¬ RS bk g gy gu gv rb := by (intro h; unfold RS at h; rcases h with h | h | h | h | h <;> first | exact absurd h (by assumption) | exact absurd h.symm (by assumption))
    have o2 : ¬ RS bk g gy gu gv fr := by (intro h; unfold RS at h; rcases h with h | h | h | h | h <;> first | exact absurd h (by assumption) | exact absurd h.symm (by assumption))
    refine ⟨hs', fun j hj => Nat.lt_of_lt_of_le (h.pw j hj) hm.size, h.rd.keep hm' o1, h.frm.keep hm' o2, hf', fun hk => ?_, fun hk => ?_⟩
    all_goals
      have na := hi.na hk
      simp only [List.nodup_cons, List.mem_cons, List.not_mem_nil, or_false, not_or, List.nodup_nil, and_true, not_false_eq_true] at na
      obtain ⟨⟨_, _, _, _, _, _, _, _, _⟩, ⟨_, _, _, _, _, _, _, _⟩, ⟨_, _, _, _, _, _, _⟩, ⟨_, _, _, _, _, _⟩, ⟨_, _, _, _, _⟩, ⟨_, _, _, _⟩, ⟨_, _, _⟩, _⟩ := na
    · exact (h.dt hk).keep hm' (by (intro h; unfold RS at h; rcases h with h | h | h | h | h <;> first | exact absurd h (by assumption) | exact absurd h.symm (by assumption)))
    · exact (h.aa hk).mod hm' (by (intro h; unfold RS at h; rcases h with h | h | h | h | h <;> first | exact absurd h (by assumption) | exact absurd h.symm (by assumption))) (by (intro h; unfold RS at h; rcases h with h | h | h | h | h <;> first | exact absurd h (by assumption) | exact absurd h.symm (by assumption))) (by (intro h; unfold RS at h; rcases h with h | h | h | h | h <;> first | exact absurd h (by assumption) | exact absurd h.symm (by assumption)))
  have h3 : pl = 0 ∨ pl = 1 ∨ pl = 2 := by omega
  rcases h3 with rfl | rfl | rfl
  · refine (dBlockAt w bk g rb fr dg P hi.pg hi.pb h.pw n1 K N Q s h.st h.rd (Ne.symm n2) (Ne.symm n7) kind d.W d.H d.nY gy 0 0 f.Y hd.sides hd.ny _ h.frm rfl rfl rfl (by omega) rfl fa.by_ fa.ly hi.py (Ne.symm n3) (Ne.symm n8) (Ne.symm n4) (Ne.symm n9) n12 n13 n16 ahd.Y (decCells d.W d.H G nx (frameV d ay au av)) ay 4 rfl
      (fun hk => ⟨h.dt (kf hk), (h.aa (kf hk)).by_, rfl, rfl, rfl, (h.aa (kf hk)).ly, hnA (by simp) hk⟩) x y hx hy vx vy hvx hvy).mono ?_
    rintro e w' (⟨hr, er, her, rfl, hm⟩ | ⟨l, s', hr, rfl, hb, hs', hm⟩)
    · exact .inl ⟨by show Option.map _ (sblk (gof kind d.W d.H f.Y ahd.Y x y 0 vx vy s) kind 0 Q) = none; rw [hr]; rfl, er, her, rfl, hm.mono (by (intro _ h; unfold RS; rcases h with h | h | h <;> simp [h]))⟩
    · refine .inr ⟨⟨layTo d.W x y l f.Y 8, f.U, f.V⟩, s', by show Option.map _ (sblk (gof kind d.W d.H f.Y ahd.Y x y 0 vx vy s) kind 0 Q) = _; rw [hr]; rfl, rfl, fin (by (intro _ h; unfold RS; rcases h with h | h | h <;> simp [h])) hm hs' ?_, hm.mono (by (intro _ h; unfold RS; rcases h with h | h | h <;> simp [h]))⟩
      have hl : l.length = 64 := sblk_length (fun b hb => gof_length hb) hr
      have hln := (layTo_length hx hy (fa.ly.trans hd.ny) hl 8 (Nat.le_refl _)).trans hd.ny.symm
      exact ⟨hb, fa.bu.keep hm (by (intro h; rcases h with h | h | h <;> first | exact absurd h (by assumption) | exact absurd h.symm (by assumption))), fa.bv.keep hm (by (intro h; rcases h with h | h | h <;> first | exact absurd h (by assumption) | exact absurd h.symm (by assumption))), hln, fa.lu, fa.lv, fa.yu, fa.yv, fa.uv⟩
  · refine (dBlockAt w bk g rb fr dg P hi.pg hi.pb h.pw n1 K N Q s h.st h.rd (Ne.symm n2) (Ne.symm n7) kind d.W2 d.H2 d.nC gu 3 1 f.U hd.half hd.nc _ h.frm rfl rfl rfl (by omega) rfl fa.bu fa.lu hi.pu (Ne.symm n3) (Ne.symm n8) (Ne.symm n5) (Ne.symm n10) n12 n14 n17 ahd.U (decCells d.W d.H G nx (frameV d ay au av)) au 7 rfl
      (fun hk => ⟨h.dt (kf hk), (h.aa (kf hk)).bu, rfl, rfl, rfl, (h.aa (kf hk)).lu, hnA (by simp) hk⟩) x y hx hy vx vy hvx hvy).mono ?_
    rintro e w' (⟨hr, er, her, rfl, hm⟩ | ⟨l, s', hr, rfl, hb, hs', hm⟩)
    · exact .inl ⟨by show Option.map _ (sblk (gof kind d.W2 d.H2 f.U ahd.U x y 1 vx vy s) kind 1 Q) = none; rw [hr]; rfl, er, her, rfl, hm.mono (by (intro _ h; unfold RS; rcases h with h | h | h <;> simp [h]))⟩
    · refine .inr ⟨⟨f.Y, layTo d.W2 x y l f.U 8, f.V⟩, s', by show Option.map _ (sblk (gof kind d.W2 d.H2 f.U ahd.U x y 1 vx vy s) kind 1 Q) = _; rw [hr]; rfl, rfl, fin (by (intro _ h; unfold RS; rcases h with h | h | h <;> simp [h])) hm hs' ?_, hm.mono (by (intro _ h; unfold RS; rcases h with h | h | h <;> simp [h]))⟩
      have hl : l.length = 64 := sblk_length (fun b hb => gof_length hb) hr
      have hln := (layTo_length hx hy (fa.lu.trans hd.nc) hl 8 (Nat.le_refl _)).trans hd.nc.symm
      exact ⟨fa.by_.keep hm (by (intro h; rcases h with h | h | h <;> first | exact absurd h (by assumption) | exact absurd h.symm (by assumption))), hb, fa.bv.keep hm (by (intro h; rcases h with h | h | h <;> first | exact absurd h (by assumption) | exact absurd h.symm (by assumption))), fa.ly, hln, fa.lv, fa.yu, fa.yv, fa.uv⟩
  · refine (dBlockAt w bk g rb fr dg P hi.pg hi.pb h.pw n1 K N Q s h.st h.rd (Ne.symm n2) (Ne.symm n7) kind d.W2 d.H2 d.nC gv 6 2 f.V hd.half hd.nc _ h.frm rfl rfl rfl (by omega) rfl fa.bv fa.lv hi.pv (Ne.symm n3) (Ne.symm n8) (Ne.symm n6) (Ne.symm n11) n12 n15 n18 ahd.V (decCells d.W d.H G nx (frameV d ay au av)) av 10 rfl
      (fun hk => ⟨h.dt (kf hk), (h.aa (kf hk)).bv, rfl, rfl, rfl, (h.aa (kf hk)).lv, hnA (by simp) hk⟩) x y hx hy vx vy hvx hvy).mono ?_
    rintro e w' (⟨hr, er, her, rfl, hm⟩ | ⟨l, s', hr, rfl, hb, hs', hm⟩)
    · exact .inl ⟨by show Option.map _ (sblk (gof kind d.W2 d.H2 f.V ahd.V x y 2 vx vy s) kind 2 Q) = none; rw [hr]; rfl, er, her, rfl, hm.mono (by (intro _ h; unfold RS; rcases h with h | h | h <;> simp [h]))⟩
    · refine .inr ⟨⟨f.Y, f.U, layTo d.W2 x y l f.V 8⟩, s', by show Option.map _ (sblk (gof kind d.W2 d.H2 f.V ahd.V x y 2 vx vy s) kind 2 Q) = _; rw [hr]; rfl, rfl, fin (by (intro _ h; unfold RS; rcases h with h | h | h <;> simp [h])) hm hs' ?_, hm.mono (by (intro _ h; unfold RS; rcases h with h | h | h <;> simp [h]))⟩
      have hl : l.length = 64 := sblk_length (fun b hb => gof_length hb) hr
      have hln := (layTo_length hx hy (fa.lv.trans hd.nc) hl 8 (Nat.le_refl _)).trans hd.nc.symm
      exact ⟨fa.by_.keep hm (by (intro h; rcases h with h | h | h <;> first | exact absurd h (by assumption) | exact absurd h.symm (by assumption))), fa.bu.keep hm (by (intro h; rcases h with h | h | h <;> first | exact absurd h (by assumption) | exact absurd h.symm (by assumption))), hb, fa.ly, fa.lu, hln, fa.yu, fa.yv, fa.uv⟩
end Go.Proofs.YtmkopcojnibhlaaGreatDoor

/-
  decoder: a square of a reading.
-/
namespace Go.Proofs.YtmkopcojnibhlaaGreatDoor
open Go.RowKit

def pcP (i : Nat) : Nat := if i < 4 then 0 else i - 3
def pcX (x i : Nat) : Nat := if 4 ≤ i then x / 2 else if i % 2 = 1 then x + 8 else x
def pcY (y i : Nat) : Nat := if 4 ≤ i then y / 2 else if 2 ≤ i then y + 8 else y
/-- The last n of a square's six blocks. -/
def blkFrom (d : Dim) (ahd : Pix) (kind : Int) (Q : Int) (x y : Nat) (vx vy : Int) : Nat → Pix → St → Option (Pix × St)
  | 0, f, s => some (f, s)
  | n + 1, f, s => (stepB d ahd kind Q (pcP (5 - n)) (pcX x (5 - n)) (pcY y (5 - n)) vx vy f s).bind fun a => blkFrom d ahd kind Q x y vx vy n a.1 a.2
/-- A square's kind, and its vector. -/
def skind (K : Bool) (s : St) : Option (Nat × St) := if K = true then some (2, s) else sone 1 3 s
def skvec (k : Nat) (s : St) : Option ((Int × Int) × St) := if k = 1 then svec s else some ((0, 0), s)
def squareS (d : Dim) (ahd : Pix) (K : Bool) (Q : Int) (x y : Nat) (f : Pix) (s : St) : Option (Pix × St) :=
  (skind K s).bind fun k => (skvec k.1 k.2).bind fun v => blkFrom d ahd (k.1 : Int) Q x y v.1.1 v.1.2 6 f v.2
theorem vec_bounds {s s' : St} {a b : Int} (h : svec s = some ((a, b), s')) : (-128 ≤ a ∧ a ≤ 128) ∧ (-128 ≤ b ∧ b ≤ 128) := by
  unfold svec at h
  rw [vecTo_2] at h
  simp only [Option.bind_eq_some_iff] at h
  obtain ⟨p, _, h⟩ := h
  split at h
  · cases h
  · rw [vecTo_1] at h
    simp only [Option.bind_eq_some_iff] at h
    obtain ⟨q, _, h⟩ := h
    split at h
    · cases h
    · simp only [vecTo, Option.some.injEq, Prod.mk.injEq] at h
      omega
theorem skvec_bounds {k : Nat} {s s' : St} {a b : Int} (h : skvec k s = some ((a, b), s')) : (-128 ≤ a ∧ a ≤ 128) ∧ (-128 ≤ b ∧ b ≤ 128) := by
  unfold skvec at h
  split at h
  · exact vec_bounds h
  · injection h with h
    injection h with h1 h2
    injection h1 with h3 h4
    omega
theorem skind_lt {K : Bool} {s s' : St} {k : Nat} (h : skind K s = some (k, s')) : k < 3 ∧ (K = true → k = 2) := by
  unfold skind at h
  split at h
  · injection h with h
    injection h with h1 h2
    omega
  · rename_i hk
    exact ⟨sone_lt h, fun e => absurd e hk⟩
theorem pc_in {d : Dim} (hd : d.Ok) {x y i : Nat} (hi : i < 6) (hx : x + 16 ≤ d.W) (hy : y + 16 ≤ d.H) : pcP i < 3 ∧ pcX x i + 8 ≤ d.wOf (pcP i) ∧ pcY y i + 8 ≤ d.hOf (pcP i) := by
  have := hd.w2
  have := hd.h2
  have h6 : i = 0 ∨ i = 1 ∨ i = 2 ∨ i = 3 ∨ i = 4 ∨ i = 5 := by omega
  rcases h6 with rfl | rfl | rfl | rfl | rfl | rfl <;> simp [pcP, pcX, pcY, Dim.wOf, Dim.hOf] <;> omega
theorem plL_at (x y : Nat) {i : Nat} (hi : i < 6) : ∀ w, (Instr.index 265 (.agg (plL x y).toArray) (.int .i64 (i : Int))).run Tryz.prog w = .ok (.agg #[.int .i64 (pcP i : Int), .int .i64 (pcX x i : Int), .int .i64 (pcY y i : Int)]) w := by
  have h6 : i = 0 ∨ i = 1 ∨ i = 2 ∨ i = 3 ∨ i = 4 ∨ i = 5 := by omega
  rcases h6 with rfl | rfl | rfl | rfl | rfl | rfl <;> intro w <;> kernel_rfl
end Go.Proofs.YtmkopcojnibhlaaGreatDoor

/-
  encoder: Q, Number, End.
-/
namespace Go.Proofs.YtmkopcojnibhlaaGreatDoor
open Go.RowKit

/-- An encoder's cells. -/
def encV (W H G q tg nu : Int) (fr : List Value) : Array Value := (.int .i64 W :: .int .i64 H :: .int .i64 G :: .int .i64 q :: .int .i64 tg :: .int .i64 nu :: fr).toArray
theorem encQ (w : World) (g : Nat) (W H G q tg nu : Int) (fr : List Value) (h : Blk w g 92 (encV W H G q tg nu fr)) : Calls Tryz.prog 19 #[.pointer (some ⟨g, 0, none⟩)] w fun e w' => e = .returned (.int .i64 q) ∧ w = w' := by
  have c : w.cell? ⟨g, 3, none⟩ = some (.int .i64 q) := h.cell 3
  clear h
  go_enter Tryz.func19, Tryz.ntmps19
  go_wp2_with fail
  go_ret
  exact ⟨rfl, rfl⟩
theorem encQ_nil (w : World) : Calls Tryz.prog 19 #[.pointer none] w fun e w' => e = .returned (.int .i64 0) ∧ w = w' := by
  go_enter Tryz.func19, Tryz.ntmps19
  go_wp2_with fail
  go_ret
  exact ⟨rfl, rfl⟩
theorem encNumber (w : World) (g : Nat) (W H G q tg nu : Int) (fr : List Value) (h : Blk w g 92 (encV W H G q tg nu fr)) : Calls Tryz.prog 20 #[.pointer (some ⟨g, 0, none⟩)] w fun e w' => e = .returned (.int .i64 nu) ∧ w = w' := by
  have c : w.cell? ⟨g, 5, none⟩ = some (.int .i64 nu) := h.cell 5
  clear h
  go_enter Tryz.func20, Tryz.ntmps20
  go_wp2_with fail
  go_ret
  exact ⟨rfl, rfl⟩
theorem encNumber_nil (w : World) : Calls Tryz.prog 20 #[.pointer none] w fun e w' => e = .returned (.int .i64 0) ∧ w = w' := by
  go_enter Tryz.func20, Tryz.ntmps20
  go_wp2_with fail
  go_ret
  exact ⟨rfl, rfl⟩
theorem encEnd_nil (w : World) : Calls Tryz.prog 22 #[.pointer none] w fun e w' => e = .returned (.tuple #[]) ∧ w = w' := by
  go_enter Tryz.func22, Tryz.ntmps22
  go_wp2_with fail
  go_end0
  exact ⟨rfl, rfl⟩
theorem encEnd (w : World) (g : Nat) (W H G q tg nu : Int) (fr : List Value) (h : Blk w g 92 (encV W H G q tg nu fr)) : Calls Tryz.prog 22 #[.pointer (some ⟨g, 0, none⟩)] w fun e w' => e = .returned (.tuple #[]) ∧ Blk w' g 92 (encV W H G q tg 0 fr) ∧ Mod (· = g) w w' := by
  have c : w.cell? ⟨g, 5, none⟩ = some (.int .i64 nu) := h.cell 5
  have f := h.frozen 5
  have l := h.lt
  have H1 := Lib.hid h
  clear h
  go_enter Tryz.func22, Tryz.ntmps22
  go_wp2_with fail
  go_end0
  exact ⟨rfl, H1.out.put (i := 5) (u := .int .i64 0) rfl, (Mod.refl (fun j => j = g) w).setCell (p := ⟨g, 5, none⟩) (.inl rfl) _⟩
end Go.Proofs.YtmkopcojnibhlaaGreatDoor

/-
  encoder.spot: where a square's blocks lie.
-/
namespace Go.Proofs.YtmkopcojnibhlaaGreatDoor
open Go.RowKit

theorem tup3 {a b c a' b' c' : Int} (h1 : a = a') (h2 : b = b') (h3 : c = c') : Ending.returned (.tuple #[.int .i64 a, .int .i64 b, .int .i64 c]) = Ending.returned (.tuple #[.int .i64 a', .int .i64 b', .int .i64 c']) := by rw [h1, h2, h3]
def placesV : Array Value := #[.int .i64 0, .int .i64 0, .int .i64 0, .int .i64 0, .int .i64 8, .int .i64 0, .int .i64 0, .int .i64 0, .int .i64 8, .int .i64 0, .int .i64 8, .int .i64 8, .int .i64 1, .int .i64 0, .int .i64 0, .int .i64 2, .int .i64 0, .int .i64 0]
/-- What the encoder reads of its package's variable. -/
structure EnvP (w : World) : Prop where
  cells : ∀ i, i < 18 → w.cell? ⟨0, i, none⟩ = placesV[i]?
  lt : 0 < w.heap.size
theorem EnvP.keep {S : Nat → Prop} {w w' : World} (h : EnvP w) (hm : Mod S w w') (h0 : ¬ S 0) : EnvP w' :=
  ⟨fun i hi => (World.cell?_of_block (hm.block 0 h.lt h0)).trans (h.cells i hi), Nat.lt_of_lt_of_le h.lt hm.size⟩
theorem EnvP.quiet {w w' : World} (h : EnvP w) (hm : Mod (fun _ => False) w w') : EnvP w' := h.keep hm (fun h => h)

set_option maxRecDepth 100000 in
set_option maxHeartbeats 2000000 in
theorem eSpot (w : World) (he : EnvP w) (i sx sy : Nat) (hi : i < 6) (hx : sx ≤ 256) (hy : sy ≤ 256) :
    Calls Tryz.prog 130 #[.int .i64 (i : Int), .int .i64 (sx : Int), .int .i64 (sy : Int)] w fun e w' => e = .returned (.tuple #[.int .i64 (pcP i : Int), .int .i64 (pcX (16 * sx) i : Int), .int .i64 (pcY (16 * sy) i : Int)]) ∧ Mod (fun _ => False) w w' := by
  have hc := he.cells
  clear he
  have h6 : i = 0 ∨ i = 1 ∨ i = 2 ∨ i = 3 ∨ i = 4 ∨ i = 5 := by omega
  rcases h6 with rfl | rfl | rfl | rfl | rfl | rfl
  all_goals
    have c0 := hc 0 (by omega)
    have c1 := hc 1 (by omega)
    have c2 := hc 2 (by omega)
    have c3 := hc 3 (by omega)
    have c4 := hc 4 (by omega)
    have c5 := hc 5 (by omega)
    have c6 := hc 6 (by omega)
    have c7 := hc 7 (by omega)
    have c8 := hc 8 (by omega)
    have c9 := hc 9 (by omega)
    have c10 := hc 10 (by omega)
    have c11 := hc 11 (by omega)
    have c12 := hc 12 (by omega)
    have c13 := hc 13 (by omega)
    have c14 := hc 14 (by omega)
    have c15 := hc 15 (by omega)
    have c16 := hc 16 (by omega)
    have c17 := hc 17 (by omega)
    simp only [placesV] at c0 c1 c2 c3 c4 c5 c6 c7 c8 c9 c10 c11 c12 c13 c14 c15 c16 c17
    clear hc
    go_enter Tryz.func130, Tryz.ntmps130
    go_upto_region 4 with (fail)
    clear c0 c1 c2 c3 c4 c5 c6 c7 c8 c9 c10 c11 c12 c13 c14 c15 c16 c17
    go_quiet (fail)
    go_wp2_with fail
    go_ret3
    refine ⟨tup3 ?_ ?_ ?_, ((Mod.refl _ _).alloc _).drewN _⟩ <;> simp only [pcP, pcX, pcY] <;> (try simp) <;> (try omega)
end Go.Proofs.YtmkopcojnibhlaaGreatDoor

/-
  encoder.lay: a block is laid in a plane.
-/
namespace Go.Proofs.YtmkopcojnibhlaaGreatDoor
open Go.RowKit

def ElRel (w : World) (p gq W x y : Nat) (pv : Array Value) (A : Option Addr) (c : Nat) (pix l : List UInt8) (v12 : Value) (wr : World) : Prop :=
  ∃ k : Nat, k ≤ 8 ∧ v12 = .int .i64 (k : Int) ∧ BytesIn wr A 64 c l ∧ Sat (· = gq) w wr [⟨p, 38, pv⟩, ⟨gq, 5, (u8s (layTo W x y l pix k)).toArray⟩] []

set_option maxRecDepth 100000 in
set_option maxHeartbeats 4000000 in
theorem eLay (w : World) (W H n gq : Nat) (pix : List UInt8) (hsd : sidesB W H = true) (hn : n = W * H) (hq : Blk w gq 5 (u8s pix).toArray) (hql : pix.length = n) (x y : Nat) (hx : x + 8 ≤ W) (hy : y + 8 ≤ H)
    (A : Option Addr) (c : Nat) (l : List UInt8) (hin : BytesIn w A 64 c l) (hc : 64 ≤ c) (hA : ∀ ad, A = some ad → ad.block ≠ gq) :
    Calls Tryz.prog 142 #[.agg #[.int .i64 (W : Int), .int .i64 (H : Int), .slice (some ⟨gq, 0, none⟩) n n], .int .i64 (x : Int), .int .i64 (y : Int), .slice A 64 c] w fun e w' => e = .returned (.tuple #[]) ∧ Blk w' gq 5 (u8s (layTo W x y l pix 8)).toArray ∧ Mod (· = gq) w w' := by
  obtain ⟨hnle, _, hW, _, hH, _⟩ := area_le hsd
  rw [← hn] at hnle
  have hll : l.length = 64 := hin.1
  have HS0 := (Sat.own1 hq).alloc 38 #[.int .i64 (W : Int), .int .i64 (H : Int), .slice (some ⟨gq, 0, none⟩) n n] rfl
  have hin0 := hin.quiet ((Mod.refl (fun _ => False) w).alloc (.cells #[.int .i64 (W : Int), .int .i64 (H : Int), .slice (some ⟨gq, 0, none⟩) n n] 38))
  have H0 := Lib.hid (And.intro HS0 (And.intro hin0 (And.intro hn (And.intro hql (And.intro hA hll)))))
  obtain ⟨b, off, rfl, _⟩ := hin.place (by omega)
  clear HS0 hin0 hn hql hA hll hsd hq hin
  go_enter Tryz.func142, Tryz.ntmps142
  go_wp2_with fail
  go_loopw [12] (ElRel w w.heap.size gq W x y #[.int .i64 (W : Int), .int .i64 (H : Int), .slice (some ⟨gq, 0, none⟩) n n] (some ⟨b, off, none⟩) c pix l) (fun s _ => 8 - (intOf s).toNat)
  case atStart => exact ⟨0, by omega, rfl, H0.out.2.1, H0.out.1⟩
  case round =>
    obtain ⟨k, hk, rfl, hin, HS⟩ := hrel
    rename World => wr
    by_cases hlt : k < 8
    · have d1 : decide ((k : Int) < 8) = true := decide_eq_true (by omega)
      have HSd := HS.drew
      have pb := HSd.own_ 0 rfl
      have hdst := HSd.own_ 1 rfl
      dsimp only at pb hdst
      obtain ⟨pc, pf⟩ := pb.both
      obtain ⟨m, hm⟩ : ∃ m, m = (y + k) * W := ⟨_, rfl⟩
      have hmn : m + x + 8 ≤ n := by rw [hm, H0.out.2.2.1]; exact lay_in hx hy hlt
      obtain ⟨row, hrow⟩ : ∃ row, row = m + x := ⟨_, rfl⟩
      obtain ⟨k8, hk8⟩ : ∃ k8, k8 = k * 8 := ⟨_, rfl⟩
      have eR : IntKind.i64.wrap (IntKind.i64.wrap (IntKind.i64.wrap ((y : Int) + (k : Int)) * (W : Int)) + (x : Int)) = (row : Int) := by
        rw [IntWalk.i64_in ((y : Int) + (k : Int)) ⟨by omega, by omega⟩, show ((y : Int) + (k : Int)) * (W : Int) = (m : Int) by rw [hm]; push_cast; rfl, IntWalk.i64_in (m : Int) ⟨by omega, by omega⟩, IntWalk.i64_in _ ⟨by omega, by omega⟩, hrow]
        push_cast
        rfl
      have e2 : IntKind.i64.wrap ((k : Int) * 8) = (k8 : Int) := by rw [IntWalk.i64_in _ ⟨by omega, by omega⟩]; omega
      have e3 : IntKind.i64.wrap (IntKind.i64.wrap ((k : Int) + 1) * 8) = (k8 : Int) + 8 := by rw [IntWalk.i64_in ((k : Int) + 1) ⟨by omega, by omega⟩, IntWalk.i64_in _ ⟨by omega, by omega⟩]; omega
      have hr8 : row + 8 ≤ n := by omega
      have q1 : (0 : Int) ≤ (row : Int) := by omega
      have q2 : (row : Int) ≤ (n : Int) := by omega
      have q4 : ¬ n = row := by omega
      have q5 : (0 : Int) ≤ (k8 : Int) := by omega
      have q6 : (k8 : Int) ≤ (k8 : Int) + 8 := by omega
      have q7 : (k8 : Int) + 8 ≤ (c : Int) := by omega
      have q8 : ¬ c = k8 := by omega
      have hsrc := ((hin.quiet ((Mod.refl (fun _ => False) wr).drew)).part (lo := k8) (m := 8) (by omega))
      have hll2 : (layTo W x y l pix k).length = n := (layTo_length hx hy (H0.out.2.2.2.1.trans H0.out.2.2.1) H0.out.2.2.2.2.2 k (by omega)).trans H0.out.2.2.1.symm
      have hfit : row + 8 ≤ (u8s (layTo W x y l pix k)).length := by rw [u8s_length, hll2]; omega
      have hlr := lay_row H0.out.2.2.2.2.2 hlt
      rw [← hk8] at hlr
      have HY := Lib.hid (And.intro hsrc (And.intro hdst (And.intro hfit hlr)))
      have HK := Lib.hid (And.intro HSd (And.intro (hin.quiet ((Mod.refl (fun _ => False) wr).drew)) (And.intro hrow (And.intro hk8 hm))))
      clear hsrc hdst hll2 hfit hlr HS HSd hin hrow hk8 hm pb
      go_upto_region 4 with (fail)
      refine wp_region_plan [18] [] [0, 1, 2, 3, 4, 5, 6, 7, 8, 9, 10, 11, 12, 13, 14, 15, 16, 17, 18] (by kernel_rfl) (by kernel_rfl) (fun _ _ _ d _ h => by cases d <;> exact h) ?_
      iterate 18 (refine plan_still rfl rfl (fun K hK => ?_); go_simp; refine hK _ ?_; clear hK K)
      refine plan_loud rfl rfl (fun K hK => ?_)
      refine step_copy_blk rfl (.tmp 25) (.tmp 32) _ _ rfl 5 Tryz.underlying36 (by kernel_rfl) (some ⟨gq, row, none⟩) (n - row) (n - row) (some ⟨b, off + k8, none⟩) 8 (c - k8) _ (by simp [Act.eval]) (by simp [Act.eval]; omega) HY.out.1 gq row _ 5 HY.out.2.1 8 (Nat.min_eq_left (by omega : 8 ≤ n - row)).symm (fun _ => rfl) HY.out.2.2.1 (u8s_one _) ?_
      intro w5 hb5 hm5
      have HB5 := Lib.hid (And.intro hb5 hm5)
      clear hb5 hm5
      refine hK _ _ ?_
      clear hK K
      refine plan_done ?_
      go_wp2_with fail
      go_roundw
      case rel =>
        have hb5 := HB5.out.1
        have hm5 := HB5.out.2
        rw [List.take_of_length_le (by rw [u8s_length, HY.out.2.2.2]; exact Nat.le_refl _), u8s_splice] at hb5
        have hly : layTo W x y l pix (k + 1) = splice (layTo W x y l pix k) row (List.take 8 (List.drop k8 l)) := by
          show splice _ _ _ = _
          rw [HK.out.2.2.1, HK.out.2.2.2.1, HK.out.2.2.2.2]
        refine ⟨k + 1, by omega, by go_num, HK.out.2.1.mod hm5 (by intro _ ad e; exact H0.out.2.2.2.2.1 ad e), ?_⟩
        rw [hly]
        exact Sat.turn hm5 HK.out.1 hb5 (.there .here)
      case measure => simp [intOf]; omega
    · obtain rfl : k = 8 := by omega
      have HK := Lib.hid HS
      clear HS
      go_wp2_with fail
      go_end0
      exact ⟨rfl, HK.out.own_ 1 rfl, HK.out.mod⟩
end Go.Proofs.YtmkopcojnibhlaaGreatDoor

/-
  motion: how far two blocks are apart.
-/
namespace Go.Proofs.YtmkopcojnibhlaaGreatDoor
open Go.RowKit

set_option maxRecDepth 100000 in
theorem mSize (w : World) (v : Int) (hv : -1073741824 ≤ v ∧ v ≤ 1073741824) : Calls Tryz.prog 237 #[.int .i64 v] w fun e w' => e = .returned (.int .i64 ((v.natAbs : Nat) : Int)) ∧ w = w' := by
  obtain ⟨hv1, hv2⟩ := hv
  have hw : IntKind.i64.wrap (-v) = -v := IntWalk.i64_in _ ⟨by omega, by omega⟩
  have e1 : max v (-v) = ((v.natAbs : Nat) : Int) := by omega
  have HE := Lib.hid e1
  clear e1
  by_cases h : v < 0
  · have e2 : max v (-v) = -v := by omega
    go_enter Tryz.func237, Tryz.ntmps237
    go_wp2_with fail
    go_ret
    exact ⟨by rw [← HE.out, e2]; rfl, rfl⟩
  · have e2 : max v (-v) = v := by omega
    go_enter Tryz.func237, Tryz.ntmps237
    go_wp2_with fail
    go_ret
    exact ⟨by rw [← HE.out, e2]; rfl, rfl⟩
def farTo (a b : List UInt8) : Nat → Nat
  | 0 => 0
  | k + 1 => farTo a b k + (((a.getD k 0).toNat : Int) - ((b.getD k 0).toNat : Int)).natAbs
theorem farTo_le (a b : List UInt8) (k : Nat) : farTo a b k ≤ k * 255 := by
  induction k with
  | zero => exact Nat.le_refl _
  | succ k ih =>
    have hx : (a.getD k 0).toNat < 256 := UInt8.toNat_lt _
    have hy : (b.getD k 0).toNat < 256 := UInt8.toNat_lt _
    unfold farTo
    omega
def FarRel (a b : List UInt8) (n : Nat) (w : World) (v3 v7 : Value) (wr : World) : Prop := ∃ k : Nat, k ≤ n ∧ v7 = .int .i64 (k : Int) ∧ v3 = .int .i64 ((farTo a b k : Nat) : Int) ∧ w = wr

set_option maxRecDepth 100000 in
set_option maxHeartbeats 2000000 in
theorem mApart (w : World) (A : Option Addr) (n c : Nat) (a : List UInt8) (A2 : Option Addr) (c2 : Nat) (b : List UInt8) (hin : BytesIn w A n c a) (hin2 : BytesIn w A2 n c2 b) (hn0 : 0 < n) (hn : n ≤ 4096) :
    Calls Tryz.prog 191 #[.slice A n c, .slice A2 n c2] w fun e w' => e = .returned (.int .i64 ((farTo a b n : Nat) : Int)) ∧ w = w' := by
  obtain ⟨ba, oa, rfl, hba, hca⟩ := hin.place hn0
  obtain ⟨bb, ob2, rfl, hbb, hcb⟩ := hin2.place hn0
  have HC := Lib.hid (And.intro hca hcb)
  clear hca hcb hin hin2
  go_enter Tryz.func191, Tryz.ntmps191
  go_wp2_with fail
  go_loopw [5, 10] (FarRel a b n w) (fun _ i _ => n - (intOf i).toNat)
  case atStart => exact ⟨0, by omega, rfl, rfl, rfl⟩
  case round =>
    obtain ⟨k, hk, rfl, rfl, rfl⟩ := hrel
    by_cases hlt : k < n
    · have hck := HC.out.1 k hlt
      have hck2 := HC.out.2 k hlt
      have hx : (a.getD k 0).toNat < 256 := UInt8.toNat_lt _
      have hy : (b.getD k 0).toNat < 256 := UInt8.toNat_lt _
      have hfl := farTo_le a b k
      have HF : Hid (farTo a b (k + 1) = farTo a b k + (((a.getD k 0).toNat : Int) - ((b.getD k 0).toNat : Int)).natAbs) := rfl
      generalize (a.getD k 0).toNat = x at *
      generalize (b.getD k 0).toNat = y at *
      generalize farTo a b k = s at *
      have i1 : (0 : Int) ≤ (k : Int) := by omega
      have i2 : (k : Int) < (n : Int) := by omega
      go_wp2_with fail
      refine (mSize _ _ ⟨by omega, by omega⟩).mono ?_
      rintro e w5 ⟨rfl, rfl⟩
      obtain ⟨z, hz⟩ : ∃ z, z = ((x : Int) - (y : Int)).natAbs := ⟨_, rfl⟩
      have hz8 : z < 256 := by omega
      rw [← hz]
      rw [← hz] at HF
      have HZ := Lib.hid hz
      clear hz
      go_wp2_with fail
      go_roundw
      case rel => exact ⟨k + 1, by omega, by go_num, by rw [HF.out]; go_num, rfl⟩
      case measure => simp [intOf]; omega
    · obtain rfl : k = n := by omega
      go_wp2_with fail
      go_ret
      exact ⟨rfl, rfl⟩
end Go.Proofs.YtmkopcojnibhlaaGreatDoor
