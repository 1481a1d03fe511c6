/-
  The reference's decoder: a square.
-/
import Derived.Test.YteppnjgfebcmjaaGreatM41
import Derived.Test.YteppnjgfebcmjaaGreatM42
import Derived.Test.YteppnjgfebcmjaaGreatM32
namespace Go.Proofs.YteppnjgfebcmjaaGreat
open Go.RowKit

def FSqC1 (w0 : World) (mg bk g rb : Nat) (P : Nat → Prop) (L : List Ent) (dv : Array Value) (K : Bool) (s : St) (v13 : Value) (wx : World) : Prop :=
  ∃ (kv : Int) (ok : Bool) (s1 : St), v13 = .int .i64 kv ∧ SqT w0 wx mg bk g rb P L dv ok s1 ∧ ((ok = true ∧ ∃ kd : Nat, kv = (kd : Int) ∧ skind K s = some (kd, s1)) ∨ (ok = false ∧ skind K s = none))
def FSqC2 (w0 : World) (mg bk g rb : Nat) (P : Nat → Prop) (vb : Nat) (L : List Ent) (dv : Array Value) (d : Dim) (ahd : Pix) (K : Bool) (kv Q : Int) (x y : Nat) (f : Pix) (r : Option (Pix × St)) (wx : World) : Prop :=
  ∃ (a b : Int) (ok : Bool) (s2 : St), SqT w0 wx mg bk g rb P (⟨vb, 125, #[.int .i64 a, .int .i64 b]⟩ :: L) dv ok s2 ∧
    ((ok = true ∧ ((0 ≤ kv ∧ kv < 3) ∧ (K = true → kv = 2)) ∧ ((-128 ≤ a ∧ a ≤ 128) ∧ (-128 ≤ b ∧ b ≤ 128)) ∧ blkFrom d ahd kv Q x y a b 6 f s2 = r) ∨ (ok = false ∧ r = none))

def FSqR (w0 : World) (mg bk g rb : Nat) (P : Nat → Prop) (pb vb zb hb fb : Nat) (hv : Array Value) (dv : Array Value) (B : Nat) (d : Dim) (ahd : Pix) (K : Bool) (kv Q : Int) (x y : Nat) (a b : Int) (r : Option (Pix × St)) (v16 : Value) (wr : World) : Prop :=
  ∃ (i : Nat) (ok : Bool) (b0 k0 b1 k1 b2 k2 : Nat) (f : Pix) (s : St), i ≤ 6 ∧ v16 = .int .i64 (i : Int) ∧
    SqT w0 wr mg bk g rb P [⟨pb, 131, (plL x y).toArray⟩, ⟨vb, 125, #[.int .i64 a, .int .i64 b]⟩, ⟨zb, 37, #[.int .i64 0, .int .i64 0, .slice none 0 0, .int .i64 0, .int .i64 0, .slice none 0 0, .int .i64 0, .int .i64 0, .slice none 0 0]⟩, ⟨hb, 62, hv⟩, ⟨fb, 37, #[.int .i64 (d.W : Int), .int .i64 (d.H : Int), .slice (some ⟨b0, 0, none⟩) d.nY k0, .int .i64 (d.W2 : Int), .int .i64 (d.H2 : Int), .slice (some ⟨b1, 0, none⟩) d.nC k1, .int .i64 (d.W2 : Int), .int .i64 (d.H2 : Int), .slice (some ⟨b2, 0, none⟩) d.nC k2]⟩] dv ok s ∧
    ((ok = true ∧ FrB wr B d b0 k0 b1 k1 b2 k2 f ∧ (((0 ≤ kv ∧ kv < 3) ∧ (K = true → kv = 2)) ∧ ((-128 ≤ a ∧ a ≤ 128) ∧ (-128 ≤ b ∧ b ≤ 128))) ∧ blkFrom d ahd kv Q x y a b (6 - i) f s = r) ∨ (ok = false ∧ r = none))
theorem pl_idx (pb : Nat) {i : Nat} (hi : i < 6) : ∀ w, (Instr.indexAt 127 (.slice (some ⟨pb, 0, none⟩) 6 6) (.int .i64 (i : Int))).run Tryz.prog w = .ok (.pointer (some ⟨pb, i * 3, none⟩)) w := by
  have h6 : i = 0 ∨ i = 1 ∨ i = 2 ∨ i = 3 ∨ i = 4 ∨ i = 5 := by omega
  rcases h6 with rfl | rfl | rfl | rfl | rfl | rfl <;> intro w <;> kernel_rfl
theorem pl_cell {w : World} {pb x y i : Nat} (h : Blk w pb 131 (plL x y).toArray) (hi : i < 6) : w.cell? ⟨pb, i * 3, none⟩ = some (.int .i64 (pcP i : Int)) ∧ w.cell? ⟨pb, i * 3 + 1, none⟩ = some (.int .i64 (pcX x i : Int)) ∧ w.cell? ⟨pb, i * 3 + 2, none⟩ = some (.int .i64 (pcY y i : Int)) := by
  have h6 : i = 0 ∨ i = 1 ∨ i = 2 ∨ i = 3 ∨ i = 4 ∨ i = 5 := by omega
  rcases h6 with rfl | rfl | rfl | rfl | rfl | rfl <;> exact ⟨h.cell _, h.cell _, h.cell _⟩
def SqS (mg fb pb hb vb : Nat) (dv fv : Array Value) (x y : Nat) (hv vv : Array Value) (w' : World) : Prop := Blk w' fb 37 fv ∧ Blk w' pb 131 (plL x y).toArray ∧ Blk w' mg 45 dv ∧ Blk w' vb 125 vv ∧ Blk w' hb 62 hv
theorem SqS.quiet {mg fb pb hb vb : Nat} {dv fv : Array Value} {x y : Nat} {hv vv : Array Value} {w w' : World} (h : SqS mg fb pb hb vb dv fv x y hv vv w) (hm : Mod (fun _ => False) w w') : SqS mg fb pb hb vb dv fv x y hv vv w' :=
  ⟨h.1.keep hm (fun h => h), h.2.1.keep hm (fun h => h), h.2.2.1.keep hm (fun h => h), h.2.2.2.1.keep hm (fun h => h), h.2.2.2.2.keep hm (fun h => h)⟩
theorem SqT.s {w0 wr : World} {mg bk g rb : Nat} {P : Nat → Prop} {pb vb zb hb fb : Nat} {x y : Nat} {vv zv hv fv dv : Array Value} {ok : Bool} {s : St} (h : SqT w0 wr mg bk g rb P [⟨pb, 131, (plL x y).toArray⟩, ⟨vb, 125, vv⟩, ⟨zb, 37, zv⟩, ⟨hb, 62, hv⟩, ⟨fb, 37, fv⟩] dv ok s) : SqS mg fb pb hb vb dv fv x y hv vv wr :=
  ⟨h.sat.own_ 4 rfl, h.sat.own_ 0 rfl, h.sat.old_ 0 rfl, h.sat.own_ 1 rfl, h.sat.own_ 3 rfl⟩
theorem stepB_0 (d : Dim) (ahd : Pix) (Q : Int) (pl x y : Nat) (vx vy : Int) (f : Pix) (s : St) : stepB d ahd 0 Q pl x y vx vy f s = some (f.set pl (layTo (d.wOf pl) x y (smoved (d.wOf pl) (d.hOf pl) (ahd.get pl) x y pl vx vy) (f.get pl) 8), s) := rfl
theorem stepB_1 (d : Dim) (ahd : Pix) (Q : Int) (pl x y : Nat) (vx vy : Int) (f : Pix) (s : St) : stepB d ahd 1 Q pl x y vx vy f s = (sblock (if 0 < pl then 4 else 2) s).bind fun b => (buildL (smoved (d.wOf pl) (d.hOf pl) (ahd.get pl) x y pl vx vy) b.1 Q).map fun l => (f.set pl (layTo (d.wOf pl) x y l (f.get pl) 8), b.2) := by
  show (((sblock (if 0 < pl then 4 else 2) s).bind fun b => (buildL (smoved (d.wOf pl) (d.hOf pl) (ahd.get pl) x y pl vx vy) b.1 Q).map fun l => (l, b.2)).map _) = _
  cases sblock (if 0 < pl then 4 else 2) s with
  | none => rfl
  | some c =>
    simp only [Option.bind_some]
    cases buildL (smoved (d.wOf pl) (d.hOf pl) (ahd.get pl) x y pl vx vy) c.1 Q <;> rfl
theorem stepB_2 (d : Dim) (ahd : Pix) (Q : Int) (pl x y : Nat) (vx vy : Int) (f : Pix) (s : St) : stepB d ahd 2 Q pl x y vx vy f s = (sone 0 4 s).bind fun m => (sblock (if 0 < pl then 4 else 2) m.2).bind fun b => (buildL (guessL (d.wOf pl) (f.get pl) x y m.1) b.1 Q).map fun l => (f.set pl (layTo (d.wOf pl) x y l (f.get pl) 8), b.2) := by
  show ((((sone 0 4 s).map fun m => (guessL (d.wOf pl) (f.get pl) x y m.1, m.2)).bind fun a => (sblock (if 0 < pl then 4 else 2) a.2).bind fun b => (buildL a.1 b.1 Q).map fun l => (l, b.2)).map _) = _
  cases sone 0 4 s with
  | none => rfl
  | some m =>
    simp only [Option.map_some, Option.bind_some]
    cases sblock (if 0 < pl then 4 else 2) m.2 with
    | none => rfl
    | some c =>
      simp only [Option.bind_some]
      cases buildL (guessL (d.wOf pl) (f.get pl) x y m.1) c.1 Q <;> rfl
/-- A frame laid in its box. -/
theorem SqT.lay {w0 wr : World} {mg bk g rb : Nat} {P : Nat → Prop} {e1 e2 e3 e4 : Ent} {fb : Nat} {x0 x1 x2 x3 x4 x5 x6 x7 x8 : Value} {dv : Array Value} {ok : Bool} {s : St} (h : SqT w0 wr mg bk g rb P [e1, e2, e3, e4, ⟨fb, 37, #[x0, x1, x2, x3, x4, x5, x6, x7, x8]⟩] dv ok s) (k : SqK w0 mg bk g rb P dv) (hfb : w0.heap.size ≤ fb) (d : Dim) (b0 k0 b1 k1 b2 k2 : Nat) :
    SqT w0 ((((((((((wr).setCell ⟨fb, 0, none⟩ (.int .i64 (d.W : Int))).setCell ⟨fb, 1, none⟩ (.int .i64 (d.H : Int))).setCell ⟨fb, 2, none⟩ (.slice (some ⟨b0, 0, none⟩) d.nY k0)).setCell ⟨fb, 3, none⟩ (.int .i64 (d.W2 : Int))).setCell ⟨fb, 4, none⟩ (.int .i64 (d.H2 : Int))).setCell ⟨fb, 5, none⟩ (.slice (some ⟨b1, 0, none⟩) d.nC k1)).setCell ⟨fb, 6, none⟩ (.int .i64 (d.W2 : Int))).setCell ⟨fb, 7, none⟩ (.int .i64 (d.H2 : Int))).setCell ⟨fb, 8, none⟩ (.slice (some ⟨b2, 0, none⟩) d.nC k2)) mg bk g rb P [e1, e2, e3, e4, ⟨fb, 37, #[.int .i64 (d.W : Int), .int .i64 (d.H : Int), .slice (some ⟨b0, 0, none⟩) d.nY k0, .int .i64 (d.W2 : Int), .int .i64 (d.H2 : Int), .slice (some ⟨b1, 0, none⟩) d.nC k1, .int .i64 (d.W2 : Int), .int .i64 (d.H2 : Int), .slice (some ⟨b2, 0, none⟩) d.nC k2]⟩] dv ok s ∧ ∀ B f, FrB wr B d b0 k0 b1 k1 b2 k2 f → FrB ((((((((((wr).setCell ⟨fb, 0, none⟩ (.int .i64 (d.W : Int))).setCell ⟨fb, 1, none⟩ (.int .i64 (d.H : Int))).setCell ⟨fb, 2, none⟩ (.slice (some ⟨b0, 0, none⟩) d.nY k0)).setCell ⟨fb, 3, none⟩ (.int .i64 (d.W2 : Int))).setCell ⟨fb, 4, none⟩ (.int .i64 (d.H2 : Int))).setCell ⟨fb, 5, none⟩ (.slice (some ⟨b1, 0, none⟩) d.nC k1)).setCell ⟨fb, 6, none⟩ (.int .i64 (d.W2 : Int))).setCell ⟨fb, 7, none⟩ (.int .i64 (d.H2 : Int))).setCell ⟨fb, 8, none⟩ (.slice (some ⟨b2, 0, none⟩) d.nC k2)) B d b0 k0 b1 k1 b2 k2 f := by
  have hz := h.sat.own_ 4 rfl
  dsimp only at hz
  have hp := fr_put9 hz (.int .i64 (d.W : Int)) (.int .i64 (d.H : Int)) (.slice (some ⟨b0, 0, none⟩) d.nY k0) (.int .i64 (d.W2 : Int)) (.int .i64 (d.H2 : Int)) (.slice (some ⟨b1, 0, none⟩) d.nC k1) (.int .i64 (d.W2 : Int)) (.int .i64 (d.H2 : Int)) (.slice (some ⟨b2, 0, none⟩) d.nC k2)
  exact ⟨h.turn k hp.2 hp.1 (.there (.there (.there (.there .here)))) hfb, fun B f hf => hf.mod hp.2 (fun j e => .inr ⟨_, _, by subst e; exact hz, by decide⟩)⟩
theorem SqT.put {w0 wr : World} {mg bk g rb : Nat} {P : Nat → Prop} {L L' : List Ent} {dv : Array Value} {ok : Bool} {s : St} {gq i : Nat} {u : Value} (h : SqT w0 wr mg bk g rb P L dv ok s) (k : SqK w0 mg bk g rb P dv) (hu : Upd gq i u L L') (hg : w0.heap.size ≤ gq) : SqT w0 (wr.setCell ⟨gq, i, none⟩ u) mg bk g rb P L' dv ok s := by
  obtain ⟨h1, h2, h3⟩ := k.lt
  have hp : Mod (fun j => j = gq) wr (wr.setCell ⟨gq, i, none⟩ u) := (Mod.refl (fun j => j = gq) wr).setCell (p := ⟨gq, i, none⟩) (.inl rfl) u
  exact ⟨h.sat.put hu, h.rd.keep hp (by omega), fun e => (h.rs e).mod hp (by omega) (by omega) (fun j hj e => by have := k.pw j hj; omega)⟩
theorem svec_none1 {s : St} (h : ((ssigned 6 s).bind fun x => if x.1 < -128 ∨ 128 < x.1 then none else some x) = none) : svec s = none := by
  unfold svec
  rw [vecTo_2]
  cases hq : ssigned 6 s with
  | none => rfl
  | some x =>
    rw [hq] at h
    simp only [Option.bind_some] at h ⊢
    split at h
    · rename_i hb
      rw [if_pos hb]
    · cases h
theorem svec_some1 {s s3 : St} {v : Int} (h : ((ssigned 6 s).bind fun x => if x.1 < -128 ∨ 128 < x.1 then none else some x) = some (v, s3)) :
    svec s = ((ssigned 7 s3).bind fun x => if x.1 < -128 ∨ 128 < x.1 then none else some x).map fun y => ((v, y.1), y.2) := by
  unfold svec
  rw [vecTo_2]
  cases hq : ssigned 6 s with
  | none => rw [hq] at h; cases h
  | some x =>
    rw [hq] at h
    simp only [Option.bind_some] at h ⊢
    split at h
    · cases h
    · rename_i hb
      injection h with h
      subst h
      rw [if_neg hb, vecTo_1]
      cases ssigned 7 s3 with
      | none => rfl
      | some y =>
        simp only [Option.bind_some]
        split
        · rfl
        · rfl
theorem squareS_none {d : Dim} {ahd : Pix} {K : Bool} {Q : Int} {x y : Nat} {f : Pix} {s : St} (h : skind K s = none) : squareS d ahd K Q x y f s = none := by
  unfold squareS
  rw [h]
  rfl
theorem squareS_vec {d : Dim} {ahd : Pix} {K : Bool} {Q : Int} {x y : Nat} {f : Pix} {s s1 : St} {kd : Nat} (h : skind K s = some (kd, s1)) : squareS d ahd K Q x y f s = (skvec kd s1).bind fun v => blkFrom d ahd (kd : Int) Q x y v.1.1 v.1.2 6 f v.2 := by
  unfold squareS
  rw [h]
  rfl

set_option maxRecDepth 100000 in
set_option maxHeartbeats 4000000 in
theorem fRSquare (w : World) (mg bk g rb : Nat) (P : Nat → Prop) (hi : RId P bk g rb) (hPw : ∀ j, P j → j < w.heap.size) (s : St) (h : RSAt w bk g P s) (hr : Blk w rb 75 (rdrV bk g true))
    (B : Nat) (hB : B ≤ w.heap.size) (d : Dim) (hd : d.Ok) (hs : d.nY ≤ 1048576) (b0 k0 b1 k1 b2 k2 : Nat) (f : Pix) (hf : FrB w B d b0 k0 b1 k1 b2 k2 f)
    (G nx : Int) (fr : List Value) (hm : Blk w mg 45 (rdecV d.W d.H G nx fr)) (K : Bool) (N Q : Int) (c0 e0 c1 e1 c2 e2 : Nat) (ahd : Pix) (hA : K = false → fr = frV d c0 e0 c1 e1 c2 e2 ∧ FrB w 0 d c0 e0 c1 e1 c2 e2 ahd)
    (x y : Nat) (hx : x + 16 ≤ d.W) (hy : y + 16 ≤ d.H) :
    Calls Tryz.prog 33 #[.pointer (some ⟨mg, 0, none⟩), .pointer (some ⟨rb, 0, none⟩), .agg (frV d b0 k0 b1 k1 b2 k2).toArray, .agg #[.bool K, .int .i64 N, .int .i64 Q], .int .i64 (x : Int), .int .i64 (y : Int)] w
      (RBlkPost w bk g rb P B d (squareS d ahd K Q x y f s)) := by
  have hk := SqK.of hi hPw h hr hm
  have h0 : SqT w w mg bk g rb P [] (rdecV d.W d.H G nx fr) true s := ⟨Sat.one _ hm, hr, fun _ => h⟩
  have h4 := (((h0.grew ((Mod.refl _ w).alloc (.cells #[.int .i64 (d.W : Int), .int .i64 (d.H : Int), .slice (some ⟨b0, 0, none⟩) d.nY k0, .int .i64 (d.W2 : Int), .int .i64 (d.H2 : Int), .slice (some ⟨b1, 0, none⟩) d.nC k1, .int .i64 (d.W2 : Int), .int .i64 (d.H2 : Int), .slice (some ⟨b2, 0, none⟩) d.nC k2] 37)) (Blk.new w 37 #[.int .i64 (d.W : Int), .int .i64 (d.H : Int), .slice (some ⟨b0, 0, none⟩) d.nY k0, .int .i64 (d.W2 : Int), .int .i64 (d.H2 : Int), .slice (some ⟨b1, 0, none⟩) d.nC k1, .int .i64 (d.W2 : Int), .int .i64 (d.H2 : Int), .slice (some ⟨b2, 0, none⟩) d.nC k2]) (Nat.le_refl _)).grew ((Mod.refl _ _).alloc (.cells #[.bool K, .int .i64 N, .int .i64 Q] 62)) (gq := w.heap.size + 1) (by simpa using Blk.new (w.alloc (.cells #[.int .i64 (d.W : Int), .int .i64 (d.H : Int), .slice (some ⟨b0, 0, none⟩) d.nY k0, .int .i64 (d.W2 : Int), .int .i64 (d.H2 : Int), .slice (some ⟨b1, 0, none⟩) d.nC k1, .int .i64 (d.W2 : Int), .int .i64 (d.H2 : Int), .slice (some ⟨b2, 0, none⟩) d.nC k2] 37)) 62 #[.bool K, .int .i64 N, .int .i64 Q]) (by simp)).grew ((Mod.refl _ _).alloc (.cells #[.int .i64 0, .int .i64 0, .slice none 0 0, .int .i64 0, .int .i64 0, .slice none 0 0, .int .i64 0, .int .i64 0, .slice none 0 0] 37)) (gq := w.heap.size + 1 + 1) (by simpa using Blk.new ((w.alloc (.cells #[.int .i64 (d.W : Int), .int .i64 (d.H : Int), .slice (some ⟨b0, 0, none⟩) d.nY k0, .int .i64 (d.W2 : Int), .int .i64 (d.H2 : Int), .slice (some ⟨b1, 0, none⟩) d.nC k1, .int .i64 (d.W2 : Int), .int .i64 (d.H2 : Int), .slice (some ⟨b2, 0, none⟩) d.nC k2] 37)).alloc (.cells #[.bool K, .int .i64 N, .int .i64 Q] 62)) 37 #[.int .i64 0, .int .i64 0, .slice none 0 0, .int .i64 0, .int .i64 0, .slice none 0 0, .int .i64 0, .int .i64 0, .slice none 0 0]) (by simp)).grew ((Mod.refl _ _).alloc (.cells #[.int .i64 0, .int .i64 0] 125)) (gq := w.heap.size + 1 + 1 + 1) (by simpa using Blk.new (((w.alloc (.cells #[.int .i64 (d.W : Int), .int .i64 (d.H : Int), .slice (some ⟨b0, 0, none⟩) d.nY k0, .int .i64 (d.W2 : Int), .int .i64 (d.H2 : Int), .slice (some ⟨b1, 0, none⟩) d.nC k1, .int .i64 (d.W2 : Int), .int .i64 (d.H2 : Int), .slice (some ⟨b2, 0, none⟩) d.nC k2] 37)).alloc (.cells #[.bool K, .int .i64 N, .int .i64 Q] 62)).alloc (.cells #[.int .i64 0, .int .i64 0, .slice none 0 0, .int .i64 0, .int .i64 0, .slice none 0 0, .int .i64 0, .int .i64 0, .slice none 0 0] 37)) 125 #[.int .i64 0, .int .i64 0]) (by simp)
  have H0 := Lib.hid (And.intro hk (And.intro h4 (And.intro hf (And.intro hA (And.intro hd (And.intro hs hB))))))
  clear hi hPw h hr hf hm hA hk h0 h4 hB hd hs
  unfold frV
  go_enter Tryz.func33, Tryz.ntmps33
  go_upto_if 22 with (fail)
  go_cut [13] (fun v13 wx => FSqC1 w mg bk g rb P [⟨w.heap.size + 1 + 1 + 1, 125, #[.int .i64 0, .int .i64 0]⟩, ⟨w.heap.size + 1 + 1, 37, #[.int .i64 0, .int .i64 0, .slice none 0 0, .int .i64 0, .int .i64 0, .slice none 0 0, .int .i64 0, .int .i64 0, .slice none 0 0]⟩, ⟨w.heap.size + 1, 62, #[.bool K, .int .i64 N, .int .i64 Q]⟩, ⟨w.heap.size, 37, #[.int .i64 (d.W : Int), .int .i64 (d.H : Int), .slice (some ⟨b0, 0, none⟩) d.nY k0, .int .i64 (d.W2 : Int), .int .i64 (d.H2 : Int), .slice (some ⟨b1, 0, none⟩) d.nC k1, .int .i64 (d.W2 : Int), .int .i64 (d.H2 : Int), .slice (some ⟨b2, 0, none⟩) d.nC k2]⟩] (rdecV d.W d.H G nx fr) K s v13 wx)
  case first =>
    cases K
    · go_wp2_with fail
      refine (fROne _ bk g rb P H0.out.1.id s 1 3 (by omega) (.inl rfl) (H0.out.2.1.rs rfl) H0.out.2.1.rd).mono ?_
      rintro e w3 ⟨hm3, (⟨hr3, ⟨v, rfl⟩, hrd3⟩ | ⟨v, s3, hr3, rfl, hs3, hrd3⟩)⟩
      · have H3 := Lib.hid (And.intro (H0.out.2.1.step (ok' := false) (s' := s) H0.out.1 (by intro e he; simp at he; rcases he with rfl | rfl | rfl | rfl <;> (dsimp only; omega)) hm3 hrd3 (fun e => by cases e)) hr3)
        clear hm3 hr3 hrd3
        go_wp2_with fail
        go_meet
        exact ⟨v, false, s, rfl, H3.out.1, .inr ⟨rfl, by simpa [skind] using H3.out.2⟩⟩
      · have H3 := Lib.hid (And.intro (H0.out.2.1.step (ok' := true) (s' := s3) H0.out.1 (by intro e he; simp at he; rcases he with rfl | rfl | rfl | rfl <;> (dsimp only; omega)) hm3 hrd3 (fun _ => hs3)) hr3)
        clear hm3 hr3 hrd3 hs3
        go_wp2_with fail
        go_meet
        have hq := H3.out.2
        simp only [Option.map_eq_some_iff] at hq
        obtain ⟨⟨kd, s4⟩, hq, he⟩ := hq
        injection he with he1 he2
        refine ⟨v, true, s3, rfl, H3.out.1, .inl ⟨rfl, kd, he1.symm, ?_⟩⟩
        rw [← he2]
        exact hq
    · go_wp2_with fail
      go_meet
      exact ⟨2, true, s, rfl, H0.out.2.1, .inl ⟨rfl, 2, rfl, rfl⟩⟩
  case rest =>
    obtain ⟨kv, ok, s1, rfl, hT, hcc⟩ := hcut
    rename World => wx
    obtain ⟨rc, rf⟩ := hT.rd.both
    unfold rdrV at rc
    have rl := hT.rd.lt
    have H1 := Lib.hid (And.intro hT hcc)
    clear hT hcc
    go_upto_region 5 with (fail)
    go_cut [32] (fun v32 wy => v32 = .bool (decide (kv = 1) && ok) ∧ wy = wx)
    case first =>
      by_cases h1 : kv = 1
      · have d1 : (kv == 1) = true := by simpa using h1
        have HV := Lib.hid h1
        clear h1
        go_wp2_with fail
        go_meet
        exact ⟨by simp [HV.out], rfl⟩
      · have d1 : (kv == 1) = false := by simpa using h1
        have HV := Lib.hid h1
        clear h1
        go_wp2_with fail
        go_meet
        exact ⟨by simp [HV.out], rfl⟩
    case rest =>
      obtain ⟨rfl, rfl⟩ := hcut
      obtain ⟨tv, htv⟩ : ∃ tv, tv = (decide (kv = 1) && ok) := ⟨_, rfl⟩
      rw [← htv]
      have HTV := Lib.hid htv
      clear htv
      obtain ⟨vc, vf⟩ := (H1.out.1.sat.own_ 0 rfl).both
      have vl := (H1.out.1.sat.own_ 0 rfl).lt
      go_upto_if 32 with (fail)
      go_cut [] (fun wy => FSqC2 w mg bk g rb P (w.heap.size + 1 + 1 + 1) [⟨w.heap.size + 1 + 1, 37, #[.int .i64 0, .int .i64 0, .slice none 0 0, .int .i64 0, .int .i64 0, .slice none 0 0, .int .i64 0, .int .i64 0, .slice none 0 0]⟩, ⟨w.heap.size + 1, 62, #[.bool K, .int .i64 N, .int .i64 Q]⟩, ⟨w.heap.size, 37, #[.int .i64 (d.W : Int), .int .i64 (d.H : Int), .slice (some ⟨b0, 0, none⟩) d.nY k0, .int .i64 (d.W2 : Int), .int .i64 (d.H2 : Int), .slice (some ⟨b1, 0, none⟩) d.nC k1, .int .i64 (d.W2 : Int), .int .i64 (d.H2 : Int), .slice (some ⟨b2, 0, none⟩) d.nC k2]⟩] (rdecV d.W d.H G nx fr) d ahd K kv Q x y f (squareS d ahd K Q x y f s) wy)
      case first =>
        have e := HTV.out
        have hcc := H1.out.2
        cases tv
        · go_wp2_with fail
          go_meet
          refine ⟨0, 0, ok, s1, H1.out.1, ?_⟩
          rcases hcc with ⟨rfl, kd, rfl, hq⟩ | ⟨rfl, hq⟩
          · have hk1 : kd ≠ 1 := by
              intro h1
              subst h1
              simp at e
            have hlt := skind_lt hq
            exact .inl ⟨rfl, ⟨⟨by omega, by omega⟩, fun hK => by have := hlt.2 hK; omega⟩, ⟨⟨by omega, by omega⟩, ⟨by omega, by omega⟩⟩, by rw [squareS_vec hq]; unfold skvec; rw [if_neg hk1]; rfl⟩
          · exact .inr ⟨rfl, squareS_none hq⟩
        · have e2 : decide (kv = 1) = true ∧ ok = true := by simpa using e.symm
          obtain ⟨e3, rfl⟩ := e2
          obtain ⟨kd, rfl, hq⟩ : ∃ kd : Nat, kv = (kd : Int) ∧ skind K s = some (kd, s1) := by
            rcases hcc with ⟨_, h⟩ | ⟨hf, _⟩
            · exact h
            · cases hf
          obtain rfl : kd = 1 := by have := of_decide_eq_true e3; omega
          have hqq := (squareS_vec (d := d) (ahd := ahd) (Q := Q) (x := x) (y := y) (f := f) hq)
          have hlt := skind_lt hq
          have HQ := Lib.hid (And.intro hqq hlt)
          clear e e3 hq hqq hlt rc rf rl hcc
          go_wp2_with fail
          refine (fRSigned _ bk g rb P H0.out.1.id s1 6 (by omega) (H1.out.1.rs rfl) H1.out.1.rd).mono ?_
          rintro e w3 ⟨hm3, (⟨hr3, ⟨v, rfl⟩, hrd3⟩ | ⟨v, s3, hr3, rfl, hs3, hrd3⟩)⟩
          · have HT3 := H1.out.1.step (ok' := false) (s' := s1) H0.out.1 (by intro e he; simp at he; rcases he with rfl | rfl | rfl | rfl <;> (dsimp only; omega)) hm3 hrd3 (fun e => by cases e)
            have H3 := Lib.hid (And.intro HT3 hr3)
            obtain ⟨vc, vf⟩ := (HT3.sat.own_ 0 rfl).both
            have vl := (HT3.sat.own_ 0 rfl).lt
            obtain ⟨rc, rf⟩ := hrd3.both
            unfold rdrV at rc
            have rl := hrd3.lt
            have rl2 := H0.out.1.lt.2.2
            clear hm3 hr3 hrd3 HT3
            go_wp2_with fail
            go_meet
            refine ⟨v, 0, false, s1, H3.out.1.put (i := 0) (u := .int .i64 v) H0.out.1 (.here rfl) (by omega), .inr ⟨rfl, ?_⟩⟩
            rw [HQ.out.1]
            unfold skvec
            rw [if_pos rfl, svec_none1 H3.out.2]
            rfl
          · have HT3 := H1.out.1.step (ok' := true) (s' := s3) H0.out.1 (by intro e he; simp at he; rcases he with rfl | rfl | rfl | rfl <;> (dsimp only; omega)) hm3 hrd3 (fun _ => hs3)
            have hz := HT3.sat.own_ 0 rfl
            dsimp only at hz
            have HT4 := HT3.put (gq := w.heap.size + 1 + 1 + 1) (i := 0) (u := .int .i64 v) H0.out.1 (.here rfl) (by omega)
            have H3 := Lib.hid (And.intro HT4 (svec_some1 hr3))
            obtain ⟨vc, vf⟩ := hz.both
            have vl := hz.lt
            obtain ⟨rc, rf⟩ := hrd3.both
            unfold rdrV at rc
            have rl := hrd3.lt
            have rl2 := H0.out.1.lt.2.2
            clear hm3 hr3 hrd3 HT3 HT4 hz hs3
            go_wp2_with fail
            clear vc vf vl rc rf rl
            refine (fRSigned _ bk g rb P H0.out.1.id s3 7 (by omega) (H3.out.1.rs rfl) H3.out.1.rd).mono ?_
            rintro e w5 ⟨hm5, (⟨hr5, ⟨v5, rfl⟩, hrd5⟩ | ⟨v5, s5, hr5, rfl, hs5, hrd5⟩)⟩
            · have HT5 := H3.out.1.step (ok' := false) (s' := s1) H0.out.1 (by intro e he; simp at he; rcases he with rfl | rfl | rfl | rfl <;> (dsimp only; omega)) hm5 hrd5 (fun e => by cases e)
              obtain ⟨vc, vf⟩ := (HT5.sat.own_ 0 rfl).both
              have vl := (HT5.sat.own_ 0 rfl).lt
              have H5 := Lib.hid (And.intro HT5 hr5)
              clear hm5 hr5 hrd5 HT5
              go_wp2_with fail
              go_meet
              refine ⟨v, v5, false, s1, H5.out.1.put (i := 1) (u := .int .i64 v5) H0.out.1 (.here rfl) (by omega), .inr ⟨rfl, ?_⟩⟩
              rw [HQ.out.1]
              unfold skvec
              rw [if_pos rfl, H3.out.2, H5.out.2]
              rfl
            · have HT5 := H3.out.1.step (ok' := true) (s' := s5) H0.out.1 (by intro e he; simp at he; rcases he with rfl | rfl | rfl | rfl <;> (dsimp only; omega)) hm5 hrd5 (fun _ => hs5)
              obtain ⟨vc, vf⟩ := (HT5.sat.own_ 0 rfl).both
              have vl := (HT5.sat.own_ 0 rfl).lt
              have hv5 : skvec 1 s1 = some ((v, v5), s5) := by
                unfold skvec
                rw [if_pos rfl, H3.out.2, hr5]
                rfl
              have H5 := Lib.hid (And.intro HT5 hv5)
              clear hm5 hr5 hrd5 HT5 hv5 hs5
              go_wp2_with fail
              go_meet
              refine ⟨v, v5, true, s5, H5.out.1.put (i := 1) (u := .int .i64 v5) H0.out.1 (.here rfl) (by omega), .inl ⟨rfl, ⟨⟨by omega, by omega⟩, fun hK => by have := HQ.out.2.2 hK; omega⟩, skvec_bounds H5.out.2, ?_⟩⟩
              rw [HQ.out.1, H5.out.2]
              rfl
      case rest =>
        obtain ⟨a, b, ok2, s2, hT2, hcc2⟩ := hcut
        rename World => wy
        have hdl := area_le H0.out.2.2.2.2.1.sides
        have hx4 : x ≤ 4096 := by omega
        have hy4 : y ≤ 4096 := by omega
        have H2 := Lib.hid (And.intro hT2 hcc2)
        clear hT2 hcc2 hdl rc rf rl vc vf vl
        obtain ⟨R, hR⟩ : ∃ R, R = squareS d ahd K Q x y f s := ⟨_, rfl⟩
        rw [← hR] at H2
        have HR := Lib.hid hR
        clear hR H1 HTV
        go_wp2_with fail
        refine (fPlaces _ x y hx4 hy4).mono ?_
        rintro e w5 ⟨pb, rfl, hpb, lpb, hm5⟩
        have lpw := Nat.le_trans H2.out.1.sat.mod.size lpb
        have hcc5 : (ok2 = true ∧ FrB w5 B d b0 k0 b1 k1 b2 k2 f ∧ (((0 ≤ kv ∧ kv < 3) ∧ (K = true → kv = 2)) ∧ ((-128 ≤ a ∧ a ≤ 128) ∧ (-128 ≤ b ∧ b ≤ 128))) ∧ blkFrom d ahd kv Q x y a b 6 f s2 = R) ∨ (ok2 = false ∧ R = none) := by
          rcases H2.out.2 with ⟨h1, h2, h3, h4⟩ | h
          · exact .inl ⟨h1, (H2.out.1.fr H0.out.1 H0.out.2.2.1).quiet hm5, ⟨h2, h3⟩, h4⟩
          · exact .inr h
        have H5 := Lib.hid (And.intro (H2.out.1.grew hm5 hpb lpb) (And.intro hcc5 lpw))
        clear hm5 hpb lpb hcc5 lpw
        go_wp2_with fail
        go_loopw [16] (FSqR w mg bk g rb P pb (w.heap.size + 1 + 1 + 1) (w.heap.size + 1 + 1) (w.heap.size + 1) w.heap.size #[.bool K, .int .i64 N, .int .i64 Q] (rdecV d.W d.H G nx fr) B d ahd K kv Q x y a b R) (fun s _ => 6 - (intOf s).toNat)
        case atStart => exact ⟨0, ok2, b0, k0, b1, k1, b2, k2, f, s2, by omega, rfl, H5.out.1, H5.out.2.1⟩
        case round =>
          obtain ⟨i, ok3, b0, k0, b1, k1, b2, k2, f1, s3, hi6, rfl, hT3, hcc3⟩ := hrel
          rename World => wr
          obtain ⟨rc, rf⟩ := hT3.rd.both
          unfold rdrV at rc
          have rl := hT3.rd.lt
          obtain ⟨fc, ff⟩ := (hT3.sat.own_ 4 rfl).both
          obtain ⟨zc, zf⟩ := (hT3.sat.own_ 2 rfl).both
          have zl := (hT3.sat.own_ 2 rfl).lt
          have H3 := Lib.hid (And.intro hT3 hcc3)
          clear hT3 hcc3
          by_cases hlt : i < 6
          · have d1 : decide ((i : Int) < 6) = true := decide_eq_true (by omega)
            cases ok3
            · go_wp2_with fail
              have hRn : R = none := by
                rcases H3.out.2 with ⟨h, _⟩ | ⟨_, h⟩
                · cases h
                · exact h
              refine bodyPost_ret (v := .agg (frV d b0 k0 b1 k1 b2 k2).toArray) (by simp [results, Tryz.results33, go_sem, zc, frV]) rfl ?_
              rw [← HR.out, hRn]
              exact rblk_none H3.out.1.sat.mod (H3.out.1.sat.own_ 2 rfl) H3.out.1.rd (by dsimp only; omega) H0.out.1.lt.2.2 _ _ _ _ _ _
            · obtain ⟨hfr3, ⟨⟨⟨hkv0, hkv3⟩, hkK⟩, hba, hbb⟩, hRr⟩ : FrB wr B d b0 k0 b1 k1 b2 k2 f1 ∧ (((0 ≤ kv ∧ kv < 3) ∧ (K = true → kv = 2)) ∧ ((-128 ≤ a ∧ a ≤ 128) ∧ (-128 ≤ b ∧ b ≤ 128))) ∧ blkFrom d ahd kv Q x y a b (6 - i) f1 s3 = R := by
                rcases H3.out.2 with ⟨_, h⟩ | ⟨h, _⟩
                · exact h
                · cases h
              rw [show 6 - i = (5 - i) + 1 by omega] at hRr
              unfold blkFrom at hRr
              rw [show 5 - (5 - i) = i by omega] at hRr
              obtain ⟨p1, p2, p3⟩ := pc_in H0.out.2.2.2.2.1 hlt hx hy
              have hix := pl_idx pb hlt
              have hS0 := (H3.out.1.drew).s
              have lpw := H5.out.2.2
              have HB := Lib.hid (And.intro hfr3 (And.intro hRr (And.intro hS0 (And.intro hkK (And.intro lpw (And.intro hba hbb))))))
              clear hfr3 hRr hkK lpw hba hbb zc zf zl
              have hlow5 : ∀ e ∈ ([⟨pb, 131, (plL x y).toArray⟩, ⟨w.heap.size + 1 + 1 + 1, 125, #[.int .i64 a, .int .i64 b]⟩, ⟨w.heap.size + 1 + 1, 37, #[.int .i64 0, .int .i64 0, .slice none 0 0, .int .i64 0, .int .i64 0, .slice none 0 0, .int .i64 0, .int .i64 0, .slice none 0 0]⟩, ⟨w.heap.size + 1, 62, #[.bool K, .int .i64 N, .int .i64 Q]⟩, ⟨w.heap.size, 37, #[.int .i64 (d.W : Int), .int .i64 (d.H : Int), .slice (some ⟨b0, 0, none⟩) d.nY k0, .int .i64 (d.W2 : Int), .int .i64 (d.H2 : Int), .slice (some ⟨b1, 0, none⟩) d.nC k1, .int .i64 (d.W2 : Int), .int .i64 (d.H2 : Int), .slice (some ⟨b2, 0, none⟩) d.nC k2]⟩] : List Ent), w.heap.size ≤ e.g := by
                have := HB.out.2.2.2.2.1
                intro e he
                simp at he
                rcases he with rfl | rfl | rfl | rfl | rfl <;> (dsimp only; omega)
              have hk3 : kv = 0 ∨ kv = 1 ∨ kv = 2 := by omega
              rcases hk3 with rfl | rfl | rfl
              · go_upto_region 19 with (fail)
                have hKf : K = false := by
                  cases K
                  · rfl
                  · have := HB.out.2.2.2.1 rfl; omega
                obtain ⟨rfl, hfa⟩ := H0.out.2.2.2.1 hKf
                have HA := Lib.hid hfa
                clear hfa hKf
                refine wp_region_planT [14, 15, 16] [0, 1, 2, 3, 4, 5, 6, 7, 8, 9, 10, 11, 12, 13] (0 :: 1 :: 2 :: 3 :: 4 :: 5 :: 6 :: 7 :: 8 :: 9 :: 10 :: 11 :: 12 :: 13 :: 14 :: 15 :: 16 :: []) (SqS mg w.heap.size pb (w.heap.size + 1) (w.heap.size + 1 + 1 + 1) (rdecV d.W d.H G nx (frV d c0 e0 c1 e1 c2 e2)) (frV d b0 k0 b1 k1 b2 k2).toArray x y #[.bool K, .int .i64 N, .int .i64 Q] #[.int .i64 a, .int .i64 b]) (by kernel_rfl) (by kernel_rfl) (fun _ _ _ d _ h => by cases d <;> exact h) hS0 ?_
                refine planT_load rfl rfl _ _ rfl rfl (w.heap.size) 0 rfl (frV d b0 k0 b1 k1 b2 k2) _ (fun w' hS => hS.1.range 0 _ rfl) Tryz.underlying37 rfl (by kernel_rfl) (fun K hK => ?_); go_simp; refine hK _ ?_; clear hK K
                refine planT_read (v := .slice (some ⟨pb, 0, none⟩) 6 6) rfl rfl rfl (fun _ _ => rfl) (fun K hK => ?_); go_simp; refine hK _ ?_; clear hK K
                refine planT_read (v := .int .i64 (i : Int)) rfl rfl rfl (fun _ _ => rfl) (fun K hK => ?_); go_simp; refine hK _ ?_; clear hK K
                refine planT_idx rfl rfl _ _ _ rfl rfl (.slice (some ⟨pb, 0, none⟩) 6 6) (.int .i64 (i : Int)) (.pointer (some ⟨pb, i * 3, none⟩)) rfl rfl hix (fun K hK => ?_); go_simp; refine hK _ ?_; clear hK K
                refine planT_load rfl rfl _ _ rfl rfl pb (i * 3) rfl [.int .i64 (pcP i : Int), .int .i64 (pcX x i : Int), .int .i64 (pcY y i : Int)] _ (fun w' hS => hS.2.1.range (i * 3) _ (pl_part x y i hlt)) Tryz.underlying131 rfl (by kernel_rfl) (fun K hK => ?_); go_simp; refine hK _ ?_; clear hK K
                refine planT_read (v := .pointer (some ⟨mg, 0, none⟩)) rfl rfl rfl (fun _ _ => rfl) (fun K hK => ?_); go_simp; refine hK _ ?_; clear hK K
                refine planT_read (v := .pointer (some ⟨mg, 0, none⟩)) rfl rfl rfl (fun _ _ => rfl) (fun K hK => ?_); go_simp; refine hK _ ?_; clear hK K
                refine planT_read (v := .pointer (some ⟨mg, 3, none⟩)) rfl rfl rfl (fun _ _ => rfl) (fun K hK => ?_); go_simp; refine hK _ ?_; clear hK K
                refine planT_load rfl rfl _ _ rfl rfl mg 3 rfl (frV d c0 e0 c1 e1 c2 e2) _ (fun w' hS => hS.2.2.1.range 3 _ (rdecV_part _ _ _ _ _ _ _ _ _ _ _)) Tryz.underlying37 rfl (by kernel_rfl) (fun K hK => ?_); go_simp; refine hK _ ?_; clear hK K
                refine planT_read (v := .slice (some ⟨pb, 0, none⟩) 6 6) rfl rfl rfl (fun _ _ => rfl) (fun K hK => ?_); go_simp; refine hK _ ?_; clear hK K
                refine planT_read (v := .int .i64 (i : Int)) rfl rfl rfl (fun _ _ => rfl) (fun K hK => ?_); go_simp; refine hK _ ?_; clear hK K
                refine planT_idx rfl rfl _ _ _ rfl rfl (.slice (some ⟨pb, 0, none⟩) 6 6) (.int .i64 (i : Int)) (.pointer (some ⟨pb, i * 3, none⟩)) rfl rfl hix (fun K hK => ?_); go_simp; refine hK _ ?_; clear hK K
                refine planT_load rfl rfl _ _ rfl rfl pb (i * 3) rfl [.int .i64 (pcP i : Int), .int .i64 (pcX x i : Int), .int .i64 (pcY y i : Int)] _ (fun w' hS => hS.2.1.range (i * 3) _ (pl_part x y i hlt)) Tryz.underlying131 rfl (by kernel_rfl) (fun K hK => ?_); go_simp; refine hK _ ?_; clear hK K
                refine planT_load rfl rfl _ _ rfl rfl (w.heap.size + 1 + 1 + 1) 0 rfl [.int .i64 a, .int .i64 b] _ (fun w' hS => hS.2.2.2.1.range 0 _ rfl) Tryz.underlying125 rfl (by kernel_rfl) (fun K hK => ?_); go_simp; refine hK _ ?_; clear hK K
                refine planT_loud rfl rfl (fun K hK => ?_)
                go_simp
                obtain ⟨gl, hgl⟩ : ∃ gl, gl = smoved (d.wOf (pcP i)) (d.hOf (pcP i)) (ahd.get (pcP i)) (pcX x i) (pcY y i) (pcP i) a b := ⟨_, rfl⟩
                have hgl64 : gl.length = 64 := by rw [hgl, smoved_length]
                have MV := fMoved wr.drew 0 d H0.out.2.2.2.2.1 c0 e0 c1 e1 c2 e2 ahd (H3.out.1.drew.fr H0.out.1 HA.out) (pcP i) (pcX x i) (pcY y i) p1 p2 p3 a b HB.out.2.2.2.2.2.1 HB.out.2.2.2.2.2.2
                rw [← hgl] at MV
                have HG := Lib.hid hgl
                clear hgl
                refine MV.mono ?_
                clear MV
                rintro e w6 ⟨v6, rfl, hv6, hm6⟩
                obtain ⟨C6, n6, rfl⟩ := own_shape hv6
                rw [hgl64] at hv6 ⊢
                have hT6 := H3.out.1.drew.quiet hm6
                have hf6 := (HB.out.1.quiet ((Mod.refl (fun _ => False) wr).drew)).quiet hm6
                have H6 := Lib.hid (And.intro hT6 (And.intro hf6 hv6.in_))
                dsimp only []
                refine hK _ _ (HB.out.2.2.1.quiet hm6) ?_
                clear hK K hT6 hf6 hm6 hv6
                refine planT_last rfl rfl (fun K hK => ?_)
                go_simp
                refine (fLayF _ B (Nat.le_trans H0.out.2.2.2.2.2.2 H6.out.1.sat.mod.size) d H0.out.2.2.2.2.1 H0.out.2.2.2.2.2.1 b0 k0 b1 k1 b2 k2 f1 H6.out.2.1 (pcP i) (pcX x i) (pcY y i) p1 p2 p3 C6 n6 gl H6.out.2.2).mono ?_
                rintro e w7 ⟨v7, rfl, ⟨q0, r0, q1, r1, q2, r2, rfl, hf7⟩, hm7⟩
                have hT7 := H6.out.1.quiet hm7
                obtain ⟨fc, ff⟩ := (hT7.sat.own_ 4 rfl).both
                have fl := (hT7.sat.own_ 4 rfl).lt
                have H7 := Lib.hid (And.intro hT7 hf7)
                dsimp only []
                refine hK _ _ ?_
                clear hK K hT7 hf7 hm7
                unfold frV
                refine planT_last rfl rfl (fun K hK => ?_)
                go_simp
                refine hK _ _ ?_
                clear hK K
                refine planT_done ?_
                go_wp2_with fail
                go_roundw
                case rel =>
                  have hz := H7.out.1.lay H0.out.1 (Nat.le_refl _) d q0 r0 q1 r1 q2 r2
                  refine ⟨i + 1, true, q0, r0, q1, r1, q2, r2, _, s3, by omega, by go_num, hz.1, .inl ⟨rfl, hz.2 _ _ H7.out.2, ⟨⟨⟨by omega, by omega⟩, HB.out.2.2.2.1⟩, HB.out.2.2.2.2.2⟩, ?_⟩⟩
                  have hRr := HB.out.2.1
                  rw [stepB_0, ← HG.out] at hRr
                  rw [show 6 - (i + 1) = 5 - i by omega]
                  exact hRr
                case measure => simp [intOf]; omega
              · go_upto_region 21 with (fail)
                have hKf : K = false := by
                  cases K
                  · rfl
                  · have := HB.out.2.2.2.1 rfl; omega
                obtain ⟨rfl, hfa⟩ := H0.out.2.2.2.1 hKf
                have HA := Lib.hid hfa
                clear hfa hKf
                refine wp_region_planT [15, 18, 19] [0, 1, 2, 3, 4, 5, 6, 7, 8, 9, 10, 11, 12, 13, 14, 16, 17] (0 :: 1 :: 2 :: 3 :: 4 :: 5 :: 6 :: 7 :: 8 :: 9 :: 10 :: 11 :: 12 :: 13 :: 14 :: 16 :: 17 :: 15 :: 18 :: 19 :: []) (SqS mg w.heap.size pb (w.heap.size + 1) (w.heap.size + 1 + 1 + 1) (rdecV d.W d.H G nx (frV d c0 e0 c1 e1 c2 e2)) (frV d b0 k0 b1 k1 b2 k2).toArray x y #[.bool K, .int .i64 N, .int .i64 Q] #[.int .i64 a, .int .i64 b]) (by kernel_rfl) (by kernel_rfl) (fun _ _ _ d _ h => by cases d <;> exact h) hS0 ?_
                refine planT_read (v := .pointer (some ⟨rb, 0, none⟩)) rfl rfl rfl (fun _ _ => rfl) (fun K hK => ?_); go_simp; refine hK _ ?_; clear hK K
                refine planT_load rfl rfl _ _ rfl rfl (w.heap.size) 0 rfl (frV d b0 k0 b1 k1 b2 k2) _ (fun w' hS => hS.1.range 0 _ rfl) Tryz.underlying37 rfl (by kernel_rfl) (fun K hK => ?_); go_simp; refine hK _ ?_; clear hK K
                refine planT_read (v := .slice (some ⟨pb, 0, none⟩) 6 6) rfl rfl rfl (fun _ _ => rfl) (fun K hK => ?_); go_simp; refine hK _ ?_; clear hK K
                refine planT_read (v := .int .i64 (i : Int)) rfl rfl rfl (fun _ _ => rfl) (fun K hK => ?_); go_simp; refine hK _ ?_; clear hK K
                refine planT_idx rfl rfl _ _ _ rfl rfl (.slice (some ⟨pb, 0, none⟩) 6 6) (.int .i64 (i : Int)) (.pointer (some ⟨pb, i * 3, none⟩)) rfl rfl hix (fun K hK => ?_); go_simp; refine hK _ ?_; clear hK K
                refine planT_load rfl rfl _ _ rfl rfl pb (i * 3) rfl [.int .i64 (pcP i : Int), .int .i64 (pcX x i : Int), .int .i64 (pcY y i : Int)] _ (fun w' hS => hS.2.1.range (i * 3) _ (pl_part x y i hlt)) Tryz.underlying131 rfl (by kernel_rfl) (fun K hK => ?_); go_simp; refine hK _ ?_; clear hK K
                refine planT_read (v := .pointer (some ⟨mg, 0, none⟩)) rfl rfl rfl (fun _ _ => rfl) (fun K hK => ?_); go_simp; refine hK _ ?_; clear hK K
                refine planT_read (v := .pointer (some ⟨mg, 0, none⟩)) rfl rfl rfl (fun _ _ => rfl) (fun K hK => ?_); go_simp; refine hK _ ?_; clear hK K
                refine planT_read (v := .pointer (some ⟨mg, 3, none⟩)) rfl rfl rfl (fun _ _ => rfl) (fun K hK => ?_); go_simp; refine hK _ ?_; clear hK K
                refine planT_load rfl rfl _ _ rfl rfl mg 3 rfl (frV d c0 e0 c1 e1 c2 e2) _ (fun w' hS => hS.2.2.1.range 3 _ (rdecV_part _ _ _ _ _ _ _ _ _ _ _)) Tryz.underlying37 rfl (by kernel_rfl) (fun K hK => ?_); go_simp; refine hK _ ?_; clear hK K
                refine planT_read (v := .slice (some ⟨pb, 0, none⟩) 6 6) rfl rfl rfl (fun _ _ => rfl) (fun K hK => ?_); go_simp; refine hK _ ?_; clear hK K
                refine planT_read (v := .int .i64 (i : Int)) rfl rfl rfl (fun _ _ => rfl) (fun K hK => ?_); go_simp; refine hK _ ?_; clear hK K
                refine planT_idx rfl rfl _ _ _ rfl rfl (.slice (some ⟨pb, 0, none⟩) 6 6) (.int .i64 (i : Int)) (.pointer (some ⟨pb, i * 3, none⟩)) rfl rfl hix (fun K hK => ?_); go_simp; refine hK _ ?_; clear hK K
                refine planT_load rfl rfl _ _ rfl rfl pb (i * 3) rfl [.int .i64 (pcP i : Int), .int .i64 (pcX x i : Int), .int .i64 (pcY y i : Int)] _ (fun w' hS => hS.2.1.range (i * 3) _ (pl_part x y i hlt)) Tryz.underlying131 rfl (by kernel_rfl) (fun K hK => ?_); go_simp; refine hK _ ?_; clear hK K
                refine planT_load rfl rfl _ _ rfl rfl (w.heap.size + 1 + 1 + 1) 0 rfl [.int .i64 a, .int .i64 b] _ (fun w' hS => hS.2.2.2.1.range 0 _ rfl) Tryz.underlying125 rfl (by kernel_rfl) (fun K hK => ?_); go_simp; refine hK _ ?_; clear hK K
                refine planT_read (v := .pointer (some ⟨(w.heap.size + 1), 2, none⟩)) rfl rfl rfl (fun _ _ => rfl) (fun K hK => ?_); go_simp; refine hK _ ?_; clear hK K
                refine planT_one rfl rfl _ _ rfl rfl (w.heap.size + 1) 2 rfl (.int .i64 Q) _ (fun w' hS => hS.2.2.2.2.cell 2) Tryz.underlying3 rfl (fun K hK => ?_); go_simp; refine hK _ ?_; clear hK K
                refine planT_loud rfl rfl (fun K hK => ?_)
                go_simp
                obtain ⟨gl, hgl⟩ : ∃ gl, gl = smoved (d.wOf (pcP i)) (d.hOf (pcP i)) (ahd.get (pcP i)) (pcX x i) (pcY y i) (pcP i) a b := ⟨_, rfl⟩
                have hgl64 : gl.length = 64 := by rw [hgl, smoved_length]
                have MV := fMoved wr.drew 0 d H0.out.2.2.2.2.1 c0 e0 c1 e1 c2 e2 ahd (H3.out.1.drew.fr H0.out.1 HA.out) (pcP i) (pcX x i) (pcY y i) p1 p2 p3 a b HB.out.2.2.2.2.2.1 HB.out.2.2.2.2.2.2
                rw [← hgl] at MV
                have HG := Lib.hid hgl
                clear hgl
                refine MV.mono ?_
                clear MV
                rintro e w6 ⟨v6, rfl, hv6, hm6⟩
                have hT6 := H3.out.1.drew.quiet hm6
                have hf6 := (HB.out.1.quiet ((Mod.refl (fun _ => False) wr).drew)).quiet hm6
                have H6 := Lib.hid (And.intro hT6 (And.intro hf6 hv6))
                dsimp only []
                refine hK _ _ (HB.out.2.2.1.quiet hm6) ?_
                clear hK K hT6 hf6 hm6 hv6
                have hRr := HB.out.2.1
                rw [stepB_1, ← HG.out] at hRr
                have HRr := Lib.hid hRr
                clear hRr
                refine planT_last rfl rfl (fun K hK => ?_)
                go_simp
                refine (fRBlock _ bk g rb P H0.out.1.id (fun j hj => Nat.lt_of_lt_of_le (H0.out.1.pw j hj) H6.out.1.sat.mod.size) _ (H6.out.1.rs rfl) H6.out.1.rd B (Nat.le_trans H0.out.2.2.2.2.2.2 H6.out.1.sat.mod.size) d H0.out.2.2.2.2.1 H0.out.2.2.2.2.2.1 b0 k0 b1 k1 b2 k2 f1 H6.out.2.1 (pcP i) (pcX x i) (pcY y i) p1 p2 p3 _ v6 gl H6.out.2.2 hgl64 Q).mono ?_
                rintro e w7 ⟨hm7, (⟨hr7, ⟨q0, r0, q1, r1, q2, r2, rfl⟩, hrd7⟩ | ⟨v7, f7, s7, hr7, rfl, ⟨q0, r0, q1, r1, q2, r2, rfl, hf7⟩, hs7, hrd7⟩)⟩
                · have hT7 := H6.out.1.step (ok' := false) (s' := s3) H0.out.1 hlow5 hm7 hrd7 (fun e => by cases e)
                  obtain ⟨fc, ff⟩ := (hT7.sat.own_ 4 rfl).both
                  have fl := (hT7.sat.own_ 4 rfl).lt
                  have H7 := Lib.hid (And.intro hT7 hr7)
                  dsimp only []
                  refine hK _ _ ?_
                  clear hK K hT7 hr7 hm7 hrd7
                  unfold frV
                  refine planT_last rfl rfl (fun K hK => ?_)
                  go_simp
                  refine hK _ _ ?_
                  clear hK K
                  refine planT_done ?_
                  go_wp2_with fail
                  go_roundw
                  case rel =>
                    have hz := H7.out.1.lay H0.out.1 (Nat.le_refl _) d q0 r0 q1 r1 q2 r2
                    refine ⟨i + 1, false, q0, r0, q1, r1, q2, r2, f1, s3, by omega, by go_num, hz.1, .inr ⟨rfl, ?_⟩⟩
                    have hRr := HRr.out
                    rw [H7.out.2] at hRr
                    exact hRr.symm
                  case measure => simp [intOf]; omega
                · have hT7 := H6.out.1.step (ok' := true) (s' := s7) H0.out.1 hlow5 hm7 hrd7 (fun _ => hs7)
                  obtain ⟨fc, ff⟩ := (hT7.sat.own_ 4 rfl).both
                  have fl := (hT7.sat.own_ 4 rfl).lt
                  have H7 := Lib.hid (And.intro hT7 (And.intro hf7 hr7))
                  dsimp only []
                  refine hK _ _ ?_
                  clear hK K hT7 hf7 hr7 hm7 hrd7 hs7
                  unfold frV
                  refine planT_last rfl rfl (fun K hK => ?_)
                  go_simp
                  refine hK _ _ ?_
                  clear hK K
                  refine planT_done ?_
                  go_wp2_with fail
                  go_roundw
                  case rel =>
                    have hz := H7.out.1.lay H0.out.1 (Nat.le_refl _) d q0 r0 q1 r1 q2 r2
                    refine ⟨i + 1, true, q0, r0, q1, r1, q2, r2, f7, s7, by omega, by go_num, hz.1, .inl ⟨rfl, hz.2 _ _ H7.out.2.1, ⟨⟨⟨by omega, by omega⟩, fun e => by first | rfl | exact HB.out.2.2.2.1 e⟩, HB.out.2.2.2.2.2⟩, ?_⟩⟩
                    have hRr := HRr.out
                    rw [H7.out.2.2] at hRr
                    rw [show 6 - (i + 1) = 5 - i by omega]
                    exact hRr
                  case measure => simp [intOf]; omega
              · go_wp2_with fail
                refine (fROne _ bk g rb P H0.out.1.id s3 0 4 (by omega) (.inr rfl) (H3.out.1.rs rfl) H3.out.1.rd).mono ?_
                rintro e w4 ⟨hm4, (⟨hr4, ⟨v4, rfl⟩, hrd4⟩ | ⟨v4, s4, hr4, rfl, hs4, hrd4⟩)⟩
                · have hT4 := H3.out.1.step (ok' := false) (s' := s3) H0.out.1 hlow5 hm4 hrd4 (fun e => by cases e)
                  have H4 := Lib.hid (And.intro hT4 hr4)
                  clear rc rf rl fc ff
                  obtain ⟨rc, rf⟩ := hrd4.both
                  unfold rdrV at rc
                  have rl := hrd4.lt
                  clear hT4 hr4 hm4 hrd4
                  go_wp2_with fail
                  go_roundw
                  case rel =>
                    refine ⟨i + 1, false, b0, k0, b1, k1, b2, k2, f1, s3, by omega, by go_num, H4.out.1, .inr ⟨rfl, ?_⟩⟩
                    have hRr := HB.out.2.1
                    have hq := H4.out.2
                    simp only [Option.map_eq_none_iff] at hq
                    rw [stepB_2, hq] at hRr
                    exact hRr.symm
                  case measure => simp [intOf]; omega
                · obtain ⟨m, rfl, hq⟩ : ∃ m : Nat, v4 = (m : Int) ∧ sone 0 4 s3 = some (m, s4) := by
                    simp only [Option.map_eq_some_iff] at hr4
                    obtain ⟨⟨m, s5⟩, hq, he⟩ := hr4
                    injection he with he1 he2
                    exact ⟨m, he1.symm, by rw [← he2]; exact hq⟩
                  have hm4' := sone_lt hq
                  have hT4 := H3.out.1.step (ok' := true) (s' := s4) H0.out.1 hlow5 hm4 hrd4 (fun _ => hs4)
                  have hf4 := H3.out.1.frs rfl HB.out.1 hm4
                  have hS4 := (hT4.drew).s
                  have hRr := HB.out.2.1
                  rw [stepB_2, hq, Option.bind_some] at hRr
                  dsimp only at hRr
                  have H4 := Lib.hid (And.intro hT4 (And.intro hf4 (And.intro hS4 hRr)))
                  clear rc rf rl fc ff
                  obtain ⟨rc, rf⟩ := hrd4.both
                  unfold rdrV at rc
                  have rl := hrd4.lt
                  have hS0 := hS4
                  clear hT4 hf4 hS4 hRr hm4 hrd4 hr4 hs4 hq
                  obtain ⟨hsd, hnn⟩ := H0.out.2.2.2.2.1.of (pcP i)
                  have HSD := Lib.hid (And.intro hsd hnn)
                  clear hsd hnn
                  go_upto_region 16 with (fail)
                  clear rc rf rl
                  refine wp_region_planT [6, 18] [0, 1, 2, 3, 4, 5, 7, 8, 9, 10, 11, 12, 13, 14, 15, 16, 17] (0 :: 1 :: 2 :: 3 :: 4 :: 5 :: 7 :: 8 :: 9 :: 10 :: 11 :: 12 :: 13 :: 14 :: 15 :: 16 :: 17 :: 6 :: 18 :: 19 :: 20 :: 21 :: 22 :: 23 :: []) (SqS mg w.heap.size pb (w.heap.size + 1) (w.heap.size + 1 + 1 + 1) (rdecV d.W d.H G nx fr) (frV d b0 k0 b1 k1 b2 k2).toArray x y #[.bool K, .int .i64 N, .int .i64 Q] #[.int .i64 a, .int .i64 b]) (by kernel_rfl) (by kernel_rfl) (fun _ _ _ d _ h => by cases d <;> exact h) hS0 ?_
                  refine planT_load rfl rfl _ _ rfl rfl (w.heap.size) 0 rfl (frV d b0 k0 b1 k1 b2 k2) _ (fun w' hS => hS.1.range 0 _ rfl) Tryz.underlying37 rfl (by kernel_rfl) (fun K hK => ?_); go_simp; refine hK _ ?_; clear hK K
                  refine planT_read (v := .slice (some ⟨pb, 0, none⟩) 6 6) rfl rfl rfl (fun _ _ => rfl) (fun K hK => ?_); go_simp; refine hK _ ?_; clear hK K
                  refine planT_read (v := .int .i64 (i : Int)) rfl rfl rfl (fun _ _ => rfl) (fun K hK => ?_); go_simp; refine hK _ ?_; clear hK K
                  refine planT_idx rfl rfl _ _ _ rfl rfl (.slice (some ⟨pb, 0, none⟩) 6 6) (.int .i64 (i : Int)) (.pointer (some ⟨pb, i * 3, none⟩)) rfl rfl hix (fun K hK => ?_); go_simp; refine hK _ ?_; clear hK K
                  refine planT_read (v := .pointer (some ⟨pb, i * 3, none⟩)) rfl rfl rfl (fun _ _ => rfl) (fun K hK => ?_); go_simp; refine hK _ ?_; clear hK K
                  refine planT_one rfl rfl _ _ rfl rfl pb (i * 3) rfl (.int .i64 (pcP i : Int)) _ (fun w' hS => (pl_cell hS.2.1 hlt).1) Tryz.underlying3 rfl (fun K hK => ?_); go_simp; refine hK _ ?_; clear hK K
                  refine planT_read (v := .slice (some ⟨pb, 0, none⟩) 6 6) rfl rfl rfl (fun _ _ => rfl) (fun K hK => ?_); go_simp; refine hK _ ?_; clear hK K
                  refine planT_read (v := .int .i64 (i : Int)) rfl rfl rfl (fun _ _ => rfl) (fun K hK => ?_); go_simp; refine hK _ ?_; clear hK K
                  refine planT_idx rfl rfl _ _ _ rfl rfl (.slice (some ⟨pb, 0, none⟩) 6 6) (.int .i64 (i : Int)) (.pointer (some ⟨pb, i * 3, none⟩)) rfl rfl hix (fun K hK => ?_); go_simp; refine hK _ ?_; clear hK K
                  refine planT_read (v := .pointer (some ⟨pb, i * 3 + 1, none⟩)) rfl rfl rfl (fun _ _ => rfl) (fun K hK => ?_); go_simp; refine hK _ ?_; clear hK K
                  refine planT_one rfl rfl _ _ rfl rfl pb (i * 3 + 1) rfl (.int .i64 (pcX x i : Int)) _ (fun w' hS => (pl_cell hS.2.1 hlt).2.1) Tryz.underlying3 rfl (fun K hK => ?_); go_simp; refine hK _ ?_; clear hK K
                  refine planT_read (v := .slice (some ⟨pb, 0, none⟩) 6 6) rfl rfl rfl (fun _ _ => rfl) (fun K hK => ?_); go_simp; refine hK _ ?_; clear hK K
                  refine planT_read (v := .int .i64 (i : Int)) rfl rfl rfl (fun _ _ => rfl) (fun K hK => ?_); go_simp; refine hK _ ?_; clear hK K
                  refine planT_idx rfl rfl _ _ _ rfl rfl (.slice (some ⟨pb, 0, none⟩) 6 6) (.int .i64 (i : Int)) (.pointer (some ⟨pb, i * 3, none⟩)) rfl rfl hix (fun K hK => ?_); go_simp; refine hK _ ?_; clear hK K
                  refine planT_read (v := .pointer (some ⟨pb, i * 3 + 2, none⟩)) rfl rfl rfl (fun _ _ => rfl) (fun K hK => ?_); go_simp; refine hK _ ?_; clear hK K
                  refine planT_one rfl rfl _ _ rfl rfl pb (i * 3 + 2) rfl (.int .i64 (pcY y i : Int)) _ (fun w' hS => (pl_cell hS.2.1 hlt).2.2) Tryz.underlying3 rfl (fun K hK => ?_); go_simp; refine hK _ ?_; clear hK K
                  refine planT_read (v := .int .i64 (m : Int)) rfl rfl rfl (fun _ _ => rfl) (fun K hK => ?_); go_simp; refine hK _ ?_; clear hK K
                  refine planT_loud rfl rfl (fun K hK => ?_)
                  go_simp
                  refine (fPlaneOf _ d b0 k0 b1 k1 b2 k2 (pcP i) p1).mono ?_
                  rintro e w6 ⟨rfl, hm6⟩
                  have H6 := Lib.hid (And.intro (H4.out.1.drew.quiet hm6) ((H4.out.2.1.quiet ((Mod.refl (fun _ => False) w4).drew)).quiet hm6))
                  dsimp only []
                  refine hK _ _ (H4.out.2.2.1.quiet hm6) ?_
                  clear hK K hm6
                  obtain ⟨gl, hgl⟩ : ∃ gl, gl = guessL (d.wOf (pcP i)) (f1.get (pcP i)) (pcX x i) (pcY y i) m := ⟨_, rfl⟩
                  have hgl64 : gl.length = 64 := by rw [hgl, guessL_length]
                  have hRr := H4.out.2.2.2
                  rw [← hgl] at hRr
                  have HRr := Lib.hid hRr
                  have hfo := H6.out.2.of p1
                  have GU := fGuess w6 (d.wOf (pcP i)) (d.hOf (pcP i)) _ (d.nOf (pcP i)) _ (f1.get (pcP i)) HSD.out.1 HSD.out.2 (hfo.1.in_n hfo.2) (pcX x i) (pcY y i) m p2 p3 hm4'
                  rw [← hgl] at GU
                  have HGU := Lib.hid GU
                  clear hgl hRr hfo GU
                  refine planT_last rfl rfl (fun K hK => ?_)
                  go_simp
                  refine HGU.out.mono ?_
                  rintro e w9 ⟨v9, rfl, hv9, hm9⟩
                  have hT9 := (H6.out.1.quiet hm9).drew
                  have hf9 := (H6.out.2.quiet hm9).quiet ((Mod.refl (fun _ => False) w9).drew)
                  have hv9' := hv9.quiet ((Mod.refl (fun _ => False) w9).drew)
                  clear hS0
                  have hS0 := hT9.s
                  have H9 := Lib.hid (And.intro hT9 (And.intro hf9 hv9'))
                  dsimp only []
                  refine hK _ _ ?_
                  clear hK K hm9 hv9 hT9 hf9 hv9' HGU
                  iterate 5 (refine planT_still rfl rfl (fun K hK => ?_); go_simp; refine hK _ ?_; clear hK K)
                  refine planT_done ?_
                  go_upto_region 17 with (fail)
                  refine wp_region_planT [9, 10] [0, 1, 2, 3, 4, 5, 6, 7, 8] (0 :: 1 :: 2 :: 3 :: 4 :: 5 :: 6 :: 7 :: 8 :: 9 :: 10 :: []) (SqS mg w.heap.size pb (w.heap.size + 1) (w.heap.size + 1 + 1 + 1) (rdecV d.W d.H G nx fr) (frV d b0 k0 b1 k1 b2 k2).toArray x y #[.bool K, .int .i64 N, .int .i64 Q] #[.int .i64 a, .int .i64 b]) (by kernel_rfl) (by kernel_rfl) (fun _ _ _ d _ h => by cases d <;> exact h) hS0 ?_
                  refine planT_read (v := .pointer (some ⟨rb, 0, none⟩)) rfl rfl rfl (fun _ _ => rfl) (fun K hK => ?_); go_simp; refine hK _ ?_; clear hK K
                  refine planT_load rfl rfl _ _ rfl rfl (w.heap.size) 0 rfl (frV d b0 k0 b1 k1 b2 k2) _ (fun w' hS => hS.1.range 0 _ rfl) Tryz.underlying37 rfl (by kernel_rfl) (fun K hK => ?_); go_simp; refine hK _ ?_; clear hK K
                  refine planT_read (v := .slice (some ⟨pb, 0, none⟩) 6 6) rfl rfl rfl (fun _ _ => rfl) (fun K hK => ?_); go_simp; refine hK _ ?_; clear hK K
                  refine planT_read (v := .int .i64 (i : Int)) rfl rfl rfl (fun _ _ => rfl) (fun K hK => ?_); go_simp; refine hK _ ?_; clear hK K
                  refine planT_idx rfl rfl _ _ _ rfl rfl (.slice (some ⟨pb, 0, none⟩) 6 6) (.int .i64 (i : Int)) (.pointer (some ⟨pb, i * 3, none⟩)) rfl rfl hix (fun K hK => ?_); go_simp; refine hK _ ?_; clear hK K
                  refine planT_load rfl rfl _ _ rfl rfl pb (i * 3) rfl [.int .i64 (pcP i : Int), .int .i64 (pcX x i : Int), .int .i64 (pcY y i : Int)] _ (fun w' hS => hS.2.1.range (i * 3) _ (pl_part x y i hlt)) Tryz.underlying131 rfl (by kernel_rfl) (fun K hK => ?_); go_simp; refine hK _ ?_; clear hK K
                  refine planT_read (v := v9) rfl rfl rfl (fun _ _ => rfl) (fun K hK => ?_); go_simp; refine hK _ ?_; clear hK K
                  refine planT_read (v := .pointer (some ⟨(w.heap.size + 1), 2, none⟩)) rfl rfl rfl (fun _ _ => rfl) (fun K hK => ?_); go_simp; refine hK _ ?_; clear hK K
                  refine planT_one rfl rfl _ _ rfl rfl (w.heap.size + 1) 2 rfl (.int .i64 Q) _ (fun w' hS => hS.2.2.2.2.cell 2) Tryz.underlying3 rfl (fun K hK => ?_); go_simp; refine hK _ ?_; clear hK K
                  refine planT_last rfl rfl (fun K hK => ?_)
                  go_simp
                  refine (fRBlock _ bk g rb P H0.out.1.id (fun j hj => Nat.lt_of_lt_of_le (H0.out.1.pw j hj) H9.out.1.sat.mod.size) _ (H9.out.1.rs rfl) H9.out.1.rd B (Nat.le_trans H0.out.2.2.2.2.2.2 H9.out.1.sat.mod.size) d H0.out.2.2.2.2.1 H0.out.2.2.2.2.2.1 b0 k0 b1 k1 b2 k2 f1 H9.out.2.1 (pcP i) (pcX x i) (pcY y i) p1 p2 p3 _ v9 gl H9.out.2.2 hgl64 Q).mono ?_
                  rintro e w7 ⟨hm7, (⟨hr7, ⟨q0, r0, q1, r1, q2, r2, rfl⟩, hrd7⟩ | ⟨v7, f7, s7, hr7, rfl, ⟨q0, r0, q1, r1, q2, r2, rfl, hf7⟩, hs7, hrd7⟩)⟩
                  · have hT7 := H9.out.1.step (ok' := false) (s' := s3) H0.out.1 hlow5 hm7 hrd7 (fun e => by cases e)
                    obtain ⟨fc, ff⟩ := (hT7.sat.own_ 4 rfl).both
                    have fl := (hT7.sat.own_ 4 rfl).lt
                    have H7 := Lib.hid (And.intro hT7 hr7)
                    dsimp only []
                    refine hK _ _ ?_
                    clear hK K hT7 hr7 hm7 hrd7
                    unfold frV
                    refine planT_last rfl rfl (fun K hK => ?_)
                    go_simp
                    refine hK _ _ ?_
                    clear hK K
                    refine planT_done ?_
                    go_wp2_with fail
                    go_roundw
                    case rel =>
                      have hz := H7.out.1.lay H0.out.1 (Nat.le_refl _) d q0 r0 q1 r1 q2 r2
                      refine ⟨i + 1, false, q0, r0, q1, r1, q2, r2, f1, s3, by omega, by go_num, hz.1, .inr ⟨rfl, ?_⟩⟩
                      have hRr := HRr.out
                      rw [H7.out.2] at hRr
                      exact hRr.symm
                    case measure => simp [intOf]; omega
                  · have hT7 := H9.out.1.step (ok' := true) (s' := s7) H0.out.1 hlow5 hm7 hrd7 (fun _ => hs7)
                    obtain ⟨fc, ff⟩ := (hT7.sat.own_ 4 rfl).both
                    have fl := (hT7.sat.own_ 4 rfl).lt
                    have H7 := Lib.hid (And.intro hT7 (And.intro hf7 hr7))
                    dsimp only []
                    refine hK _ _ ?_
                    clear hK K hT7 hf7 hr7 hm7 hrd7 hs7
                    unfold frV
                    refine planT_last rfl rfl (fun K hK => ?_)
                    go_simp
                    refine hK _ _ ?_
                    clear hK K
                    refine planT_done ?_
                    go_wp2_with fail
                    go_roundw
                    case rel =>
                      have hz := H7.out.1.lay H0.out.1 (Nat.le_refl _) d q0 r0 q1 r1 q2 r2
                      refine ⟨i + 1, true, q0, r0, q1, r1, q2, r2, f7, s7, by omega, by go_num, hz.1, .inl ⟨rfl, hz.2 _ _ H7.out.2.1, ⟨⟨⟨by omega, by omega⟩, fun e => by first | rfl | exact HB.out.2.2.2.1 e⟩, HB.out.2.2.2.2.2⟩, ?_⟩⟩
                      have hRr := HRr.out
                      rw [H7.out.2.2] at hRr
                      rw [show 6 - (i + 1) = 5 - i by omega]
                      exact hRr
                    case measure => simp [intOf]; omega
          · obtain rfl : i = 6 := by omega
            go_wp2_with fail
            cases ok3
            · have hRn : R = none := by
                rcases H3.out.2 with ⟨h, _⟩ | ⟨_, h⟩
                · cases h
                · exact h
              refine bodyPost_ret (v := .agg (frV d b0 k0 b1 k1 b2 k2).toArray) (by simp [results, Tryz.results33, go_sem, zc, frV]) rfl ?_
              rw [← HR.out, hRn]
              exact rblk_none H3.out.1.sat.mod (H3.out.1.sat.own_ 2 rfl) H3.out.1.rd (by dsimp only; omega) H0.out.1.lt.2.2 _ _ _ _ _ _
            · obtain ⟨hfr3, hRs⟩ : FrB wr B d b0 k0 b1 k1 b2 k2 f1 ∧ R = some (f1, s3) := by
                rcases H3.out.2 with ⟨_, h1, _, h2⟩ | ⟨h, _⟩
                · exact ⟨h1, h2.symm⟩
                · cases h
              refine bodyPost_ret (v := .agg (frV d b0 k0 b1 k1 b2 k2).toArray) (by simp [results, Tryz.results33, go_sem, zc, frV]) rfl ?_
              rw [← HR.out, hRs]
              exact rblk_some H3.out.1.sat.mod (H3.out.1.sat.own_ 2 rfl) H3.out.1.rd (H3.out.1.rs rfl) hfr3 (by omega) H0.out.1.lt H0.out.1.pw
end Go.Proofs.YteppnjgfebcmjaaGreat
