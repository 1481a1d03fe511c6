/-
  ManifestAligns: the manifest's own row of renditions, and the rendition beside it, step by step.
-/
import Derived.Test.YtkobngipbhjfjaaDoorMfAlA
namespace Go.Proofs.YtkobngipbhjfjaaDoor
open Go.RowKit

theorem pcsFs_ok {pre : Str} (hp : pre = kHi ∨ pre = kLo) {fs : List Int} (h : FsOk fs) : Pcs.Ok (pcsFrom pre 0 fs) := by
  have hr := pcs_right hp fs 0 h.2 (by have := h.1; omega)
  refine ⟨by rw [pcs_len]; have := h.1; omega, fun p hp => ?_⟩
  have h2 := List.all_eq_true.1 hr p hp
  unfold pieceB pathB at h2
  simp only [Bool.and_eq_true, decide_eq_true_eq] at h2
  exact ⟨⟨by omega, by omega⟩, ⟨by omega, by omega⟩, by omega⟩
def OwnP (W : World) (B : Nat) (p : Ls × Value) : Prop := PcsOwn W B p.2 p.1.pieces ∧ p.1.Ok ∧ Pcs.Ok p.1.pieces
theorem OwnP.held {W : World} {B : Nat} {p : Ls × Value} (h : OwnP W B p) : Held W p := by
  obtain ⟨A, n, c, e⟩ := own_form h.1
  have h1 := h.1
  rw [e] at h1
  exact ⟨A, n, c, e, h.2.1, h1.in_ h.2.2⟩
theorem OwnP.mod {S : Nat → Prop} {W W' : World} {B : Nat} {p : Ls × Value} (h : OwnP W B p) (hm : Mod S W W') (hS : ∀ g, p.2.ownBlock = some g → ¬ S g) : OwnP W' B p := ⟨own_mod h.1 hm hS, h.2⟩
theorem hi_own {W : World} {B : Nat} {v : Value} {fs : List Int} (h : PcsOwn W B v (pcsFrom kHi 0 fs)) (hf : FsOk fs) : OwnP W B (hiL fs, v) :=
  ⟨h, ⟨by simp [hiL, smallL], (show I64 32 from ⟨by decide, by decide⟩), (show I64 16 from ⟨by decide, by decide⟩), (show I64 900 from ⟨by decide, by decide⟩), ⟨(show I64 0 from ⟨by decide, by decide⟩), (show I64 41 from ⟨by decide, by decide⟩), by simp [hiL, smallL]⟩, by show (pcsFrom kHi 0 fs).length ≤ _; rw [pcs_len]; have := hf.1; omega⟩, pcsFs_ok (.inl rfl) hf⟩
theorem lo_own {W : World} {B : Nat} {v : Value} {fs : List Int} (h : PcsOwn W B v (pcsFrom kLo 0 fs)) (hf : FsOk fs) : OwnP W B (loL fs, v) :=
  ⟨h, ⟨by simp [loL], (show I64 16 from ⟨by decide, by decide⟩), (show I64 16 from ⟨by decide, by decide⟩), (show I64 1 from ⟨by decide, by decide⟩), ⟨(show I64 0 from ⟨by decide, by decide⟩), (show I64 1 from ⟨by decide, by decide⟩), by simp [loL]⟩, by show (pcsFrom kLo 0 fs).length ≤ _; rw [pcs_len]; have := hf.1; omega⟩, pcsFs_ok (.inr rfl) hf⟩
structure AgT (w : World) (mb nb g c : Nat) (ps : List (Ls × Value)) (un : Value) (gs : List Int) (W : World) : Prop where
  row : W.ownsRow w.heap.size 35 8 (.slice (some ⟨g, 0, none⟩) ps.length c) ps.length (rowC ps)
  mblk : Blk W mb 24 #[.int .i64 30, .int .i64 1, .slice (some ⟨g, 0, none⟩) ps.length c]
  nblk : Blk W nb 35 (lsU (loL []) un).toArray
  un_ : PcsOwn W w.heap.size un (pcsFrom kLo 0 gs)
  own : ∀ p ∈ ps, OwnP W w.heap.size p
  ne : g ≠ nb
  low : w.heap.size ≤ mb ∧ w.heap.size ≤ nb
  len : ps.length ≤ 2
  old : Mod (fun _ => False) w W
variable {w W W' : World} {mb nb g c : Nat} {ps : List (Ls × Value)} {un : Value} {gs : List Int}
theorem AgT.quiet (h : AgT w mb nb g c ps un gs W) (hm : Mod (fun _ => False) W W') : AgT w mb nb g c ps un gs W' :=
  ⟨own_mod h.row hm (fun _ _ h => h), h.mblk.keep hm (fun h => h), h.nblk.keep hm (fun h => h), own_mod h.un_ hm (fun _ _ h => h), fun p hp => (h.own p hp).mod hm (fun _ _ h => h), h.ne, h.low, h.len, h.old.trans hm⟩
theorem AgT.blk (h : AgT w mb nb g c ps un gs W) (hn : 0 < ps.length) : ∃ cur : List Value, Blk W g 35 cur.toArray ∧ ps.length ≤ c ∧ c ≤ maxLen ∧ cur.length = c * 8 ∧ cur.take (ps.length * 8) = rowC ps ∧ w.heap.size ≤ g := by
  obtain ⟨g', cap, cur, hv, h1, h2, h3, h4, h5, h6⟩ := own_some h.row hn
  injection hv with e1 e2 e3
  injection e1 with e1
  injection e1 with e1
  subst e1
  subst e3
  exact ⟨cur.toList, h2, h3, h4, by rw [Array.length_toList]; exact h5, h6, h1⟩
theorem AgT.in_ (h : AgT w mb nb g c ps un gs W) (hn : 0 < ps.length) : MfIn W (some ⟨g, 0, none⟩) ps.length ⟨30, 1, ps.map Prod.fst⟩ := by
  obtain ⟨cur, hb, _⟩ := h.blk hn
  exact ⟨⟨⟨by show (-9223372036854775808 : Int) ≤ 30; decide, by show (30 : Int) ≤ 9223372036854775807; decide⟩, ⟨by show (-9223372036854775808 : Int) ≤ 1; decide, by show (1 : Int) ≤ 9223372036854775807; decide⟩, by have := h.len; omega⟩, rows_in h.row hb.lt (fun p hp => (h.own p hp).held)⟩
theorem ownP_blk {B j : Nat} {t : TypeId} {cs : Array Value} {p : Ls × Value} (h : OwnP W B p) (hb : Blk W j t cs) (ht : 32 ≠ t) (hm : Mod (· = j) W W') : OwnP W' B p := h.mod hm (fun g hg e => own_ne_blk h.1 hb ht (by rw [hg, e]))
/-- The first rendition's pieces laid. -/
theorem AgT.start {v : Value} {fs : List Int} {p : Nat} (h : AgSt w mb nb #[.int .i64 30, .int .i64 1, .slice (some ⟨w.heap.size + 1 + 1, 0, none⟩) 1 1] (lsV smallL (some ⟨p, 0, none⟩) 1 1).toArray v un fs W) (hf : FsOk fs) (h1 : w.heap.size + 1 + 1 < mb) (h2 : nb = mb + 1) :
    AgT w mb nb (w.heap.size + 1 + 1) 1 [(hiL fs, v)] un fs (W.setCell ⟨w.heap.size + 1 + 1, 7, none⟩ v) := by
  have hm : Mod (· = w.heap.size + 1 + 1) W (W.setCell ⟨w.heap.size + 1 + 1, 7, none⟩ v) := (Mod.refl (· = w.heap.size + 1 + 1) W).setCell (p := ⟨w.heap.size + 1 + 1, 7, none⟩) (.inl rfl) _
  have hb : Blk (W.setCell ⟨w.heap.size + 1 + 1, 7, none⟩ v) (w.heap.size + 1 + 1) 35 (lsU (hiL fs) v).toArray := h.rblk.put rfl
  refine ⟨⟨rfl, .inr ⟨w.heap.size + 1 + 1, 1, _, rfl, by omega, hb, Nat.le_refl _, by decide, rfl, by simp [rowC, lsU]⟩⟩, h.mblk.keep hm (by omega), h.nblk.keep hm (by omega), own_mod h.lo hm (fun g hg e => own_ne_blk h.lo h.rblk (by decide) (by rw [hg, e])), ?_, by omega, by omega, by simp, h.old.into hm (fun j e => .inr (by omega))⟩
  intro q hq
  rw [List.mem_singleton] at hq
  subst hq
  exact ownP_blk (hi_own h.hi hf) h.rblk (by decide) hm
/-- The rendition beside it with other pieces. -/
theorem AgT.box (h : AgT w mb nb g c ps un gs W) (hmn : mb ≠ nb) (hn : 0 < ps.length) {u' : Value} {gs' : List Int} (hu : PcsOwn W w.heap.size u' (pcsFrom kLo 0 gs')) : AgT w mb nb g c ps u' gs' (W.setCell ⟨nb, 7, none⟩ u') := by
  have hm : Mod (· = nb) W (W.setCell ⟨nb, 7, none⟩ u') := (Mod.refl (· = nb) W).setCell (p := ⟨nb, 7, none⟩) (.inl rfl) _
  obtain ⟨cur, hb, _⟩ := h.blk hn
  refine ⟨own_mod h.row hm (fun j hj e => ?_), h.mblk.keep hm hmn, h.nblk.put rfl, own_mod hu hm (fun j hj e => own_ne_blk hu h.nblk (by decide) (by rw [hj, e])), fun p hp => ownP_blk (h.own p hp) h.nblk (by decide) hm, h.ne, h.low, h.len, h.old.into hm (fun j e => .inr (by have := h.low; omega))⟩
  have hj : some g = some j := hj
  injection hj with hj
  exact h.ne (hj.trans e)
/-- One rendition more. -/
theorem AgT.more (h : AgT w mb nb g c ps un gs W) (hn : 0 < ps.length) (hl : ps.length < 2) {q : Ls × Value} (hq : OwnP W w.heap.size q) {v' : Value} (h1 : W'.ownsRow w.heap.size 35 8 v' (ps.length + 1) (rowC ps ++ lsU q.1 q.2)) (hM : Mod (fun j => (Value.slice (some ⟨g, 0, none⟩) ps.length c).ownBlock = some j) W W') (hnew : ∀ j, v'.ownBlock = some j → j = g ∨ W.heap.size ≤ j) :
    ∃ g' c', v' = .slice (some ⟨g', 0, none⟩) (ps.length + 1) c' ∧ AgT w mb nb g' c' (ps ++ [q]) un gs (W'.setCell ⟨mb, 2, none⟩ v') := by
  obtain ⟨g', c', cur', hv, h2, h3, h4⟩ := own_some h1 (by omega)
  subst hv
  have hM' : Mod (· = g) W W' := hM.mono (fun j hj => by have hj : some g = some j := hj; injection hj with hj; exact hj.symm)
  obtain ⟨cur, hb, _⟩ := h.blk hn
  have hgm : mb ≠ g := Blk.ne_ h.mblk hb (by decide)
  have hm1 := h.mblk.keep hM' hgm
  have hn1 := h.nblk.keep hM' (Ne.symm h.ne)
  have hS : Mod (· = mb) W' (W'.setCell ⟨mb, 2, none⟩ (.slice (some ⟨g', 0, none⟩) (ps.length + 1) c')) := (Mod.refl (· = mb) W').setCell (p := ⟨mb, 2, none⟩) (.inl rfl) _
  have hmn : nb ≠ mb := Blk.ne_ h.nblk h.mblk (by decide)
  have hlen : (ps ++ [q]).length = ps.length + 1 := by simp
  have hown : ∀ p, OwnP W w.heap.size p → OwnP (W'.setCell ⟨mb, 2, none⟩ (.slice (some ⟨g', 0, none⟩) (ps.length + 1) c')) w.heap.size p := fun p hp => ownP_blk (ownP_blk hp hb (by decide) hM') hm1 (by decide) hS
  refine ⟨g', c', rfl, ?_, ?_, hn1.keep hS hmn, ?_, ?_, ?_, h.low, by rw [hlen]; omega, (h.old.into hM' (fun j e => .inr ?_)).into hS (fun j e => .inr (by have := h.low; omega))⟩
  · rw [hlen, show rowC (ps ++ [q]) = rowC ps ++ lsU q.1 q.2 by unfold rowC; rw [List.flatMap_append, List.flatMap_singleton]]
    exact own_mod h1 hS (fun j hj e => own_ne_blk h1 hm1 (by decide) (by rw [hj, e]))
  · rw [hlen]
    exact hm1.put rfl
  · have h5 := own_mod h.un_ hM' (fun j hj e => own_ne_blk h.un_ hb (by decide) (by rw [hj, e]))
    exact own_mod h5 hS (fun j hj e => own_ne_blk h5 hm1 (by decide) (by rw [hj, e]))
  · intro p hp
    rw [List.mem_append, List.mem_singleton] at hp
    rcases hp with hp | rfl
    · exact hown p (h.own p hp)
    · exact hown _ hq
  · rcases hnew g' rfl with e | e
    · rw [e]; exact h.ne
    · have := h.nblk.lt
      omega
  · rw [e]
    obtain ⟨_, _, _, _, _, _, h9⟩ := h.blk hn
    exact h9
/-- A rendition stored in another's place. -/
theorem AgT.place (h : AgT w mb nb g c ps un gs W) (hn : 0 < ps.length) {i : Nat} (hi : i < ps.length) {q : Ls × Value} (hq : OwnP W w.heap.size q) {cur : List Value} (hc : Blk W g 35 cur.toArray) (hb : Blk W' g 35 (splice cur (i * 8) (lsU q.1 q.2)).toArray) (hm : Mod (· = g) W W') :
    AgT w mb nb g c (ps.set i q) un gs W' := by
  obtain ⟨cur', hb', h1, h2, h3, h4, h5⟩ := h.blk hn
  have e : cur = cur' := by
    unfold Blk at hc hb'
    rw [hc] at hb'
    injection hb' with hb'
    injection hb' with hb'
    exact congrArg Array.toList hb'
  subst e
  have hx : (rowC ps).length = ps.length * 8 := rowC_len ps
  have hrow := own_splice (w := W') hx h5 hb h1 h2 h3 h4 (by rw [hx, lsU_len q]; omega)
  rw [splice_rows q hi] at hrow
  have hlen : (ps.set i q).length = ps.length := List.length_set
  have hmg : mb ≠ g := Blk.ne_ h.mblk hc (by decide)
  refine ⟨by rw [hlen]; exact hrow, by rw [hlen]; exact h.mblk.keep hm hmg, h.nblk.keep hm (Ne.symm h.ne), own_mod h.un_ hm (fun j hj e => own_ne_blk h.un_ hc (by decide) (by rw [hj, e])), ?_, h.ne, h.low, by rw [hlen]; exact h.len, h.old.into hm (fun j e => .inr (by rw [e]; exact h5))⟩
  intro p hp
  rcases List.mem_or_eq_of_mem_set hp with hp | rfl
  · exact ownP_blk (h.own p hp) hc (by decide) hm
  · exact ownP_blk hq hc (by decide) hm
theorem splice_pc : ∀ (L : List Pc) (p : Nat) (x : Pc) (f : Int), L[p]? = some x → splice (L.flatMap pcV) (p * 3) [.int .i64 f] = (L.set p { x with fr := f }).flatMap pcV
  | [], p, x, f, h => by simp at h
  | y :: r, 0, x, f, h => by
    simp at h
    subst h
    rw [List.flatMap_cons, List.set_cons_zero, List.flatMap_cons]
    unfold splice
    rw [Nat.zero_mul, List.take_zero]
    rfl
  | y :: r, p + 1, x, f, h => by
    rw [List.getElem?_cons_succ] at h
    have ih := splice_pc r p x f h
    rw [List.flatMap_cons, List.set_cons_succ, List.flatMap_cons, ← ih, show (p + 1) * 3 = (pcV y).length + p * 3 by rw [pcV_len]; omega, splice_at]
/-- One piece's frames turned. -/
theorem pcs_put {B j n cc p : Nat} {L : List Pc} {x : Pc} (h : PcsOwn W B (.slice (some ⟨j, 0, none⟩) n cc) L) (hp : L[p]? = some x) (f : Int) : PcsOwn (W.setCell ⟨j, p * 3, none⟩ (.int .i64 f)) B (.slice (some ⟨j, 0, none⟩) n cc) (L.set p { x with fr := f }) ∧ (∃ cur, Blk W j 32 cur) ∧ W.cell? ⟨j, p * 3, none⟩ = some (.int .i64 x.fr) ∧ L.length = n := by
  have hlt := (List.getElem?_eq_some_iff.1 hp).1
  obtain ⟨g', cap, cur, hv, h1, h2, h3, h4, h5, h6⟩ := own_some h (by omega)
  injection hv with e1 e2 e3
  injection e1 with e1
  injection e1 with e1
  subst e1
  subst e3
  have hx := flat_length pcV_len L
  have hb2 : Blk (W.setCell ⟨j, p * 3, none⟩ (.int .i64 f)) j 32 (splice cur.toList (p * 3) [.int .i64 f]).toArray := by
    rw [← set_splice (by omega)]
    exact h2.put rfl
  have hrow := own_splice (w := W.setCell ⟨j, p * 3, none⟩ (.int .i64 f)) hx h1 hb2 h3 h4 (by rw [Array.length_toList]; exact h5) h6 (by rw [hx]; simp; omega)
  rw [splice_pc L p x f hp] at hrow
  refine ⟨?_, ⟨cur, h2⟩, ?_, e2.symm⟩
  · unfold PcsOwn
    rw [List.length_set, e2]
    exact hrow
  · have h' : W.ownsRow B 32 3 (.slice (some ⟨j, 0, none⟩) L.length cc) L.length (L.flatMap pcV) := by unfold PcsOwn at h; rw [e2] at h; exact h
    refine own_cell h' ?_
    rw [← Nat.add_zero (p * 3), flat_get pcV_len hp 0 (by omega)]
    rfl
theorem pcs_turn {j n cc p : Nat} {f f' : Int} (h : PcsOwn W w.heap.size (.slice (some ⟨j, 0, none⟩) n cc) (pcsFrom kLo 0 gs)) (hp : gs[p]? = some f) : PcsOwn (W.setCell ⟨j, p * 3, none⟩ (.int .i64 f')) w.heap.size (.slice (some ⟨j, 0, none⟩) n cc) (pcsFrom kLo 0 (gs.set p f')) := by
  rw [pcs_set]
  exact (pcs_put h (pcs_at kLo 0 gs p f hp) f').1
theorem pcs_here {j n cc p : Nat} {f : Int} (h : PcsOwn W w.heap.size (.slice (some ⟨j, 0, none⟩) n cc) (pcsFrom kLo 0 gs)) (hp : gs[p]? = some f) : (∃ cur, Blk W j 32 cur) ∧ W.cell? ⟨j, p * 3, none⟩ = some (.int .i64 f) := by
  have := pcs_put h (pcs_at kLo 0 gs p f hp) 0
  exact ⟨this.2.1, this.2.2.1⟩
/-- A piece of the rendition beside it turned; it lies in no row of the manifest's. -/
theorem AgT.piece {j n cc p : Nat} {f : Int} (h : AgT w mb nb g c ps (.slice (some ⟨j, 0, none⟩) n cc) gs W) (hsep : ∀ x ∈ ps, ∀ k, x.2.ownBlock = some k → k ≠ j) (hp : gs[p]? = some f) (f' : Int) : AgT w mb nb g c ps (.slice (some ⟨j, 0, none⟩) n cc) (gs.set p f') (W.setCell ⟨j, p * 3, none⟩ (.int .i64 f')) := by
  have hm : Mod (· = j) W (W.setCell ⟨j, p * 3, none⟩ (.int .i64 f')) := (Mod.refl (· = j) W).setCell (p := ⟨j, p * 3, none⟩) (.inl rfl) _
  obtain ⟨⟨cur, hb⟩, _⟩ := pcs_here h.un_ hp
  have hlow := (own_blk h.un_ (k := j) rfl).1
  exact ⟨own_mod h.row hm (fun k hk e => own_ne_blk h.row hb (by decide) (by rw [hk, e])), h.mblk.keep hm (Blk.ne_ h.mblk hb (by decide)), h.nblk.keep hm (Blk.ne_ h.nblk hb (by decide)), pcs_turn h.un_ hp, fun x hx => (h.own x hx).mod hm (fun k hk e => hsep x hx k hk e), h.ne, h.low, h.len, h.old.into hm (fun k e => .inr (by rw [e]; exact hlow))⟩
/-- A piece turned that is the manifest's second rendition's, too. -/
theorem AgT.piece2 {j n cc p : Nat} {f : Int} {x : Ls × Value} {hs : List Int} (h : AgT w mb nb g c [x, (loL hs, .slice (some ⟨j, 0, none⟩) n cc)] (.slice (some ⟨j, 0, none⟩) n cc) gs W) (hsep : ∀ k, x.2.ownBlock = some k → k ≠ j) (hp : gs[p]? = some f) (f' : Int) (hok : FsOk (gs.set p f')) :
    AgT w mb nb g c [x, (loL (gs.set p f'), .slice (some ⟨j, 0, none⟩) n cc)] (.slice (some ⟨j, 0, none⟩) n cc) (gs.set p f') (W.setCell ⟨j, p * 3, none⟩ (.int .i64 f')) := by
  have hm : Mod (· = j) W (W.setCell ⟨j, p * 3, none⟩ (.int .i64 f')) := (Mod.refl (· = j) W).setCell (p := ⟨j, p * 3, none⟩) (.inl rfl) _
  obtain ⟨⟨cur, hb⟩, _⟩ := pcs_here h.un_ hp
  have hlow := (own_blk h.un_ (k := j) rfl).1
  refine ⟨own_mod h.row hm (fun k hk e => own_ne_blk h.row hb (by decide) (by subst e; exact hk)), h.mblk.keep hm (Blk.ne_ h.mblk hb (by decide)), h.nblk.keep hm (Blk.ne_ h.nblk hb (by decide)), pcs_turn h.un_ hp, fun y hy => ?_, h.ne, h.low, h.len, h.old.into hm (fun k e => .inr (by rw [e]; exact hlow))⟩
  simp only [List.mem_cons, List.not_mem_nil, or_false] at hy
  rcases hy with rfl | rfl
  · exact (h.own _ (by simp)).mod hm (fun k hk e => hsep k hk e)
  · exact lo_own (pcs_turn h.un_ hp) hok
/-- The first pieces alone. -/
theorem pcs_less {B j n cc m : Nat} {L : List Pc} (h : PcsOwn W B (.slice (some ⟨j, 0, none⟩) n cc) L) (h0 : 0 < L.length) (hm : m ≤ L.length) : PcsOwn W B (.slice (some ⟨j, 0, none⟩) m cc) (L.take m) := by
  obtain ⟨g', cap, cur, hv, h1, h2, h3, h4, h5, h6⟩ := own_some h h0
  injection hv with e1 e2 e3
  injection e1 with e1
  injection e1 with e1
  subst e1
  subst e3
  have hl : (L.take m).length = m := by rw [List.length_take]; omega
  unfold PcsOwn
  rw [hl]
  refine ⟨by rw [flat_length pcV_len, hl], .inr ⟨j, cc, cur, rfl, h1, h2, by omega, h4, h5, ?_⟩⟩
  have e3 : (L.take m).flatMap pcV = (L.flatMap pcV).take (m * 3) := by
    conv => rhs; rw [← List.take_append_drop m L, List.flatMap_append]
    rw [List.take_left' (by rw [flat_length pcV_len, hl])]
  rw [e3, ← h6, List.take_take]
  congr 1
  omega
end Go.Proofs.YtkobngipbhjfjaaDoor
