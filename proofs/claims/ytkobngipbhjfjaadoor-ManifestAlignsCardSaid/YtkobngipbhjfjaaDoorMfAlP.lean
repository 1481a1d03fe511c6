/-
  Going together, in plain Lean: two renditions of the same frames, of one frame more, of a piece less.
-/
import Derived.Test.YtkobngipbhjfjaaDoorMfAlive
import Derived.Laws.Bits128
namespace Go.Proofs.YtkobngipbhjfjaaDoor

theorem and_mask (v : Int) (k : Nat) (hk : k ≤ 10) : 0 ≤ bits .and .i64 v ((2 ^ k - 1 : Nat) : Int) ∧ bits .and .i64 v ((2 ^ k - 1 : Nat) : Int) ≤ ((2 ^ k - 1 : Nat) : Int) := by
  have h2 : 2 ^ k ≤ 1024 := by
    have := Nat.pow_le_pow_right (show 0 < 2 by omega) hk
    omega
  have hb : (BitVec.ofInt 64 v &&& BitVec.ofInt 64 ((2 ^ k - 1 : Nat) : Int)).toNat ≤ 2 ^ k - 1 := by
    rw [BitVec.toNat_and]
    refine Nat.le_trans Nat.and_le_right ?_
    rw [BitVec.toNat_ofInt]
    omega
  have e : bits .and .i64 v ((2 ^ k - 1 : Nat) : Int) = IntKind.i64.wrap ((BitVec.ofInt 64 v &&& BitVec.ofInt 64 ((2 ^ k - 1 : Nat) : Int)).toNat : Nat) := rfl
  rw [e, IntKind.wrap_i64]
  generalize (BitVec.ofInt 64 v &&& BitVec.ofInt 64 ((2 ^ k - 1 : Nat) : Int)).toNat = x at hb
  omega
theorem and31 (v : Int) : 0 ≤ bits .and .i64 v 31 ∧ bits .and .i64 v 31 ≤ 31 := and_mask v 5 (by omega)
theorem and1023 (v : Int) : 0 ≤ bits .and .i64 v 1023 ∧ bits .and .i64 v 1023 ≤ 1023 := and_mask v 10 (by omega)

/-- Pieces of these frames, at paths that are numbered from i on. -/
def pcsFrom (pre : Str) : Nat → List Int → List Pc
  | _, [] => []
  | i, f :: r => ⟨f, 1, pre ++ Lib.decDigits i⟩ :: pcsFrom pre (i + 1) r
theorem pcs_len (pre : Str) : ∀ (i : Nat) (fs : List Int), (pcsFrom pre i fs).length = fs.length
  | _, [] => rfl
  | i, f :: r => by simp [pcsFrom, pcs_len pre (i + 1) r]
theorem pcs_frames (pre : Str) : ∀ (i : Nat) (fs : List Int), (pcsFrom pre i fs).map Pc.fr = fs
  | _, [] => rfl
  | i, f :: r => by simp [pcsFrom, pcs_frames pre (i + 1) r]
theorem pcs_paths (pre : Str) : ∀ (i : Nat) (fs : List Int), (pcsFrom pre i fs).map Pc.path = (List.range' i fs.length).map fun j => pre ++ Lib.decDigits j
  | _, [] => rfl
  | i, f :: r => by simp [pcsFrom, pcs_paths pre (i + 1) r, List.range'_succ]
theorem pcs_snoc (pre : Str) (f : Int) : ∀ (i : Nat) (fs : List Int), pcsFrom pre i (fs ++ [f]) = pcsFrom pre i fs ++ [⟨f, 1, pre ++ Lib.decDigits (i + fs.length)⟩]
  | _, [] => rfl
  | i, g :: r => by
    rw [List.cons_append, pcsFrom, pcs_snoc pre f (i + 1) r, pcsFrom, List.cons_append, List.length_cons, show i + 1 + r.length = i + (r.length + 1) by omega]
theorem pcs_at (pre : Str) : ∀ (i : Nat) (fs : List Int) (j : Nat) (f : Int), fs[j]? = some f → (pcsFrom pre i fs)[j]? = some ⟨f, 1, pre ++ Lib.decDigits (i + j)⟩
  | _, [], j, f, h => by simp at h
  | i, g :: r, 0, f, h => by
    simp at h
    subst h
    rfl
  | i, g :: r, j + 1, f, h => by
    rw [List.getElem?_cons_succ] at h
    rw [pcsFrom, List.getElem?_cons_succ, pcs_at pre (i + 1) r j f h, show i + 1 + j = i + (j + 1) by omega]
theorem pcs_set (pre : Str) (f : Int) : ∀ (i : Nat) (fs : List Int) (j : Nat), pcsFrom pre i (fs.set j f) = (pcsFrom pre i fs).set j ⟨f, 1, pre ++ Lib.decDigits (i + j)⟩
  | _, [], _ => by simp [pcsFrom]
  | i, g :: r, 0 => rfl
  | i, g :: r, j + 1 => by
    rw [List.set_cons_succ, pcsFrom, pcs_set pre f (i + 1) r j, pcsFrom, List.set_cons_succ, show i + 1 + j = i + (j + 1) by omega]
theorem pcs_take (pre : Str) : ∀ (i : Nat) (fs : List Int) (j : Nat), pcsFrom pre i (fs.take j) = (pcsFrom pre i fs).take j
  | _, [], _ => by simp [pcsFrom]
  | i, g :: r, 0 => rfl
  | i, g :: r, j + 1 => by rw [List.take_succ_cons, pcsFrom, pcs_take pre (i + 1) r j, pcsFrom, List.take_succ_cons]
def kHi : Str := [104, 105, 47]
def kLo : Str := [108, 111, 47]
def hiL (fs : List Int) : Ls := { smallL with pieces := pcsFrom kHi 0 fs }
def loL (fs : List Int) : Ls := ⟨[108, 111], 16, 16, 1, ⟨0, 1, [108, 111, 47, 105, 110, 105, 116]⟩, pcsFrom kLo 0 fs⟩
def FsOk (fs : List Int) : Prop := fs.length ≤ 10 ∧ ∀ f ∈ fs, 1 ≤ f ∧ f ≤ 33
theorem pcs_right {pre : Str} (hp : pre = kHi ∨ pre = kLo) : ∀ (fs : List Int) (i : Nat), (∀ f ∈ fs, 1 ≤ f ∧ f ≤ 33) → i + fs.length ≤ 10 → (pcsFrom pre i fs).all (pieceB 1 64) = true
  | [], _, _, _ => rfl
  | f :: r, i, h, hi => by
    rw [List.length_cons] at hi
    have hf := h f (by simp)
    rw [pcsFrom, List.all_cons, pcs_right hp r (i + 1) (fun x hx => h x (by simp [hx])) (by omega), Bool.and_true]
    unfold pieceB
    rw [Bool.and_eq_true]
    refine ⟨decide_eq_true (by show 1 ≤ f ∧ f ≤ 64 ∧ (1 : Int) ≤ 1 ∧ (1 : Int) ≤ 1048576; omega), ?_⟩
    show pathB (pre ++ Lib.decDigits i) = true
    rw [dec1 (by omega)]
    have key : ∀ i, i < 10 → pathB (kHi ++ [UInt8.ofNat (48 + i)]) = true ∧ pathB (kLo ++ [UInt8.ofNat (48 + i)]) = true := by decide
    rcases hp with rfl | rfl
    · exact (key i (by omega)).1
    · exact (key i (by omega)).2
theorem sum_le : ∀ (fs : List Int), (∀ f ∈ fs, 1 ≤ f ∧ f ≤ 33) → fs.sum ≤ 33 * (fs.length : Int)
  | [], _ => by simp
  | f :: r, h => by
    have h1 := sum_le r (fun x hx => h x (by simp [hx]))
    have h2 := h f (by simp)
    rw [List.sum_cons, List.length_cons]
    omega
theorem hi_listed {fs : List Int} (h : FsOk fs) (h1 : 1 ≤ fs.length) : listedB (hiL fs) = true := by
  have hs := sum_le fs h.2
  unfold listedB
  have e : framesL (hiL fs).pieces = fs.sum := by unfold framesL hiL; rw [pcs_frames]
  rw [show (hiL fs).pieces.all (pieceB 1 64) = true from pcs_right (.inl rfl) fs 0 h.2 (by have := h.1; omega), decide_eq_true (show 1 ≤ (hiL fs).pieces.length ∧ framesL (hiL fs).pieces ≤ 1024 by
    rw [e]
    refine ⟨?_, by have := h.1; omega⟩
    show 1 ≤ (pcsFrom kHi 0 fs).length
    rw [pcs_len]
    exact h1)]
  rfl
theorem lo_listed {fs : List Int} (h : FsOk fs) (h1 : 1 ≤ fs.length) : listedB (loL fs) = true := by
  have hs := sum_le fs h.2
  unfold listedB
  have e : framesL (loL fs).pieces = fs.sum := by unfold framesL loL; rw [pcs_frames]
  rw [show (loL fs).pieces.all (pieceB 1 64) = true from pcs_right (.inr rfl) fs 0 h.2 (by have := h.1; omega), decide_eq_true (show 1 ≤ (loL fs).pieces.length ∧ framesL (loL fs).pieces ≤ 1024 by
    rw [e]
    refine ⟨?_, by have := h.1; omega⟩
    show 1 ≤ (pcsFrom kLo 0 fs).length
    rw [pcs_len]
    exact h1)]
  rfl
def numbered (pre : Str) (n : Nat) : List Str := (List.range' 0 n).map fun j => pre ++ [UInt8.ofNat (48 + j)]
theorem numbered_is (pre : Str) (fs : List Int) (h : fs.length ≤ 10) : (pcsFrom pre 0 fs).map Pc.path = numbered pre fs.length := by
  rw [pcs_paths]
  unfold numbered
  refine List.map_congr_left fun j hj => ?_
  rw [List.mem_range'_1] at hj
  rw [dec1 (by omega)]
theorem nodup_two : ∀ n, n ≤ 10 → ∀ k, k ≤ 10 → (([104, 105, 47, 105, 110, 105, 116] : Str) :: numbered kHi n ++ (([108, 111, 47, 105, 110, 105, 116] : Str) :: numbered kLo k)).Nodup := by
  intro n hn k hk
  have h1 : ∀ n, n ≤ 10 → (([104, 105, 47, 105, 110, 105, 116] : Str) :: numbered kHi n).Nodup ∧ (([108, 111, 47, 105, 110, 105, 116] : Str) :: numbered kLo n).Nodup ∧ (∀ x ∈ (([104, 105, 47, 105, 110, 105, 116] : Str) :: numbered kHi n), x.head? = some 104) ∧ (∀ x ∈ (([108, 111, 47, 105, 110, 105, 116] : Str) :: numbered kLo n), x.head? = some 108) := by decide
  rw [List.nodup_append]
  refine ⟨(h1 n hn).1, (h1 k hk).2.1, fun a ha b hb e => ?_⟩
  subst e
  have h2 := (h1 n hn).2.2.1 a ha
  have h3 := (h1 k hk).2.2.2 a hb
  rw [h2] at h3
  cases h3
theorem one_right {fs : List Int} (h : FsOk fs) (h1 : 1 ≤ fs.length) : rightB ⟨30, 1, [hiL fs]⟩ = true := by
  have hn := nodup_two fs.length h.1 0 (by omega)
  unfold rightB
  simp only [Bool.and_eq_true, decide_eq_true_eq, List.all_cons, List.all_nil, hi_listed h h1, and_true]
  refine ⟨⟨by simp, by simp⟩, ?_⟩
  unfold pathsL
  show ((smallL.init.path :: (pcsFrom kHi 0 fs).map Pc.path) ++ []).Nodup
  rw [numbered_is kHi fs h.1, List.append_nil]
  exact (List.nodup_append.1 hn).1
theorem two_right {fs gs : List Int} (h : FsOk fs) (h1 : 1 ≤ fs.length) (h' : FsOk gs) (h1' : 1 ≤ gs.length) : rightB ⟨30, 1, [hiL fs, loL gs]⟩ = true := by
  have hn := nodup_two fs.length h.1 gs.length h'.1
  unfold rightB
  simp only [Bool.and_eq_true, decide_eq_true_eq, List.all_cons, List.all_nil, hi_listed h h1, lo_listed h' h1', and_true]
  refine ⟨⟨by simp, by show ([[104, 105], [108, 111]] : List Str).Nodup; decide⟩, ?_⟩
  unfold pathsL
  show ((smallL.init.path :: (pcsFrom kHi 0 fs).map Pc.path) ++ (([108, 111, 47, 105, 110, 105, 116] :: (pcsFrom kLo 0 gs).map Pc.path) ++ [])).Nodup
  rw [numbered_is kHi fs h.1, numbered_is kLo gs h'.1, List.append_nil]
  exact hn
theorem one_align {fs : List Int} (h : FsOk fs) (h1 : 1 ≤ fs.length) : alignO ⟨30, 1, [hiL fs]⟩ = 0 := by
  unfold alignO
  rw [if_pos (one_right h h1)]
  simp [alignB]
theorem frames_hi (fs : List Int) : framesOf (hiL fs).pieces = fs := pcs_frames kHi 0 fs
theorem frames_lo (fs : List Int) : framesOf (loL fs).pieces = fs := pcs_frames kLo 0 fs
theorem two_align {fs gs : List Int} (h : FsOk fs) (h1 : 1 ≤ fs.length) (h' : FsOk gs) (h1' : 1 ≤ gs.length) : alignO ⟨30, 1, [hiL fs, loL gs]⟩ = if fs = gs then 0 else 182 := by
  unfold alignO
  rw [if_pos (two_right h h1 h' h1')]
  unfold alignB
  simp only [List.all_cons, List.all_nil, frames_hi, frames_lo, decide_true, Bool.true_and, Bool.and_true]
  by_cases e : fs = gs
  · subst e
    simp
  · rw [if_neg e, decide_eq_false (fun h => e h.symm)]
    rfl
theorem none_align (fs : List Int) : alignO ⟨30, 1, [hiL fs, loL []]⟩ = 181 := by
  unfold alignO
  rw [if_neg]
  have : listedB (loL []) = false := by decide
  unfold rightB
  simp [this]
end Go.Proofs.YtkobngipbhjfjaaDoor
