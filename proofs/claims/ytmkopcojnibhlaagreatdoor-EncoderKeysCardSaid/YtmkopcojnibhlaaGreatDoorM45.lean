/-
  Arguments opened: frames, sequences, pairs.
-/
import Derived.Test.YtmkopcojnibhlaaGreatDoorM44
import Derived.Test.YtmkopcojnibhlaaGreatDoorM40
import Derived.Test.YtmkopcojnibhlaaGreatDoorM21
import Derived.Test.YtmkopcojnibhlaaGreatDoorM0
import Derived.Test.YtmkopcojnibhlaaGreatDoorM19
import Derived.Test.YtmkopcojnibhlaaGreatDoorRows
import Derived.Laws.IdiomArrays
import Derived.Deep.Slices
import Derived.Deep.Strs
import Derived.ChangeArms
import Derived.OpenShut
import Derived.ShutString
import Derived.ChangeOld
import Derived.JoinedCond
import Derived.Lib.LaidIn
import Derived.Lib.LaidTab
import Derived.Deep.DeepWitnessRowRef
import Derived.Deep.DeepHandedRow
import Derived.MakeChecks
import Derived.ProofKit
import Derived.FnData
import Derived.Lib.SmallJoins
namespace Go.Proofs.YtmkopcojnibhlaaGreatDoor
open Go.RowKit Go.ChangeShapes Go.WideShapes Go.ChangeAt Go.Joins Go.Deep

section
variable {H : Type} {enc : TypeId × Value → H} {w : World} {base : Nat} {held : Bool}
theorem cellsIN : Tryz.prog.cellsOf 3 = 1 := by kernel_rfl
theorem cellsBS : Tryz.prog.cellsOf 36 = 1 := by kernel_rfl
theorem cellsPL : Tryz.prog.cellsOf 38 = 3 := by kernel_rfl
theorem cellsFRT : Tryz.prog.cellsOf 40 = 9 := by kernel_rfl
theorem cellsSQT : Tryz.prog.cellsOf 23 = 3 := by kernel_rfl
theorem int_form {fuel : Nat} {v : Value} {x : DataW H × List MemPlace} (h : DataW.trod enc Tryz.prog w base (fun _ => true) held fuel 3 [v] = some x) : ∃ n, v = .int .i64 n ∧ -9223372036854775808 ≤ n ∧ n ≤ 9223372036854775807 := by
  obtain ⟨n, e, _, hw⟩ := DataW.trod_int Tryz.underlying3 h
  injection e with e
  exact ⟨n, e, bounds_i64 hw⟩
set_option maxRecDepth 100000 in
theorem pl_form {fuel : Nat} {cs : List Value} {x : DataW H × List MemPlace} (h : DataW.trod enc Tryz.prog w base (fun _ => true) held fuel 38 cs = some x) :
    ∃ (W Y : Int) (A : Option Addr) (n c : Nat) (l : List UInt8), cs = [.int .i64 W, .int .i64 Y, .slice A n c] ∧ BytesIn w A n c l ∧ n ≤ c ∧ n ≤ 9223372036854775807 := by
  obtain ⟨y0, y1, y2, n, _, hl, h0, h1, h2⟩ := trod_struct3 Tryz.underlying38 h
  rw [cellsPL] at hl
  rw [cellsIN] at h0 h1
  rw [cellsBS] at h2
  match cs, hl with
  | [a, b, c], _ =>
    obtain ⟨x0, rfl, _⟩ := int_form h0
    obtain ⟨x1, rfl, _⟩ := int_form h1
    obtain ⟨A, n, k, l, rfl, hn, hin⟩ := bytes_form h2
    exact ⟨x0, x1, A, n, k, l, rfl, hin, bytes_cap h2, by unfold maxLen at hn; omega⟩
set_option maxRecDepth 100000 in
theorem fr_form {fuel : Nat} {cs : List Value} {x : DataW H × List MemPlace} (h : DataW.trod enc Tryz.prog w base (fun _ => true) held fuel 40 cs = some x) : ∃ f : FrX, f.In w ∧ cs = f.cells := by
  obtain ⟨y0, y1, y2, n, _, hl, h0, h1, h2⟩ := trod_struct3 Tryz.underlying40 h
  rw [cellsFRT] at hl
  rw [cellsPL] at h0 h1 h2
  match cs, hl with
  | [a0, a1, a2, a3, a4, a5, a6, a7, a8], _ =>
    obtain ⟨W0, Y0, A0, n0, c0, l0, e0, b0, k0, m0⟩ := pl_form h0
    obtain ⟨W1, Y1, A1, n1, c1, l1, e1, b1, k1, m1⟩ := pl_form h1
    obtain ⟨W2, Y2, A2, n2, c2, l2, e2, b2, k2, m2⟩ := pl_form h2
    have e0' : [a0, a1, a2] = [.int .i64 W0, .int .i64 Y0, .slice A0 n0 c0] := e0
    have e1' : [a3, a4, a5] = [.int .i64 W1, .int .i64 Y1, .slice A1 n1 c1] := e1
    have e2' : [a6, a7, a8] = [.int .i64 W2, .int .i64 Y2, .slice A2 n2 c2] := e2
    simp only [List.cons.injEq, and_true] at e0' e1' e2'
    obtain ⟨rfl, rfl, rfl⟩ := e0'
    obtain ⟨rfl, rfl, rfl⟩ := e1'
    obtain ⟨rfl, rfl, rfl⟩ := e2'
    exact ⟨⟨W0, Y0, A0, n0, c0, W1, Y1, A1, n1, c1, W2, Y2, A2, n2, c2, l0, l1, l2⟩, ⟨b0, b1, b2, k0, k1, k2, m0, m1, m2⟩, rfl⟩
theorem sq_form {fuel : Nat} {cs : List Value} {x : DataW H × List MemPlace} (h : DataW.trod enc Tryz.prog w base (fun _ => true) held fuel 23 cs = some x) : ∃ W Y G : Int, cs = [.int .i64 W, .int .i64 Y, .int .i64 G] ∧ (-9223372036854775808 ≤ W ∧ W ≤ 9223372036854775807) ∧ (-9223372036854775808 ≤ Y ∧ Y ≤ 9223372036854775807) ∧ (-9223372036854775808 ≤ G ∧ G ≤ 9223372036854775807) := by
  obtain ⟨y0, y1, y2, n, _, hl, h0, h1, h2⟩ := trod_struct3 Tryz.underlying23 h
  rw [cellsSQT] at hl
  rw [cellsIN] at h0 h1 h2
  match cs, hl with
  | [a, b, c], _ =>
    obtain ⟨x0, rfl, w0⟩ := int_form h0
    obtain ⟨x1, rfl, w1⟩ := int_form h1
    obtain ⟨x2, rfl, w2⟩ := int_form h2
    exact ⟨x0, x1, x2, rfl, w0, w1, w2⟩
theorem fr_choose (n : Nat) (P : Nat → FrX → Prop) (h : ∀ i, i < n → ∃ l, P i l) : ∃ ls : List FrX, ls.length = n ∧ ∀ i, i < n → P i (ls.getD i FrX.zero) := by
  induction n with
  | zero => exact ⟨[], rfl, fun i h => absurd h (by omega)⟩
  | succ n ih =>
    obtain ⟨ls, h1, h2⟩ := ih (fun i hi => h i (by omega))
    obtain ⟨l, hl⟩ := h n (by omega)
    refine ⟨ls ++ [l], by simp [h1], fun i hi => ?_⟩
    rw [List.getD_eq_getElem?_getD]
    by_cases e : i = n
    · subst e
      rw [List.getElem?_append_right (by omega), h1, Nat.sub_self]
      exact hl
    · rw [List.getElem?_append_left (by omega), ← List.getD_eq_getElem?_getD]
      exact h2 i (by omega)
theorem frs_form {fuel : Nat} {v : Value} {x : DataW H × List MemPlace} (h : DataW.trod enc Tryz.prog w base (fun _ => true) held fuel 25 [v] = some x) : ∃ A n c fs, v = .slice A n c ∧ n ≤ 9223372036854775807 ∧ FrsIn w A n fs := by
  rcases open_slice Tryz.underlying25 h with ⟨hcs, _⟩ | ⟨a, len, cap, m, n, D, Pl, hcs, _, hl, hm, hmm, _, hall⟩
  · injection hcs with hcs
    exact ⟨none, 0, 0, [], hcs, by omega, rfl, fun i hi => absurd hi (by omega)⟩
  · injection hcs with hcs
    rw [if_pos rfl] at hmm
    subst hmm
    have each : ∀ i, i < len → ∃ f : FrX, ∃ b o, some a = some ⟨b, o, none⟩ ∧ b < w.heap.size ∧ (∀ (j : Nat) (v : Value), f.cells[j]? = some v → w.cell? ⟨b, o + i * 9 + j, none⟩ = some v) ∧ f.In w := by
      intro i hi
      obtain ⟨cs', hc, ht⟩ := hall i (by omega)
      rw [cellsFRT] at hc
      obtain ⟨_, hcl, hat⟩ := World.cells?_some hc
      obtain ⟨f, hf, rfl⟩ := fr_form ht
      obtain ⟨b, off, spot⟩ := a
      have hspot : spot = none := by
        obtain ⟨cs0, hc0, ht0⟩ := hall 0 (by omega)
        obtain ⟨_, hcl0, hat0⟩ := World.cells?_some hc0
        have z0 := hat0 0 (by have := cellsFRT; omega)
        rw [Nat.zero_mul] at z0
        obtain ⟨v0, hv0⟩ : ∃ v, cs0[0]? = some v := ⟨_, List.getElem?_eq_getElem (by have := cellsFRT; omega)⟩
        rw [hv0] at z0
        exact World.cell?_spot z0
      subst hspot
      have hk : ∀ (j : Nat) (v : Value), f.cells[j]? = some v → w.cell? ⟨b, off + i * 9 + j, none⟩ = some v := by
        intro j v hv
        have hj : j < 9 := by
          have := (List.getElem?_eq_some_iff.1 hv).1
          exact this
        have k := hat j (by omega)
        rw [addr_add', addr_add'] at k
        rw [k]
        exact hv
      have k0 := hk 0 _ rfl
      exact ⟨f, b, off, rfl, World.block_lt_of_cell? w _ k0, hk, hf⟩
    obtain ⟨ls, e1, e2⟩ := fr_choose len (fun i f => ∃ b o, some a = some ⟨b, o, none⟩ ∧ b < w.heap.size ∧ (∀ (j : Nat) (v : Value), f.cells[j]? = some v → w.cell? ⟨b, o + i * 9 + j, none⟩ = some v) ∧ f.In w) each
    exact ⟨some a, len, _, ls, hcs, by unfold maxLen at hm; omega, e1, e2⟩
set_option maxRecDepth 100000 in
theorem open_fr {r : Reach} {b0 : Nat} {v : Value} {d : DataW H} {p : List MemPlace} (hv : Value.okWide Tryz.prog w r b0 40 v) (h : DataW.Trod enc Tryz.prog w base (fun _ => true) held 40 v d p) : ∃ f : FrX, f.In w ∧ v = .agg f.cells.toArray := by
  obtain ⟨cs, rfl, _⟩ := okWide_struct Tryz.underlying40 hv
  obtain ⟨fuel, hf⟩ := h
  obtain ⟨f, hin, e⟩ := fr_form hf
  refine ⟨f, hin, ?_⟩
  have e' : cs.toList = f.cells := e
  rw [← e']
set_option maxRecDepth 100000 in
theorem open_sq {r : Reach} {b0 : Nat} {v : Value} {d : DataW H} {p : List MemPlace} (hv : Value.okWide Tryz.prog w r b0 23 v) (h : DataW.Trod enc Tryz.prog w base (fun _ => true) held 23 v d p) :
    ∃ W Y G : Int, v = .agg #[.int .i64 W, .int .i64 Y, .int .i64 G] ∧ (-9223372036854775808 ≤ W ∧ W ≤ 9223372036854775807) ∧ (-9223372036854775808 ≤ Y ∧ Y ≤ 9223372036854775807) ∧ (-9223372036854775808 ≤ G ∧ G ≤ 9223372036854775807) := by
  obtain ⟨cs, rfl, _⟩ := okWide_struct Tryz.underlying23 hv
  obtain ⟨fuel, hf⟩ := h
  obtain ⟨W, Y, G, e, hb⟩ := sq_form hf
  refine ⟨W, Y, G, ?_, hb⟩
  have e' : cs.toList = [.int .i64 W, .int .i64 Y, .int .i64 G] := e
  exact congrArg Value.agg (Array.toArray_toList.symm.trans (congrArg List.toArray e'))
set_option maxRecDepth 100000 in
theorem open_frs {r : Reach} {b0 : Nat} {v : Value} {d : DataW H} {p : List MemPlace} (hv : Value.okWide Tryz.prog w r b0 25 v) (h : DataW.Trod enc Tryz.prog w base (fun _ => true) held 25 v d p) : ∃ A n c fs, v = .slice A n c ∧ n ≤ 9223372036854775807 ∧ FrsIn w A n fs := by
  obtain ⟨a0, len0, cap0, rfl⟩ := okWide_slice Tryz.underlying25 hv
  obtain ⟨fuel, hf⟩ := h
  have hf' : DataW.trod enc Tryz.prog w base (fun _ => true) held fuel 25 [.slice a0 len0 cap0] = some (d, p) := by simpa [Value.cells] using hf
  exact frs_form hf'
theorem cellsA2 : Tryz.prog.cellsOf 24 = 2 := by kernel_rfl
set_option maxRecDepth 100000 in
theorem open_pair {r : Reach} {b0 : Nat} {v : Value} {d : DataW H} {p : List MemPlace} (hv : Value.okWide Tryz.prog w r b0 24 v) (h : DataW.Trod enc Tryz.prog w base (fun _ => true) held 24 v d p) :
    ∃ a b : Int, v = .agg #[.int .i64 a, .int .i64 b] ∧ (-9223372036854775808 ≤ a ∧ a ≤ 9223372036854775807) ∧ (-9223372036854775808 ≤ b ∧ b ≤ 9223372036854775807) := by
  obtain ⟨cs, rfl⟩ : ∃ cs, v = .agg cs := by
    simp only [Value.okWide, Tryz.underlying24] at hv
    obtain ⟨cs, h1, _⟩ := hv
    exact ⟨cs, h1⟩
  obtain ⟨fuel, hf⟩ := h
  have hf' : DataW.trod enc Tryz.prog w base (fun _ => true) held fuel 24 cs.toList = some (d, p) := hf
  obtain ⟨xs, m, rfl, hx, hl, hxl, hall⟩ := DataW.trod_array Tryz.underlying24 hf'
  rw [cellsA2] at hl
  rw [cellsIN] at hall
  obtain ⟨l, hcl⟩ : ∃ l, l = cs.toList := ⟨_, rfl⟩
  rw [← hcl] at hl hall
  match l, hl with
  | [c0, c1], _ =>
    have g0 := hall 0 (by omega)
    have g1 := hall 1 (by omega)
    rw [List.getElem?_eq_getElem (by omega)] at g0 g1
    obtain ⟨n0, e0, b0⟩ := int_form (v := c0) g0
    obtain ⟨n1, e1, b1⟩ := int_form (v := c1) g1
    refine ⟨n0, n1, ?_, b0, b1⟩
    rw [← e0, ← e1]
    exact congrArg Value.agg (Array.toArray_toList.symm.trans (congrArg List.toArray hcl.symm))
end
end Go.Proofs.YtmkopcojnibhlaaGreatDoor

/-
  What the encoder reads of its package's variable, out of the row's list; one start that fits.
-/
namespace Go.Proofs.YtmkopcojnibhlaaGreatDoor
open Go Go.RowKit Go.ChangeShapes Go.WideShapes Go.ChangeAt Go.Joins Go.Deep

def laidAll : List (String × DataW Unit) := [("kinora/encoder.places", Rows.laid_kinora_encoder_places)]
theorem laid_plain {W : World} (h : laidMetH Tryz.prog laidAll W) : laidMet Tryz.prog laidAll W := by
  rw [Go.MakeChecks.laidMetH_plain Tryz.prog laidAll W (by kernel_rfl)] at h
  exact h
section
variable {H : Type} {enc : TypeId × Value → H} {w : World} {base : Nat} {sp : Nat → Bool} {held : Bool}
theorem cellsPLC : Tryz.prog.cellsOf 162 = 3 := by kernel_rfl
theorem cellsINT1 : Tryz.prog.cellsOf 3 = 1 := by kernel_rfl
theorem int_lit {fuel : Nat} {v : Value} {x : DataW H × List MemPlace} (h : DataW.trod enc Tryz.prog w base sp held fuel 3 [v] = some x) : ∃ n, v = .int .i64 n ∧ x = (.lit (.int .i64 n), []) := by
  obtain ⟨n, e, e2, _⟩ := DataW.trod_int Tryz.underlying3 h
  injection e with e
  exact ⟨n, e, e2⟩
theorem place_lit {fuel : Nat} {L : List Value} {a b c : Int} {ps : List MemPlace} (h : DataW.trod enc Tryz.prog w base sp held fuel 162 L = some (.agg [.lit (.int .i64 a), .lit (.int .i64 b), .lit (.int .i64 c)], ps)) : L = [.int .i64 a, .int .i64 b, .int .i64 c] := by
  obtain ⟨y0, y1, y2, n, hx, hl, h0, h1, h2⟩ := trod_struct3 Tryz.underlying162 h
  rw [cellsPLC] at hl
  rw [cellsINT1] at h0 h1 h2
  match L, hl with
  | [v0, v1, v2], _ =>
    obtain ⟨n0, rfl, rfl⟩ := int_lit h0
    obtain ⟨n1, rfl, rfl⟩ := int_lit h1
    obtain ⟨n2, rfl, rfl⟩ := int_lit h2
    simp only [Prod.mk.injEq, DataW.agg.injEq, List.cons.injEq, DataW.lit.injEq, Lit.int.injEq, true_and, and_true] at hx
    obtain ⟨⟨rfl, rfl, rfl⟩, _⟩ := hx
    rfl
theorem places_cells {fuel : Nat} {cs : List Value} {p : List MemPlace} (h : DataW.trod enc Tryz.prog w base sp held fuel 163 cs = some (Rows.laid_kinora_encoder_places, p)) : ∀ i, i < 18 → cs[i]? = placesV[i]? := by
  obtain ⟨xs, m, rfl, hx, hl, hxl, hall⟩ := DataW.trod_array Tryz.underlying163 h
  rw [cellsPLC] at hall
  have hm : (Rows.laid_kinora_encoder_places : DataW H) = .agg (xs.map (·.1)) := congrArg Prod.fst hx
  unfold Rows.laid_kinora_encoder_places at hm
  injection hm with hm
  have key : ∀ k a b c, k < 6 → (xs.map (·.1))[k]? = some (.agg [.lit (.int .i64 a), .lit (.int .i64 b), .lit (.int .i64 c)]) → ∀ j, j < 3 → cs[k * 3 + j]? = [Value.int .i64 a, .int .i64 b, .int .i64 c][j]? := by
    intro k a b c hk he j hj
    rw [List.getElem?_map, Option.map_eq_some_iff] at he
    obtain ⟨y, hy, hy1⟩ := he
    have h1 := hall k hk
    rw [hy] at h1
    obtain ⟨y1, y2⟩ := y
    dsimp only at hy1
    subst hy1
    rw [← place_lit h1, List.getElem?_take_of_lt hj, List.getElem?_drop]
  intro i hi
  have e0 := key 0 0 0 0 (by omega) (by rw [← hm]; rfl)
  have e1 := key 1 0 8 0 (by omega) (by rw [← hm]; rfl)
  have e2 := key 2 0 0 8 (by omega) (by rw [← hm]; rfl)
  have e3 := key 3 0 8 8 (by omega) (by rw [← hm]; rfl)
  have e4 := key 4 1 0 0 (by omega) (by rw [← hm]; rfl)
  have e5 := key 5 2 0 0 (by omega) (by rw [← hm]; rfl)
  clear key hm hall hx
  match i, hi with
  | 0, _ => exact e0 0 (by omega)
  | 1, _ => exact e0 1 (by omega)
  | 2, _ => exact e0 2 (by omega)
  | 3, _ => exact e1 0 (by omega)
  | 4, _ => exact e1 1 (by omega)
  | 5, _ => exact e1 2 (by omega)
  | 6, _ => exact e2 0 (by omega)
  | 7, _ => exact e2 1 (by omega)
  | 8, _ => exact e2 2 (by omega)
  | 9, _ => exact e3 0 (by omega)
  | 10, _ => exact e3 1 (by omega)
  | 11, _ => exact e3 2 (by omega)
  | 12, _ => exact e4 0 (by omega)
  | 13, _ => exact e4 1 (by omega)
  | 14, _ => exact e4 2 (by omega)
  | 15, _ => exact e5 0 (by omega)
  | 16, _ => exact e5 1 (by omega)
  | 17, _ => exact e5 2 (by omega)
  | n + 18, h => exact absurd h (by omega)
end
theorem env_of_laid {W : World} (h : laidMet Tryz.prog laidAll W) : EnvP W := by
  obtain ⟨ps, ⟨g', t', cs, fuel, p, q, hg', ht', hvar, hd, _, _⟩, _⟩ := h
  have hg : Tryz.prog.globalNamed "kinora/encoder.places" = some 0 := by kernel_rfl
  obtain rfl := Option.some.inj (hg.symm.trans hg')
  have hty : (Tryz.prog.globals[0]?).map (·.type) = some 163 := by kernel_rfl
  obtain rfl := Option.some.inj (hty.symm.trans ht')
  have hcs := places_cells hd
  have hc : ∀ i, i < 18 → W.cell? ⟨0, i, none⟩ = placesV[i]? := fun i hi => by
    rw [World.var?_cell hg hvar i, ← hcs i hi, Array.getElem?_toList]
  exact ⟨hc, World.block_lt_of_cell? W _ (hc 0 (by omega))⟩

/-! ### One start that fits -/
/-- The settled world; the variable holds what its initialiser lays. -/
noncomputable def laidWorld (os : Os) : World :=
  let w0 := World.holding Tryz.prog os ⟨#[], #[], []⟩
  let put (h : Array Obj) (g : Nat) (cs : Array Value) : Array Obj := h.modify g fun
    | .cells _ t frozen => .cells cs t frozen
    | o => o
  { w0 with heap := put w0.heap 0 placesV }
theorem laid_met (os : Os) (args : Array Value) : laidMet Tryz.prog laidAll ((laidWorld os).forCall (fun _ _ => 0) ⟨#[], args, []⟩).memory :=
  LaidIn.met (LaidIn.of_run [0] 8 (by kernel_rfl) (by kernel_rfl) (by kernel_rfl) (by kernel_rfl))
end Go.Proofs.YtmkopcojnibhlaaGreatDoor

/-
  The reference's Right at any sides. Written by gen_rrighta.py.
-/
namespace Go.Proofs.YtmkopcojnibhlaaGreatDoor
open Go.RowKit

theorem sr_no (W H G : Int) (h : ¬ ((16 ≤ W ∧ W ≤ 4096 ∧ W.tmod 16 = 0) ∧ (16 ≤ H ∧ H ≤ 4096 ∧ H.tmod 16 = 0) ∧ 1 ≤ G ∧ G ≤ 64)) : seqRight W H G = false := by
  unfold seqRight
  rw [decide_eq_false_iff_not]
  rintro ⟨⟨a, b, c⟩, ⟨d, e, f⟩, k⟩
  exact h ⟨⟨a, b, by rw [Int.tmod_eq_emod_of_nonneg (by omega)]; exact c⟩, ⟨d, e, by rw [Int.tmod_eq_emod_of_nonneg (by omega)]; exact f⟩, k⟩
theorem sr_yes (W H G : Int) (h : (16 ≤ W ∧ W ≤ 4096 ∧ W.tmod 16 = 0) ∧ (16 ≤ H ∧ H ≤ 4096 ∧ H.tmod 16 = 0) ∧ 1 ≤ G ∧ G ≤ 64) : seqRight W H G = true := by
  obtain ⟨⟨a, b, c⟩, ⟨d, e, f⟩, k⟩ := h
  rw [Int.tmod_eq_emod_of_nonneg (by omega)] at c f
  unfold seqRight
  rw [decide_eq_true_eq]
  exact ⟨⟨a, b, c⟩, ⟨d, e, f⟩, k⟩
set_option maxRecDepth 100000 in
set_option maxHeartbeats 4000000 in
theorem refRightA (w : World) (W H G : Int) : Calls Tryz.prog 40 #[.agg #[.int .i64 W, .int .i64 H, .int .i64 G]] w fun e w' => e = .returned (.bool (seqRight W H G)) ∧ Mod (fun _ => False) w w' := by
  by_cases c0 : W.tmod 16 = 0
  · have b0 : (W.tmod 16 == 0) = true := by simp [c0]
    by_cases c1 : H.tmod 16 = 0
    · have b1 : (H.tmod 16 == 0) = true := by simp [c1]
      by_cases c2 : 16 ≤ W
      · have b2 : decide (16 ≤ W) = true := by simp; omega
        have b0e : ((W % 16) == 0) = true := by rw [← Int.tmod_eq_emod_of_nonneg (by omega)]; exact b0
        by_cases c3 : 16 ≤ H
        · have b3 : decide (16 ≤ H) = true := by simp; omega
          have b1e : ((H % 16) == 0) = true := by rw [← Int.tmod_eq_emod_of_nonneg (by omega)]; exact b1
          by_cases c4 : W ≤ 4096
          · have b4 : decide (W ≤ 4096) = true := by simp; omega
            by_cases c5 : H ≤ 4096
            · have b5 : decide (H ≤ 4096) = true := by simp; omega
              by_cases c6 : 1 ≤ G
              · have b6 : decide (1 ≤ G) = true := by simp; omega
                by_cases c7 : G ≤ 64
                · have b7 : decide (G ≤ 64) = true := by simp; omega
                  have hr : seqRight W H G = true := sr_yes W H G ⟨⟨c2, c4, c0⟩, ⟨c3, c5, c1⟩, c6, c7⟩
                  clear c0 c1
                  have HR := Lib.hid hr
                  clear hr
                  go_enter Tryz.func40, Tryz.ntmps40
                  go_wp2_with fail
                  go_ret
                  exact ⟨congrArg (fun b => Ending.returned (.bool b)) HR.out.symm, (Mod.refl _ _).alloc _⟩
                · have b7 : decide (G ≤ 64) = false := by simp; omega
                  have hr : seqRight W H G = false := sr_no W H G (fun h => absurd h (by rintro ⟨⟨a, b, c⟩, ⟨d, e, f⟩, k, m⟩; exact c7 (by assumption)))
                  clear c7 c0 c1
                  have HR := Lib.hid hr
                  clear hr
                  go_enter Tryz.func40, Tryz.ntmps40
                  go_wp2_with fail
                  go_ret
                  exact ⟨congrArg (fun b => Ending.returned (.bool b)) HR.out.symm, (Mod.refl _ _).alloc _⟩
              · have b6 : decide (1 ≤ G) = false := by simp; omega
                have hr : seqRight W H G = false := sr_no W H G (fun h => absurd h (by rintro ⟨⟨a, b, c⟩, ⟨d, e, f⟩, k, m⟩; exact c6 (by assumption)))
                clear c6 c0 c1
                have HR := Lib.hid hr
                clear hr
                go_enter Tryz.func40, Tryz.ntmps40
                go_wp2_with fail
                go_ret
                exact ⟨congrArg (fun b => Ending.returned (.bool b)) HR.out.symm, (Mod.refl _ _).alloc _⟩
            · have b5 : decide (H ≤ 4096) = false := by simp; omega
              have hr : seqRight W H G = false := sr_no W H G (fun h => absurd h (by rintro ⟨⟨a, b, c⟩, ⟨d, e, f⟩, k, m⟩; exact c5 (by assumption)))
              clear c5 c0 c1
              have HR := Lib.hid hr
              clear hr
              go_enter Tryz.func40, Tryz.ntmps40
              go_wp2_with fail
              go_ret
              exact ⟨congrArg (fun b => Ending.returned (.bool b)) HR.out.symm, (Mod.refl _ _).alloc _⟩
          · have b4 : decide (W ≤ 4096) = false := by simp; omega
            have hr : seqRight W H G = false := sr_no W H G (fun h => absurd h (by rintro ⟨⟨a, b, c⟩, ⟨d, e, f⟩, k, m⟩; exact c4 (by assumption)))
            clear c4 c0 c1
            have HR := Lib.hid hr
            clear hr
            go_enter Tryz.func40, Tryz.ntmps40
            go_wp2_with fail
            go_ret
            exact ⟨congrArg (fun b => Ending.returned (.bool b)) HR.out.symm, (Mod.refl _ _).alloc _⟩
        · have b3 : decide (16 ≤ H) = false := by simp; omega
          have hr : seqRight W H G = false := sr_no W H G (fun h => absurd h (by rintro ⟨⟨a, b, c⟩, ⟨d, e, f⟩, k, m⟩; exact c3 (by assumption)))
          clear c3 c0 c1
          have HR := Lib.hid hr
          clear hr
          go_enter Tryz.func40, Tryz.ntmps40
          go_wp2_with fail
          go_ret
          exact ⟨congrArg (fun b => Ending.returned (.bool b)) HR.out.symm, (Mod.refl _ _).alloc _⟩
      · have b2 : decide (16 ≤ W) = false := by simp; omega
        have hr : seqRight W H G = false := sr_no W H G (fun h => absurd h (by rintro ⟨⟨a, b, c⟩, ⟨d, e, f⟩, k, m⟩; exact c2 (by assumption)))
        clear c2 c0 c1
        have HR := Lib.hid hr
        clear hr
        go_enter Tryz.func40, Tryz.ntmps40
        go_wp2_with fail
        go_ret
        exact ⟨congrArg (fun b => Ending.returned (.bool b)) HR.out.symm, (Mod.refl _ _).alloc _⟩
    · have b1 : (H.tmod 16 == 0) = false := by simp [c1]
      have hr : seqRight W H G = false := sr_no W H G (fun h => absurd h (by rintro ⟨⟨a, b, c⟩, ⟨d, e, f⟩, k, m⟩; exact c1 (by assumption)))
      clear c1 c0
      have HR := Lib.hid hr
      clear hr
      go_enter Tryz.func40, Tryz.ntmps40
      go_wp2_with fail
      go_ret
      exact ⟨congrArg (fun b => Ending.returned (.bool b)) HR.out.symm, (Mod.refl _ _).alloc _⟩
  · have b0 : (W.tmod 16 == 0) = false := by simp [c0]
    have hr : seqRight W H G = false := sr_no W H G (fun h => absurd h (by rintro ⟨⟨a, b, c⟩, ⟨d, e, f⟩, k, m⟩; exact c0 (by assumption)))
    clear c0
    have HR := Lib.hid hr
    clear hr
    go_enter Tryz.func40, Tryz.ntmps40
    go_wp2_with fail
    go_ret
    exact ⟨congrArg (fun b => Ending.returned (.bool b)) HR.out.symm, (Mod.refl _ _).alloc _⟩
end Go.Proofs.YtmkopcojnibhlaaGreatDoor

/-
  kinoralaw14's fits and small.
-/
namespace Go.Proofs.YtmkopcojnibhlaaGreatDoor
open Go.RowKit

def Fits14 (w : World) (n : Nat) (fs : List FrX) (e : Ending) (w' : World) : Prop :=
  ∃ b, e = .returned (.bool b) ∧ (b = true → n ≤ 6 ∧ ∀ j, j < n → (fs.getD j FrX.zero).fitsB = true) ∧ Mod (fun _ => False) w w'
def fitsRel14 (w : World) (n : Nat) (fs : List FrX) (v : Value) (wr : World) : Prop := ∃ k : Nat, k ≤ n ∧ k ≤ 6 ∧ v = .int .i64 (k : Int) ∧ (∀ j, j < k → (fs.getD j FrX.zero).fitsB = true) ∧ Mod (fun _ => False) w wr

set_option maxRecDepth 100000 in
set_option maxHeartbeats 2000000 in
theorem lFits14 (w : World) (A : Option Addr) (n c : Nat) (fs : List FrX) (h : FrsIn w A n fs) (hn : n ≤ 9223372036854775807) : Calls Tryz.prog 11 #[.slice A n c] w (Fits14 w n fs) := by
  have HH := Lib.hid h
  clear h
  go_enter Tryz.func11, Tryz.ntmps11
  go_wp2_with fail
  go_loopw [3] (fitsRel14 w n fs) (fun i _ => n - (intOf i).toNat)
  case atStart => exact ⟨0, by omega, by omega, rfl, fun j h => absurd h (by omega), Mod.refl _ _⟩
  case round =>
    rename World => wr
    obtain ⟨k, hk, hk6, rfl, hall, hM⟩ := hrel
    by_cases hlt : k < n
    · obtain ⟨b, o, hA, hb, hcells, hin⟩ := (HH.out.quiet hM).at_ k hlt
      subst hA
      have d1 : decide ((k : Int) < (n : Int)) = true := decide_eq_true (by omega)
      obtain ⟨f, hf⟩ : ∃ f, f = fs.getD k FrX.zero := ⟨_, rfl⟩
      rw [← hf] at hcells hin
      have hLF := lawFitsFrame wr f hin
      obtain ⟨t, ht⟩ : ∃ t, t = f.fitsB := ⟨_, rfl⟩
      rw [← ht] at hLF
      have k0 : wr.cell? ⟨b, o + k * 9, none⟩ = some (.int .i64 f.W0) := hcells 0 _ rfl
      have k1 := hcells 1 _ rfl
      have k2 := hcells 2 _ rfl
      have k3 := hcells 3 _ rfl
      have k4 := hcells 4 _ rfl
      have k5 := hcells 5 _ rfl
      have k6 := hcells 6 _ rfl
      have k7 := hcells 7 _ rfl
      have k8 := hcells 8 _ rfl
      unfold FrX.cells at hLF
      have HL := Lib.hid (And.intro hLF (And.intro hall (And.intro hM (And.intro hf ht))))
      clear hLF hall hM hf ht hcells hin
      go_wp2_with fail
      refine HL.out.1.mono ?_
      rintro e w2 ⟨rfl, hm2⟩
      have H2 := Lib.hid (HL.out.2.2.1.trans hm2)
      clear hm2 k0 k1 k2 k3 k4 k5 k6 k7 k8
      cases t
      · go_wp2_with fail
        go_ret
        exact ⟨false, rfl, fun h => (by cases h), H2.out⟩
      · by_cases h6 : k = 6
        · have d2 : ((k : Int) == 6) = true := by simp; omega
          clear h6
          go_wp2_with fail
          go_ret
          exact ⟨false, rfl, fun h => (by cases h), H2.out⟩
        · have d2 : ((k : Int) == 6) = false := by simp; omega
          go_wp2_with fail
          go_roundw
          case rel =>
            refine ⟨k + 1, by omega, by omega, by go_num, fun j hj => ?_, H2.out⟩
            by_cases e : j = k
            · rw [e, ← HL.out.2.2.2.1, ← HL.out.2.2.2.2]
            · exact HL.out.2.1 j (by omega)
          case measure => simp [intOf]; omega
    · obtain rfl : k = n := by omega
      have d1 : decide ((k : Int) < (k : Int)) = false := decide_eq_false (by omega)
      have HL := Lib.hid (And.intro hall hM)
      clear hall hM
      go_wp2_with fail
      go_ret
      exact ⟨true, rfl, fun _ => ⟨hk6, HL.out.1⟩, HL.out.2⟩

def Small14 (w : World) (W H G : Int) (e : Ending) (w' : World) : Prop :=
  ∃ b, e = .returned (.bool b) ∧ (b = true → seqRight W H G = true → W ≤ 32 ∧ H ≤ 32) ∧ Mod (fun _ => False) w w'
set_option maxRecDepth 100000 in
set_option maxHeartbeats 2000000 in
theorem lSmall14 (w : World) (W H G : Int) : Calls Tryz.prog 12 #[.agg #[.int .i64 W, .int .i64 H, .int .i64 G]] w (Small14 w W H G) := by
  have hs := (Sat.nil (fun _ => False) w).alloc 23 #[.int .i64 W, .int .i64 H, .int .i64 G] rfl
  have HS := Lib.hid hs
  clear hs
  go_enter Tryz.func12, Tryz.ntmps12
  go_wp2_with fail
  refine (refRightA _ W H G).mono ?_
  rintro e w1 ⟨rfl, hm1⟩
  have hs1 := Sat.after hm1 HS.out
  have hq := hs1.own_ 0 rfl
  dsimp only at hq
  obtain ⟨s0, sf⟩ := hq.both
  have sw : w1.cell? ⟨w.heap.size, 0, none⟩ = some (.int .i64 W) := s0 0
  have sh : w1.cell? ⟨w.heap.size, 1, none⟩ = some (.int .i64 H) := s0 1
  have H1 := Lib.hid hs1
  clear hm1 hs1 hq s0 sf
  cases hr : seqRight W H G
  · have HR := Lib.hid hr
    clear hr
    go_wp2_with fail
    go_ret
    exact ⟨true, rfl, fun _ h => (by cases h.symm.trans HR.out), H1.out.mod⟩
  · have HR := Lib.hid hr
    clear hr
    by_cases hw : W ≤ 32
    · have d1 : decide (W ≤ 32) = true := decide_eq_true hw
      by_cases hh : H ≤ 32
      · have d2 : decide (H ≤ 32) = true := decide_eq_true hh
        go_wp2_with fail
        go_ret
        exact ⟨true, rfl, fun _ _ => ⟨hw, hh⟩, H1.out.mod⟩
      · have d2 : decide (H ≤ 32) = false := decide_eq_false hh
        go_wp2_with fail
        go_ret
        exact ⟨false, rfl, fun h => (by cases h), H1.out.mod⟩
    · have d1 : decide (W ≤ 32) = false := decide_eq_false hw
      go_wp2_with fail
      go_ret
      exact ⟨false, rfl, fun h => (by cases h), H1.out.mod⟩
end Go.Proofs.YtmkopcojnibhlaaGreatDoor
