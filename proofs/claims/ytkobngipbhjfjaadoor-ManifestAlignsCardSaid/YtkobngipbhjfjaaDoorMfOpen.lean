/-
  A manifest among the arguments.
-/
import Derived.Test.YtkobngipbhjfjaaDoorMfRep
import Derived.Test.YtkobngipbhjfjaaDoorRows
import Derived.ProofKit
import Derived.OpenShut
import Derived.ShutString
import Derived.ChangeOld
import Derived.JoinedCond
import Derived.Lib.SmallJoins
import Derived.Laws.IdiomArrays
import Derived.Deep.Slices
import Derived.Deep.Strs
import Derived.ChangeArms
namespace Go.Proofs.YtkobngipbhjfjaaDoor
open Go.RowKit Go.ChangeShapes Go.WideShapes Go.ChangeAt Go.Joins Go.Deep

section
variable {H : Type} {enc : TypeId × Value → H} {w : World} {base : Nat} {held : Bool}
theorem cellsI : Tryd.prog.cellsOf 3 = 1 := by kernel_rfl
theorem cellsS : Tryd.prog.cellsOf 9 = 1 := by kernel_rfl
theorem cellsPC : Tryd.prog.cellsOf 32 = 3 := by kernel_rfl
theorem cellsLS : Tryd.prog.cellsOf 35 = 8 := by kernel_rfl
theorem cellsMF : Tryd.prog.cellsOf 24 = 3 := by kernel_rfl
theorem cellsSPC : Tryd.prog.cellsOf 33 = 1 := by kernel_rfl
theorem cellsSLS : Tryd.prog.cellsOf 22 = 1 := by kernel_rfl
theorem i64_of_wf {n : Int} (h : (Lit.int .i64 n).wf = true) : I64 n := by
  exact bounds_i64 h
theorem strOf_back (s : ByteArray) : s = strOf s.data.toList := by cases s; simp [strOf]

theorem any_choose {α : Type} (n : Nat) (P : Nat → α → Prop) (h : ∀ i, i < n → ∃ l, P i l) : ∃ ls : List α, ls.length = n ∧ ∀ i l, ls[i]? = some l → P i l := by
  induction n with
  | zero => exact ⟨[], rfl, fun i l h => by simp at h⟩
  | succ n ih =>
    obtain ⟨ls, h1, h2⟩ := ih (fun i hi => h i (by omega))
    obtain ⟨l, hl⟩ := h n (by omega)
    refine ⟨ls ++ [l], by simp [h1], fun i x hx => ?_⟩
    by_cases e : i = n
    · subst e
      rw [List.getElem?_append_right (by omega), h1, Nat.sub_self] at hx
      simp only [List.getElem?_cons_zero, Option.some.injEq] at hx
      subst hx
      exact hl
    · by_cases e2 : i < n
      · rw [List.getElem?_append_left (by omega)] at hx
        exact h2 i x hx
      · rw [List.getElem?_eq_none (by simp [h1]; omega)] at hx
        cases hx

theorem int_at {fuel : Nat} {v : Value} {x : DataW H × List MemPlace} (h : DataW.trod enc Tryd.prog w base (fun _ => true) held fuel 3 [v] = some x) : ∃ n, v = .int .i64 n ∧ I64 n := by
  obtain ⟨n, e, _, hw⟩ := DataW.trod_int Tryd.underlying3 h
  injection e with e
  exact ⟨n, e, i64_of_wf hw⟩
theorem str_at {fuel : Nat} {v : Value} {x : DataW H × List MemPlace} (h : DataW.trod enc Tryd.prog w base (fun _ => true) held fuel 9 [v] = some x) : ∃ s : List UInt8, v = .string (strOf s) ∧ s.length ≤ 9223372036854775807 := by
  obtain ⟨s, e, _, hw⟩ := DataW.trod_string Tryd.underlying9 h
  injection e with e
  refine ⟨s.data.toList, ?_, ?_⟩
  · rw [e]; exact congrArg Value.string (strOf_back s)
  · have hz : s.data.toList.length = s.size := Array.length_toList
    unfold maxLen at hw
    omega
theorem pc_form {fuel : Nat} {cs : List Value} {x : DataW H × List MemPlace} (h : DataW.trod enc Tryd.prog w base (fun _ => true) held fuel 32 cs = some x) : ∃ p : Pc, p.Ok ∧ cs = pcV p := by
  obtain ⟨y0, y1, y2, n, _, hl, h0, h1, h2⟩ := trod_struct3 Tryd.underlying32 h
  rw [cellsPC] at hl
  rw [cellsI] at h0 h1
  rw [cellsS] at h2
  match cs, hl with
  | [a, b, c], _ =>
    obtain ⟨x0, rfl, w0⟩ := int_at h0
    obtain ⟨x1, rfl, w1⟩ := int_at h1
    obtain ⟨x2, rfl, w2⟩ := str_at h2
    exact ⟨⟨x0, x1, x2⟩, ⟨w0, w1, w2⟩, rfl⟩
theorem pcs_form {fuel : Nat} {v : Value} {x : DataW H × List MemPlace} (h : DataW.trod enc Tryd.prog w base (fun _ => true) held fuel 33 [v] = some x) : ∃ A n c l, v = .slice A n c ∧ n ≤ 9223372036854775807 ∧ PcsIn w A n l := by
  rcases open_slice Tryd.underlying33 h with ⟨hcs, _⟩ | ⟨a, len, cap, m, n, D, Pl, hcs, _, hl, hm, hmm, _, hall⟩
  · injection hcs with hcs
    exact ⟨none, 0, 0, [], hcs, by omega, rfl, (fun p hp => by cases hp), fun i p hp => by simp at hp⟩
  · injection hcs with hcs
    rw [if_pos rfl] at hmm
    subst hmm
    have each : ∀ i, i < len → ∃ p : Pc, p.Ok ∧ ∃ b o, some a = some ⟨b, o, none⟩ ∧ b < w.heap.size ∧ PcAt w b (o + i * 3) p := by
      intro i hi
      obtain ⟨cs', hc, ht⟩ := hall i (by omega)
      rw [cellsPC] at hc
      obtain ⟨_, hcl, hat⟩ := World.cells?_some hc
      obtain ⟨p, hp, rfl⟩ := pc_form ht
      refine ⟨p, hp, ?_⟩
      have k0 := hat 0 (by omega)
      have k1 := hat 1 (by omega)
      have k2 := hat 2 (by omega)
      obtain ⟨b, off, spot⟩ := a
      have hspot : spot = none := by
        obtain ⟨cs0, hc0, ht0⟩ := hall 0 (by omega)
        obtain ⟨_, hcl0, hat0⟩ := World.cells?_some hc0
        have z0 := hat0 0 (by have := cellsPC; omega)
        rw [Nat.zero_mul] at z0
        obtain ⟨v0, hv0⟩ : ∃ v, cs0[0]? = some v := ⟨_, List.getElem?_eq_getElem (by have := cellsPC; omega)⟩
        rw [hv0] at z0
        exact World.cell?_spot z0
      subst hspot
      rw [addr_add', addr_add'] at k0 k1 k2
      exact ⟨b, off, rfl, World.block_lt_of_cell? w _ k0, k0, k1, k2⟩
    obtain ⟨ls, e1, e2⟩ := any_choose (α := Pc) len _ each
    refine ⟨some a, len, _, ls, hcs, by unfold maxLen at hm; omega, e1, fun p hp => ?_, fun i p hp => ?_⟩
    · obtain ⟨i, hi⟩ := List.getElem?_of_mem hp
      exact (e2 i p hi).1
    · obtain ⟨_, b, o, q⟩ := e2 i p hp
      exact ⟨b, o, q⟩
set_option maxRecDepth 100000 in
theorem ls_form {fuel : Nat} {cs : List Value} {x : DataW H × List MemPlace} (h : DataW.trod enc Tryd.prog w base (fun _ => true) held fuel 35 cs = some x) : ∃ (l : Ls) (A : Option Addr) (n c : Nat), l.Ok ∧ cs = lsV l A n c ∧ PcsIn w A n l.pieces := by
  obtain ⟨xs, n, _, _, hl, hxl, hf⟩ := DataW.trod_struct Tryd.underlying35 h
  rw [cellsLS] at hl
  have g0 : DataW.trod enc Tryd.prog w base (fun _ => true) held n 9 ((cs.drop 0).take (Tryd.prog.cellsOf 9)) = xs[0]? := hf 0 _ rfl
  have g1 : DataW.trod enc Tryd.prog w base (fun _ => true) held n 3 ((cs.drop 1).take (Tryd.prog.cellsOf 3)) = xs[1]? := hf 1 _ rfl
  have g2 : DataW.trod enc Tryd.prog w base (fun _ => true) held n 3 ((cs.drop 2).take (Tryd.prog.cellsOf 3)) = xs[2]? := hf 2 _ rfl
  have g3 : DataW.trod enc Tryd.prog w base (fun _ => true) held n 3 ((cs.drop 3).take (Tryd.prog.cellsOf 3)) = xs[3]? := hf 3 _ rfl
  have g4 : DataW.trod enc Tryd.prog w base (fun _ => true) held n 32 ((cs.drop 4).take (Tryd.prog.cellsOf 32)) = xs[4]? := hf 4 _ rfl
  have g5 : DataW.trod enc Tryd.prog w base (fun _ => true) held n 33 ((cs.drop 7).take (Tryd.prog.cellsOf 33)) = xs[5]? := hf 5 _ rfl
  clear hf
  rw [cellsI] at g1 g2 g3
  rw [cellsS] at g0
  rw [cellsPC] at g4
  rw [cellsSPC] at g5
  have hne : ∀ i, i < 6 → ∃ x, xs[i]? = some x := fun i hi => ⟨_, List.getElem?_eq_getElem (by have : xs.length = 6 := hxl; omega)⟩
  obtain ⟨y0, e0⟩ := hne 0 (by omega)
  obtain ⟨y1, e1⟩ := hne 1 (by omega)
  obtain ⟨y2, e2⟩ := hne 2 (by omega)
  obtain ⟨y3, e3⟩ := hne 3 (by omega)
  obtain ⟨y4, e4⟩ := hne 4 (by omega)
  obtain ⟨y5, e5⟩ := hne 5 (by omega)
  rw [e0] at g0
  rw [e1] at g1
  rw [e2] at g2
  rw [e3] at g3
  rw [e4] at g4
  rw [e5] at g5
  clear hne e0 e1 e2 e3 e4 e5
  match cs, hl with
  | [a0, a1, a2, a3, a4, a5, a6, a7], _ =>
    obtain ⟨x0, rfl, w0⟩ := str_at g0
    obtain ⟨x1, rfl, w1⟩ := int_at g1
    obtain ⟨x2, rfl, w2⟩ := int_at g2
    obtain ⟨x3, rfl, w3⟩ := int_at g3
    obtain ⟨p, hp, ep⟩ := pc_form g4
    obtain ⟨A, k, c, l, rfl, hk, hin⟩ := pcs_form g5
    have ep' : [a4, a5, a6] = pcV p := ep
    unfold pcV at ep'
    injection ep' with q0 ep'
    injection ep' with q1 ep'
    injection ep' with q2 _
    subst q0 q1 q2
    exact ⟨⟨x0, x1, x2, x3, p, l⟩, A, k, c, ⟨w0, w1, w2, w3, hp, by rw [hin.len]; exact hk⟩, rfl, hin⟩
theorem rs_form {fuel : Nat} {v : Value} {x : DataW H × List MemPlace} (h : DataW.trod enc Tryd.prog w base (fun _ => true) held fuel 22 [v] = some x) : ∃ A n c l, v = .slice A n c ∧ n ≤ 9223372036854775807 ∧ RsIn w A n l := by
  rcases open_slice Tryd.underlying22 h with ⟨hcs, _⟩ | ⟨a, len, cap, m, n, D, Pl, hcs, _, hl, hm, hmm, _, hall⟩
  · injection hcs with hcs
    exact ⟨none, 0, 0, [], hcs, by omega, rfl, fun i p hp => by simp at hp⟩
  · injection hcs with hcs
    rw [if_pos rfl] at hmm
    subst hmm
    have each : ∀ i, i < len → ∃ p : Ls, ∃ b o A' n' c', some a = some ⟨b, o, none⟩ ∧ b < w.heap.size ∧ LsAt w b (o + i * 8) p A' n' c' := by
      intro i hi
      obtain ⟨cs', hc, ht⟩ := hall i (by omega)
      rw [cellsLS] at hc
      obtain ⟨_, hcl, hat⟩ := World.cells?_some hc
      obtain ⟨p, A', n', c', hp, rfl, hpc⟩ := ls_form ht
      refine ⟨p, ?_⟩
      have k0 := hat 0 (by omega)
      obtain ⟨b, off, spot⟩ := a
      have hspot : spot = none := by
        obtain ⟨cs0, hc0, ht0⟩ := hall 0 (by omega)
        obtain ⟨_, hcl0, hat0⟩ := World.cells?_some hc0
        have z0 := hat0 0 (by have := cellsLS; omega)
        rw [Nat.zero_mul] at z0
        obtain ⟨v0, hv0⟩ : ∃ v, cs0[0]? = some v := ⟨_, List.getElem?_eq_getElem (by have := cellsLS; omega)⟩
        rw [hv0] at z0
        exact World.cell?_spot z0
      subst hspot
      rw [addr_add', addr_add'] at k0
      refine ⟨b, off, A', n', c', rfl, World.block_lt_of_cell? w _ k0, fun j v hv => ?_, hp, hpc⟩
      have hj : j < 8 := by
        rcases Nat.lt_or_ge j 8 with h | h
        · exact h
        · rw [List.getElem?_eq_none (by unfold lsV; simpa using h)] at hv
          cases hv
      have kj := hat j hj
      rw [addr_add', addr_add'] at kj
      exact kj.trans hv
    obtain ⟨ls, e1, e2⟩ := any_choose (α := Ls) len _ each
    exact ⟨some a, len, _, ls, hcs, by unfold maxLen at hm; omega, e1, fun i p hp => e2 i p hp⟩
/-- A manifest's cells. -/
theorem mf_form {fuel : Nat} {cs : List Value} {x : DataW H × List MemPlace} (h : DataW.trod enc Tryd.prog w base (fun _ => true) held fuel 24 cs = some x) : ∃ (m : Mf) (A : Option Addr) (n c : Nat), cs = mfV m A n c ∧ MfIn w A n m := by
  obtain ⟨y0, y1, y2, n, _, hl, h0, h1, h2⟩ := trod_struct3 Tryd.underlying24 h
  rw [cellsMF] at hl
  rw [cellsI] at h0 h1
  rw [cellsSLS] at h2
  match cs, hl with
  | [a, b, c], _ =>
    obtain ⟨x0, rfl, w0⟩ := int_at h0
    obtain ⟨x1, rfl, w1⟩ := int_at h1
    obtain ⟨A, k, c, l, rfl, hk, hin⟩ := rs_form h2
    exact ⟨⟨x0, x1, l⟩, A, k, c, rfl, ⟨w0, w1, hk⟩, hin⟩
set_option maxRecDepth 100000 in
/-- A manifest among the arguments. -/
theorem open_mf {r : Reach} {b0 : Nat} {v : Value} {d : DataW H} {p : List MemPlace} (hv : Value.okWide Tryd.prog w r b0 24 v) (h : DataW.Trod enc Tryd.prog w base (fun _ => true) held 24 v d p) :
    ∃ (m : Mf) (A : Option Addr) (n c : Nat), v = .agg (mfV m A n c).toArray ∧ MfIn w A n m := by
  obtain ⟨cs, rfl, _⟩ := okWide_struct Tryd.underlying24 hv
  obtain ⟨fuel, hf⟩ := h
  obtain ⟨m, A, n, c, e, hin⟩ := mf_form hf
  refine ⟨m, A, n, c, ?_, hin⟩
  have e' : cs.toList = mfV m A n c := e
  rw [← e']
end
end Go.Proofs.YtkobngipbhjfjaaDoor
