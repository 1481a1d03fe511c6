/-
  A row of cells read whole, wherever in its block it lies.
-/
import Derived.Test.YtkobngipbhjfjaaDoorMfRep
import Derived.Test.YtkobngipbhjfjaaDoorRowLaws
namespace Go.Proofs.YtkobngipbhjfjaaDoor
open Go.RowKit

theorem run_loadVar_off {P : Program} (w : World) (g off : Nat) (ty : TypeId) (vs : List Value) (d : TypeDesc) (hc : ∀ (i : Nat) (v : Value), vs[i]? = some v → w.cell? ⟨g, off + i, none⟩ = some v)
    (hu : P.underlying ty = some d) (hd : (match d with | .struct _ | .array _ _ => true | _ => false) = true) (hi : (P.info? ty).map (·.size) = some vs.length) :
    (loadVar ty ⟨g, off, none⟩).run P w = .ok (.agg vs.toArray) w := by
  have hl : (loadCells ⟨g, off, none⟩ vs.length).run P w = .ok vs.toArray w :=
    run_loadCells_list (P := P) w ⟨g, off, none⟩ vs (fun j v hv => by
      have hadd : (⟨g, off, none⟩ : Addr).add j = ⟨g, off + j, none⟩ := by unfold Addr.add; split <;> simp_all
      rw [hadd]
      exact hc j v hv)
  cases hq : P.info? ty with
  | none => simp [hq] at hi
  | some i =>
    have hs : i.size = vs.length := by simpa [hq] using hi
    have hagg : (isAgg ty).run P w = .ok true w := by
      unfold isAgg
      rw [Sem.run_bind, run_underlying hu w]
      cases d <;> simp_all
    simp [loadVar, Sem.run_bind, hagg, sizeOf, typeInfo, hq, hs, hl]
theorem wpList_load_off {P : Program} {ops : Array Oper} {rest : List Oper} {o : Oper} {a : Act} {w : World} {Q : Exit → Act → World → Prop} (hgd : o.guard = none) (ty : TypeId) (x : Operand) (ho : o.op = .load ty x)
    (g off : Nat) (hx : a.eval x = .pointer (some ⟨g, off, none⟩)) (vs : List Value) (d : TypeDesc) (hc : ∀ (i : Nat) (v : Value), vs[i]? = some v → w.cell? ⟨g, off + i, none⟩ = some v)
    (hu : P.underlying ty = some d) (hd : (match d with | .struct _ | .array _ _ => true | _ => false) = true) (hi : (P.info? ty).map (·.size) = some vs.length)
    (h : wpList P ops Q rest (a.put o.dst (.agg vs.toArray)) w) : wpList P ops Q (o :: rest) a w :=
  wpList_plain hgd fun _ hK => by
    unfold Oper.wp execOp
    simp only [ho, hx, Instr.loadAt, Instr.sureAddr, Sem.run_bind, Sem.run_pure, Result.andThen_ok, run_loadVar_off w g off ty vs d hc hu hd hi]
    exact hK _ _ h
theorem lsV_one (l : Ls) (A : Option Addr) (n c : Nat) : ∀ v ∈ lsV l A n c, v.oneCell' = true := by
  intro v hv
  simp only [lsV, List.mem_cons, List.not_mem_nil, or_false] at hv
  rcases hv with rfl | rfl | rfl | rfl | rfl | rfl | rfl | rfl <;> rfl
theorem pcV_one (p : Pc) : ∀ v ∈ pcV p, v.oneCell' = true := by
  intro v hv
  simp only [pcV, List.mem_cons, List.not_mem_nil, or_false] at hv
  rcases hv with rfl | rfl | rfl <;> rfl
theorem PcAt.cells {w : World} {b o : Nat} {p : Pc} (h : PcAt w b o p) : ∀ (i : Nat) (v : Value), (pcV p)[i]? = some v → w.cell? ⟨b, o + i, none⟩ = some v := by
  intro i v hv
  match i, hv with
  | 0, hv => rw [← hv]; exact h.1
  | 1, hv => rw [← hv]; exact h.2.1
  | 2, hv => rw [← hv]; exact h.2.2
/-- The first place's piece. -/
theorem LsAt.init_cells {w : World} {b o : Nat} {l : Ls} {A : Option Addr} {n c : Nat} (h : LsAt w b o l A n c) : ∀ (i : Nat) (v : Value), (pcV l.init)[i]? = some v → w.cell? ⟨b, o + 4 + i, none⟩ = some v := by
  intro i v hv
  have h2 := h.cells (4 + i) v (by
    match i, hv with
    | 0, hv => exact hv
    | 1, hv => exact hv
    | 2, hv => exact hv)
  rw [Nat.add_assoc]
  exact h2
end Go.Proofs.YtkobngipbhjfjaaDoor
