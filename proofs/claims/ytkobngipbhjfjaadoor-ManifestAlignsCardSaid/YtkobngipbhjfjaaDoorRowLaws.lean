/-
  Whole rows: an aggregate stored into a part of a block; a whole block loaded.
-/
import Derived.Test.YtkobngipbhjfjaaDoorApp1
import Derived.Laws.Tables
import Derived.Laws.Rows
import Derived.StillTailTactics
namespace Go.Proofs.YtkobngipbhjfjaaDoor
open Go.RowKit

section
variable {P : Program}
theorem run_storeCells_part (g : Nat) (t : TypeId) (off : Nat) : ∀ (vs : List Value) (i : Nat) (cur : List Value) (w : World), Blk w g t cur.toArray → off + i + vs.length ≤ cur.length → (∀ v ∈ vs, v.oneCell' = true) →
    ∃ w', (storeCells ⟨g, off, none⟩ vs i).run P w = .ok () w' ∧ Blk w' g t (splice cur (off + i) vs).toArray ∧ Mod (· = g) w w'
  | [], i, cur, w, hb, hl, h1 => ⟨w, rfl, by
      have : splice cur (off + i) [] = cur := by simp [splice]
      rw [this]; exact hb, Mod.refl _ _⟩
  | v :: rest, i, cur, w, hb, hl, h1 => by
    have hi : off + i < cur.length := by simp at hl; omega
    have hcell : w.cell? ⟨g, off + i, none⟩ = some cur[off + i] := by rw [hb.cell]; simp [hi]
    have hfro := hb.frozen (off + i)
    have hst : (store ((⟨g, off, none⟩ : Addr).add i) v).run P w = .ok () (w.setCell ⟨g, off + i, none⟩ v) := by
      rw [addr_add', run_store P w _ v _ (h1 v (by simp)), hcell]
      simp [hfro]
    have hb1 : Blk (w.setCell ⟨g, off + i, none⟩ v) g t (cur.set (off + i) v).toArray := hb.put (by simp)
    obtain ⟨w', e, hb2, hm⟩ := run_storeCells_part g t off rest (i + 1) (cur.set (off + i) v) _ hb1 (by simp at hl ⊢; omega) (fun x hx => h1 x (by simp [hx]))
    refine ⟨w', ?_, ?_, (((Mod.refl (· = g) w).setCell (p := ⟨g, off + i, none⟩) (.inl rfl) v)).trans hm⟩
    · simp only [storeCells, Sem.run_bind, hst, Result.andThen_ok, e]
    · have e2 : splice (cur.set (off + i) v) (off + (i + 1)) rest = splice cur (off + i) (v :: rest) := by
        unfold splice
        have a1 : (cur.set (off + i) v).take (off + (i + 1)) = cur.take (off + i) ++ [v] := by
          rw [show off + (i + 1) = (off + i) + 1 by omega, List.take_succ_eq_append_getElem (by simp; exact hi)]
          rw [List.take_set_of_le (Nat.le_refl _)]
          simp
        have a2 : (cur.set (off + i) v).drop (off + (i + 1) + rest.length) = cur.drop (off + i + (v :: rest).length) := by
          rw [List.drop_set_of_lt (by omega)]
          congr 1
          simp; omega
        rw [a1, a2]
        simp
      rwa [e2] at hb2

theorem run_storeVar_part (w : World) (g : Nat) (t ty : TypeId) (off : Nat) (cur cells : List Value) (hb : Blk w g t cur.toArray) (hi : (P.info? ty).map (·.size) = some cells.length) (hl : off + cells.length ≤ cur.length) (h1 : ∀ v ∈ cells, v.oneCell' = true) :
    ∃ w', (storeVar ty ⟨g, off, none⟩ (.agg cells.toArray)).run P w = .ok () w' ∧ Blk w' g t (splice cur off cells).toArray ∧ Mod (· = g) w w' := by
  obtain ⟨w', e, h2, h3⟩ := run_storeCells_part (P := P) g t off cells 0 cur w hb (by omega) h1
  refine ⟨w', ?_, by rwa [Nat.add_zero] at h2, h3⟩
  cases hq : P.info? ty with
  | none => simp [hq] at hi
  | some i =>
    have hs : cells.length = i.size := by simp [hq] at hi; omega
    simp [storeVar, sizeOf, typeInfo, hq, Value.cells, hs, e]
theorem wp_store_part {o : Oper} {a : Act} {w : World} {K : Act → World → Prop} {Q : Exit → Act → World → Prop} (ty : TypeId) (x y : Operand) (ho : o.op = .store ty x y)
    (g off : Nat) (cells : List Value) (hx : a.eval x = .pointer (some ⟨g, off, none⟩)) (hy : a.eval y = .agg cells.toArray)
    (t : TypeId) (cur : List Value) (hb : Blk w g t cur.toArray) (hi : (P.info? ty).map (·.size) = some cells.length) (hl : off + cells.length ≤ cur.length) (h1 : ∀ v ∈ cells, v.oneCell' = true)
    (h : ∀ w', Blk w' g t (splice cur off cells).toArray → Mod (· = g) w w' → K (a.put o.dst undef) w') : o.wp P a w K Q := by
  obtain ⟨w', e, h2, h3⟩ := run_storeVar_part (P := P) w g t ty off cur cells hb hi hl h1
  unfold Oper.wp execOp
  simp only [ho, hx, hy, Instr.storeAt, Instr.sureAddr, Sem.run_bind, Sem.run_pure, Result.andThen_ok, e]
  exact h w' h2 h3
theorem wpList_store_part {ops : Array Oper} {rest : List Oper} {o : Oper} {a : Act} {w : World} {Q : Exit → Act → World → Prop} (hgd : o.guard = none) (ty : TypeId) (x y : Operand) (ho : o.op = .store ty x y)
    (g off : Nat) (cells : List Value) (hx : a.eval x = .pointer (some ⟨g, off, none⟩)) (hy : a.eval y = .agg cells.toArray)
    (t : TypeId) (cur : List Value) (hb : Blk w g t cur.toArray) (hi : (P.info? ty).map (·.size) = some cells.length) (hl : off + cells.length ≤ cur.length) (h1 : ∀ v ∈ cells, v.oneCell' = true)
    (h : ∀ w', Blk w' g t (splice cur off cells).toArray → Mod (· = g) w w' → wpList P ops Q rest (a.put o.dst undef) w') : wpList P ops Q (o :: rest) a w :=
  wpList_plain hgd fun _ hK => wp_store_part ty x y ho g off cells hx hy t cur hb hi hl h1 (fun w' a b => hK _ _ (h w' a b))
theorem step_store_part {ops : Array Oper} {o : Oper} {a : Act} {w : World} {K : Act → World → Prop} {Q : Exit → Act → World → Prop} {E : Prop} (hgd : o.guard = none) (ty : TypeId) (x y : Operand) (ho : o.op = .store ty x y)
    (g off : Nat) (cells : List Value) (hx : a.eval x = .pointer (some ⟨g, off, none⟩)) (hy : a.eval y = .agg cells.toArray)
    (t : TypeId) (cur : List Value) (hb : Blk w g t cur.toArray) (hi : (P.info? ty).map (·.size) = some cells.length) (hl : off + cells.length ≤ cur.length) (h1 : ∀ v ∈ cells, v.oneCell' = true)
    (h : ∀ w', Blk w' g t (splice cur off cells).toArray → Mod (· = g) w w' → K (a.put o.dst undef) w') :
    if Region.wanted o (yielded ops a.tmps) = true then Oper.wp P o a w K Q else E := by
  have hw : Region.wanted o (yielded ops a.tmps) = true := by simp [Region.wanted, hgd]
  rw [if_pos hw]
  exact wp_store_part ty x y ho g off cells hx hy t cur hb hi hl h1 h
theorem step_load_row {ops : Array Oper} {o : Oper} {a : Act} {w : World} {K : Act → World → Prop} {Q : Exit → Act → World → Prop} {E : Prop} (hgd : o.guard = none) (ty : TypeId) (x : Operand) (ho : o.op = .load ty x)
    (g : Nat) (hx : a.eval x = .pointer (some ⟨g, 0, none⟩)) (t : TypeId) (cs : Array Value) (d : TypeDesc) (hb : Blk w g t cs)
    (hu : P.underlying ty = some d) (hd : (match d with | .struct _ | .array _ _ => true | _ => false) = true) (hi : (P.info? ty).map (·.size) = some cs.size)
    (h : K (a.put o.dst (.agg cs)) w) :
    if Region.wanted o (yielded ops a.tmps) = true then Oper.wp P o a w K Q else E := by
  have hw : Region.wanted o (yielded ops a.tmps) = true := by simp [Region.wanted, hgd]
  rw [if_pos hw]
  exact wp_load_row ty x ho g hx t cs (0, 0) d hb hu hd hi h
theorem wpStill_load_row {ops : Array Oper} {w : World} {o : Oper} {rest : List Oper} {a : Act} {Q : Act → Prop} (hgd : o.guard = none) (ty : TypeId) (x : Operand) (ho : o.op = .load ty x)
    (g : Nat) (hx : a.eval x = .pointer (some ⟨g, 0, none⟩)) (t : TypeId) (cs : Array Value) (d : TypeDesc) (hb : Blk w g t cs)
    (hu : P.underlying ty = some d) (hd : (match d with | .struct _ | .array _ _ => true | _ => false) = true) (hi : (P.info? ty).map (·.size) = some cs.size)
    (h : wpStill P ops w Q rest (a.put o.dst (.agg cs))) : wpStill P ops w Q (o :: rest) a := by
  refine wpStill_step (fun K hK => ?_)
  have hw : Region.wanted o (yielded ops a.tmps) = true := by simp [Region.wanted, hgd]
  rw [if_pos hw]
  unfold Oper.still execOp
  simp only [ho, hx, Instr.loadAt, Instr.sureAddr, Sem.run_bind, Sem.run_pure, Result.andThen_ok, run_loadVar_row w g t ty cs (0, 0) d hb hu hd hi]
  exact ⟨rfl, hK _ h⟩
end
end Go.Proofs.YtkobngipbhjfjaaDoor
