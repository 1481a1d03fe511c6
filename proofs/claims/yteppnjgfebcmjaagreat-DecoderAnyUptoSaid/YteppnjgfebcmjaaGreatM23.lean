/-
  Rows of bytes; kinoralaw13's fits and small.
-/
import Derived.Test.YteppnjgfebcmjaaGreatM22
import Derived.Test.YteppnjgfebcmjaaGreatM16
import Derived.Test.YteppnjgfebcmjaaGreatM17
import Derived.Test.YteppnjgfebcmjaaGreatRows
import Derived.Deep.Slices
namespace Go.Proofs.YteppnjgfebcmjaaGreat
open Go.RowKit

/-- A slice of slices that reads as rows of bytes. -/
structure RowsIn (w : World) (A : Option Addr) (n : Nat) (ls : List (List UInt8)) : Prop where
  len : ls.length = n
  at_ : ∀ i, i < n → ∃ b off Ai ni ci, A = some ⟨b, off, none⟩ ∧ b < w.heap.size ∧ w.cell? ⟨b, off + i, none⟩ = some (.slice Ai ni ci) ∧ BytesIn w Ai ni ci (ls.getD i [])
theorem RowsIn.quiet {w w' : World} {A : Option Addr} {n : Nat} {ls : List (List UInt8)} (h : RowsIn w A n ls) (hm : Mod (fun _ => False) w w') : RowsIn w' A n ls := by
  refine ⟨h.len, fun i hi => ?_⟩
  obtain ⟨b, off, Ai, ni, ci, h1, h2, h3, h4⟩ := h.at_ i hi
  exact ⟨b, off, Ai, ni, ci, h1, Nat.lt_of_lt_of_le h2 hm.size, (World.cell?_of_block (hm.block b h2 (fun h => h))).trans h3, h4.quiet hm⟩
def FitsPost (w : World) (n : Nat) (ls : List (List UInt8)) (e : Ending) (w' : World) : Prop :=
  ∃ b, e = .returned (.bool b) ∧ (b = true → n ≤ 8 ∧ ∀ j, j < n → (ls.getD j []).length ≤ 3000) ∧ w = w'
def fitsRel (n : Nat) (ls : List (List UInt8)) (v : Value) : Prop := ∃ k : Nat, k ≤ n ∧ k ≤ 8 ∧ v = .int .i64 (k : Int) ∧ ∀ j, j < k → (ls.getD j []).length ≤ 3000

set_option maxRecDepth 100000 in
set_option maxHeartbeats 2000000 in
theorem lFits (w : World) (A : Option Addr) (n c : Nat) (ls : List (List UInt8)) (h : RowsIn w A n ls) (hn : n ≤ 9223372036854775807) : Calls Tryz.prog 8 #[.slice A n c] w (FitsPost w n ls) := by
  have HH := Lib.hid h
  clear h
  go_enter Tryz.func8, Tryz.ntmps8
  go_wp2_with fail
  go_loop [3] (fitsRel n ls) (fun i => n - (intOf i).toNat)
  case atStart => exact ⟨0, by omega, by omega, rfl, fun j h => absurd h (by omega)⟩
  case round =>
    obtain ⟨k, hk, hk8, rfl, hall⟩ := hrel
    by_cases hlt : k < n
    · obtain ⟨b, off, Ai, ni, ci, hA, hb, hcell, hin⟩ := HH.out.at_ k hlt
      subst hA
      have d1 : decide ((k : Int) < (n : Int)) = true := decide_eq_true (by omega)
      have hl := hin.1
      by_cases h8 : k = 8
      · subst h8
        have d2 : ((8 : Int) == 8) = true := rfl
        clear hin hall
        go_wp2_with fail
        go_ret
        exact ⟨false, rfl, fun h => (by cases h), rfl⟩
      · have d2 : ((k : Int) == 8) = false := by simp; omega
        by_cases hlong : 3000 < ni
        · have d3 : decide (3000 < (ni : Int)) = true := decide_eq_true (by omega)
          clear hin hall
          go_wp2_with fail
          go_ret
          exact ⟨false, rfl, fun h => (by cases h), rfl⟩
        · have d3 : decide (3000 < (ni : Int)) = false := decide_eq_false (by omega)
          have hall' : ∀ j, j < k + 1 → (ls.getD j []).length ≤ 3000 := by
            intro j hj
            by_cases e : j = k
            · subst e; omega
            · exact hall j (by omega)
          have HL := Lib.hid hall'
          clear hin hall hall'
          go_wp2_with fail
          exact ⟨⟨k + 1, by omega, by omega, by go_num, HL.out⟩, by simp [intOf]; omega⟩
    · obtain rfl : k = n := by omega
      have HL := Lib.hid hall
      clear hall
      go_wp2_with fail
      go_ret
      exact ⟨true, rfl, fun _ => ⟨hk8, HL.out⟩, rfl⟩

def SmallPost (w : World) (l : List UInt8) (e : Ending) (w' : World) : Prop :=
  ∃ b, e = .returned (.bool b) ∧ (b = true → l.length ≤ 3000 ∧ ∀ W H G, rseqParse l = some (W, H, G) → W ≤ 32 ∧ H ≤ 32) ∧ Mod (fun _ => False) w w'
set_option maxRecDepth 100000 in
set_option maxHeartbeats 2000000 in
theorem lSmall (w : World) (A : Option Addr) (n c : Nat) (l : List UInt8) (hin : BytesIn w A n c l) (hn : n ≤ 1048576) : Calls Tryz.prog 9 #[.slice A n c] w (SmallPost w l) := by
  have hl := hin.1
  go_enter Tryz.func9, Tryz.ntmps9
  go_wp2_with fail
  refine (refParseSeq _ A n c l hin hn).mono ?_
  rintro e w1 ⟨hm, ⟨hno, rfl⟩ | ⟨W, H, G, hs, rfl⟩⟩
  · by_cases h3 : n ≤ 3000
    · have d1 : decide ((n : Int) ≤ 3000) = true := decide_eq_true (by omega)
      have HM := Lib.hid (And.intro hm hno)
      clear hm hno hin
      go_wp2_with fail
      go_ret
      exact ⟨_, rfl, fun _ => ⟨by omega, fun W H G h => (by rw [HM.out.2] at h; cases h)⟩, HM.out.1.alloc _⟩
    · have d1 : decide ((n : Int) ≤ 3000) = false := decide_eq_false (by omega)
      have HM := Lib.hid (And.intro hm hno)
      clear hm hno hin
      go_wp2_with fail
      go_ret
      exact ⟨_, rfl, fun h => (by cases h), HM.out.1.alloc _⟩
  · by_cases h3 : n ≤ 3000
    · have d1 : decide ((n : Int) ≤ 3000) = true := decide_eq_true (by omega)
      by_cases hW : W ≤ 32
      · have d2 : decide (W ≤ 32) = true := decide_eq_true hW
        by_cases hH : H ≤ 32
        · have d3 : decide (H ≤ 32) = true := decide_eq_true hH
          have HM := Lib.hid (And.intro hm (And.intro hs (And.intro hW hH)))
          clear hm hs hin hW hH
          go_wp2_with fail
          go_ret
          refine ⟨true, rfl, fun _ => ⟨by omega, fun W' H' G' h => ?_⟩, HM.out.1.alloc _⟩
          rw [HM.out.2.1] at h
          injection h with h
          injection h with h1 h2
          injection h2 with h2 h3
          subst h1 h2
          exact HM.out.2.2
        · have d3 : decide (H ≤ 32) = false := decide_eq_false hH
          have HM := Lib.hid hm
          clear hm hs hin hW hH
          go_wp2_with fail
          go_ret
          exact ⟨_, rfl, fun h => (by cases h), HM.out.alloc _⟩
      · have d2 : decide (W ≤ 32) = false := decide_eq_false hW
        have HM := Lib.hid hm
        clear hm hs hin hW
        go_wp2_with fail
        go_ret
        exact ⟨_, rfl, fun h => (by cases h), HM.out.alloc _⟩
    · have d1 : decide ((n : Int) ≤ 3000) = false := decide_eq_false (by omega)
      have HM := Lib.hid hm
      clear hm hs hin
      go_wp2_with fail
      go_ret
      exact ⟨_, rfl, fun h => (by cases h), HM.out.alloc _⟩
end Go.Proofs.YteppnjgfebcmjaaGreat

/-
  Arguments opened: rows of bytes.
-/
namespace Go.Proofs.YteppnjgfebcmjaaGreat
open Go.RowKit Go.ChangeShapes Go.WideShapes Go.ChangeAt Go.Joins Go.Deep

section
variable {H : Type} {enc : TypeId × Value → H} {w : World} {base : Nat} {held : Bool}
theorem cellsBS1 : Tryz.prog.cellsOf 22 = 1 := by kernel_rfl

theorem rows_choose (n : Nat) (P : Nat → List UInt8 → Prop) (h : ∀ i, i < n → ∃ l, P i l) : ∃ ls : List (List UInt8), ls.length = n ∧ ∀ i, i < n → P i (ls.getD i []) := by
  induction n with
  | zero => exact ⟨[], rfl, fun i h => absurd h (by omega)⟩
  | succ n ih =>
    obtain ⟨ls, h1, h2⟩ := ih (fun i hi => h i (by omega))
    obtain ⟨l, hl⟩ := h n (by omega)
    refine ⟨ls ++ [l], by simp [h1], fun i hi => ?_⟩
    rw [List.getD_eq_getElem?_getD]
    by_cases e : i = n
    · subst e
      rw [List.getElem?_append_right (by omega), h1, Nat.sub_self]
      exact hl
    · rw [List.getElem?_append_left (by omega), ← List.getD_eq_getElem?_getD]
      exact h2 i (by omega)
theorem rows_form {fuel : Nat} {a0 : Option Addr} {len0 cap0 : Nat} {x : DataW H × List MemPlace} (h : DataW.trod enc Tryz.prog w base (fun _ => true) held fuel 23 [.slice a0 len0 cap0] = some x) : len0 ≤ maxLen ∧ ∃ ls, RowsIn w a0 len0 ls := by
  rcases open_slice Tryz.underlying23 h with ⟨hcs, _⟩ | ⟨a, len, cap, m, n, D, Pl, hcs, _, hl, hm, hmm, _, hall⟩
  · injection hcs with hcs
    injection hcs with e1 e2 e3
    subst e1 e2
    exact ⟨by decide, [], rfl, fun i h => absurd h (by omega)⟩
  · injection hcs with hcs
    injection hcs with e1 e2 e3
    subst e1 e2 e3
    rw [if_pos rfl] at hmm
    subst hmm
    refine ⟨by omega, ?_⟩
    have each : ∀ i, i < len0 → ∃ (A : Option Addr) (n c : Nat) (l : List UInt8), w.cell? (a.add i) = some (.slice A n c) ∧ BytesIn w A n c l := by
      intro i hi
      obtain ⟨cs', hc, ht⟩ := hall i (by omega)
      rw [cellsBS1, Nat.mul_one] at hc
      obtain ⟨_, hcl, hat⟩ := World.cells?_some hc
      match cs', hcl with
      | [c0], _ =>
        obtain ⟨A, n, c, l, rfl, _, hin⟩ := bytes_form ht
        have k0 := hat 0 (by omega)
        have e0 : (a.add i).add 0 = a.add i := by
          obtain ⟨b, off, spot⟩ := a
          unfold Addr.add
          cases spot <;> simp
        rw [e0] at k0
        exact ⟨A, n, c, l, k0, hin⟩
    have hch := rows_choose len0 (fun i l => ∃ b off Ai ni ci, some a = some ⟨b, off, none⟩ ∧ b < w.heap.size ∧ w.cell? ⟨b, off + i, none⟩ = some (.slice Ai ni ci) ∧ BytesIn w Ai ni ci l) (fun i hi => by
    obtain ⟨_, _, _, _, hz, _⟩ := each 0 (by omega)
    obtain ⟨A, n, c, l, hc, hin⟩ := each i hi
    obtain ⟨b, off, spot⟩ := a
    have hspot : spot = none := by simpa [Addr.add] using World.cell?_spot hz
    subst hspot
    rw [addr_add'] at hc
    exact ⟨l, b, off, A, n, c, rfl, World.block_lt_of_cell? w _ hc, hc, hin⟩)
    obtain ⟨ls, h1, h2⟩ := hch
    exact ⟨ls, ⟨h1, h2⟩⟩
theorem bulk_one {H : Type} (d : DataW H) : 1 ≤ Rows.uptoBulk d := by
  cases d with
  | lit l => cases l <;> simp [Rows.uptoBulk]
  | nil => simp [Rows.uptoBulk]
  | ptr d => simp [Rows.uptoBulk]
  | slice elems spare => simp [Rows.uptoBulk]
  | agg parts => simp [Rows.uptoBulk]
  | iface t d => simp [Rows.uptoBulk]
  | map entries => simp [Rows.uptoBulk]
  | held h => simp [Rows.uptoBulk]
theorem bulk_len {H : Type} (l : List (DataW H)) : l.length ≤ Rows.uptoBulkAll l := by
  induction l with
  | nil => simp [Rows.uptoBulkAll]
  | cons x r ih =>
    have := bulk_one x
    simp only [Rows.uptoBulkAll, List.length_cons]
    omega
/-- A slice is no longer than its bulk. -/
theorem bytes_bulk {fuel : Nat} {a0 : Option Addr} {len0 cap0 : Nat} {d : DataW H} {p : List MemPlace} (h : DataW.trod enc Tryz.prog w base (fun _ => true) held fuel 22 [.slice a0 len0 cap0] = some (d, p)) : len0 ≤ Rows.uptoBulk d := by
  rcases open_slice Tryz.underlying22 h with ⟨hcs, _⟩ | ⟨a, len, cap, m, n, D, Pl, hcs, _, hl, hm, hmm, hx, hall⟩
  · injection hcs with hcs
    injection hcs with e1 e2 e3
    subst e2
    omega
  · injection hcs with hcs
    injection hcs with e1 e2 e3
    subst e1 e2 e3
    injection hx with hx _
    subst hx
    simp only [Rows.uptoBulk]
    have := bulk_len ((List.range len0).map D)
    simp only [List.length_map, List.length_range] at this
    omega
end
end Go.Proofs.YteppnjgfebcmjaaGreat

/-
  make of a row of bytes or ints.
-/
namespace Go.Proofs.YteppnjgfebcmjaaGreat
open Go.RowKit

theorem madeU8 (n : Nat) : (madeCells (Value.cells (.int .u8 0)) n).toList = u8s (List.replicate n 0) := by
  apply List.ext_getElem
  · simp [size_madeCells, u8s, Value.cells]
  · intro i h1 h2
    simp [madeCells, u8s, Value.cells, Nat.mod_one]
theorem madeInt (n : Nat) : (madeCells (Value.cells (.int .i64 0)) n).toList = i64s (List.replicate n 0) := by
  apply List.ext_getElem
  · simp [size_madeCells, i64s, Value.cells]
  · intro i h1 h2
    simp [madeCells, i64s, Value.cells, Nat.mod_one]
theorem wpList_mk_u8 (w : World) {ops : Array Oper} {rest : List Oper} {o : Oper} {a : Act} {Q : Exit → Act → World → Prop} (hg : o.guard = none) (l c : Operand) (hop : o.op = Op.makeSlice 22 l c)
    (n : Nat) (hl : a.eval l = .int .i64 (n : Int)) (hc : a.eval c = .int .i64 (n : Int)) (hn : n ≤ 16777216)
    (hK : ∀ w', Blk w' w.heap.size 5 (u8s (List.replicate n 0)).toArray → Mod (fun _ => False) w w' → wpList Tryz.prog ops Q rest (a.put o.dst (.slice (some ⟨w.heap.size, 0, none⟩) n n)) w') : wpList Tryz.prog ops Q (o :: rest) a w := by
  obtain ⟨i0, hi0, hz0, hz1, hz2⟩ := info_parts u8_info
  refine wpList_make_full _ hg l c _ hop w.heap.size 5 i0 (.int .u8 0) 1 Tryz.underlying22 hi0 hz0 hz1 _ _ _ _ n hl hc rfl rfl (by rw [hz2]; omega) (by unfold maxLen; omega) (Nat.le_refl _) ?_
  intro w' h1 h2
  have h3 := (own_whole h1).1
  rw [Nat.mul_one, madeU8] at h3
  exact hK w' h3 ((Mod.refl _ _).grown h2 (fun k hk => by cases hk))
theorem wpList_mk_int (w : World) {ops : Array Oper} {rest : List Oper} {o : Oper} {a : Act} {Q : Exit → Act → World → Prop} (hg : o.guard = none) (l c : Operand) (hop : o.op = Op.makeSlice 48 l c)
    (n : Nat) (hl : a.eval l = .int .i64 (n : Int)) (hc : a.eval c = .int .i64 (n : Int)) (hn : n ≤ 16777216)
    (hK : ∀ w', Blk w' w.heap.size 3 (i64s (List.replicate n 0)).toArray → Mod (fun _ => False) w w' → wpList Tryz.prog ops Q rest (a.put o.dst (.slice (some ⟨w.heap.size, 0, none⟩) n n)) w') : wpList Tryz.prog ops Q (o :: rest) a w := by
  obtain ⟨i0, hi0, hz0, hz1, hz2⟩ := info_parts int_info
  refine wpList_make_full _ hg l c _ hop w.heap.size 3 i0 (.int .i64 0) 1 Tryz.underlying48 hi0 hz0 hz1 _ _ _ _ n hl hc rfl rfl (by rw [hz2]; omega) (by unfold maxLen; omega) (Nat.le_refl _) ?_
  intro w' h1 h2
  have h3 := (own_whole h1).1
  rw [Nat.mul_one, madeInt] at h3
  exact hK w' h3 ((Mod.refl _ _).grown h2 (fun k hk => by cases hk))
theorem wpList_mk_int0 (w : World) {ops : Array Oper} {rest : List Oper} {o : Oper} {a : Act} {Q : Exit → Act → World → Prop} (hg : o.guard = none) (l c : Operand) (hop : o.op = Op.makeSlice 48 l c)
    (n : Nat) (hl : a.eval l = .int .i64 0) (hc : a.eval c = .int .i64 (n : Int)) (hn : n ≤ 16777216)
    (hK : ∀ w', IntsOwn w' w.heap.size (.slice (some ⟨w.heap.size, 0, none⟩) 0 n) [] → Mod (fun _ => False) w w' → wpList Tryz.prog ops Q rest (a.put o.dst (.slice (some ⟨w.heap.size, 0, none⟩) 0 n)) w') : wpList Tryz.prog ops Q (o :: rest) a w := by
  obtain ⟨i0, hi0, hz0, hz1, hz2⟩ := info_parts int_info
  refine wpList_make_own _ hg l c _ hop w.heap.size 3 i0 (.int .i64 0) 1 Tryz.underlying48 hi0 hz0 hz1 _ _ _ n hl hc rfl (by rw [hz2]; omega) (by unfold maxLen; omega) (Nat.le_refl _) ?_
  intro w' h1 h2
  exact hK w' h1 ((Mod.refl _ _).grown h2 (fun k hk => by cases hk))
end Go.Proofs.YteppnjgfebcmjaaGreat
