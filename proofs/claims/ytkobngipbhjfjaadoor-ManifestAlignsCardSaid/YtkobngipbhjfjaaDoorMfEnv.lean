/-
  The library's contracts laid at this program; and what they read of the library's variables.
-/
import Derived.Test.YtkobngipbhjfjaaDoorMfRep
import Derived.Test.YtkobngipbhjfjaaDoorMfLays
import Derived.Shelf.Strconv.Itoa3
import Derived.Shelf.Strconv.AtoiAll
import Derived.Shelf.Strconv.ErrVarAll
import Derived.Shelf.Strings.Search3
import Derived.Shelf.Strings.Split
import Derived.Lib.LaidTab
namespace Go.Proofs.YtkobngipbhjfjaaDoor
open Go.RowKit Go.Shelf


theorem var_quiet {w w' : World} {n : String} {cs : Array Value} (hm : Mod (fun _ => False) w w') (h : w.var? Tryd.prog n = some cs) : w'.var? Tryd.prog n = some cs := by
  unfold World.var? at h ⊢
  cases hg : Tryd.prog.globalNamed n with
  | none => rw [hg] at h; cases h
  | some g =>
    rw [hg] at h
    simp only [Option.bind_some] at h ⊢
    have hlt : g < w.heap.size := by
      rcases Nat.lt_or_ge g w.heap.size with h' | h'
      · exact h'
      · rw [Array.getElem?_eq_none h'] at h; cases h
    rw [hm.block g hlt (fun h => h)]
    exact h
/-- What the library's functions read of its variables. -/
structure Env (w : World) : Prop where
  pow : Lib.TabIs Tryd.prog w "internal/strconv.uint64pow10" .u64 Lib.pow10Tab
  syn : ∃ tp q, w.var? Tryd.prog "strconv.ErrSyntax" = some #[.iface tp q]
  rng : ∃ tp q, w.var? Tryd.prog "strconv.ErrRange" = some #[.iface tp q]
  mx : ∃ m, w.cell? ⟨Tryd.laysSplit_ren.g 1, 0, none⟩ = some (.int .i64 m) ∧ Tryd.laysSplit_ren.g 1 < w.heap.size
theorem Env.quiet {w w' : World} (h : Env w) (hm : Mod (fun _ => False) w w') : Env w' := by
  obtain ⟨h1, ⟨t1, q1, h2⟩, ⟨t2, q2, h3⟩, ⟨m, h4, h5⟩⟩ := h
  exact ⟨var_quiet hm h1, ⟨t1, q1, var_quiet hm h2⟩, ⟨t2, q2, var_quiet hm h3⟩, m, (cellq hm h5).trans h4, Nat.lt_of_lt_of_le h5 hm.size⟩
theorem grow_quiet (w : World) (k : Nat) (os : Array Obj) : Mod (fun _ => False) w (Sort.grow (w.drewN k) os) :=
  ⟨rfl, rfl, rfl, by show w.heap.size ≤ (w.heap ++ os).size; rw [Array.size_append]; omega, fun i hi _ => by
    show (w.heap ++ os)[i]? = w.heap[i]?
    rw [Array.getElem?_append_left hi]⟩
theorem itoa_dec {n : Int} (h : 0 ≤ n) : Lib.itoa n = dec n := by
  unfold Lib.itoa dec
  rw [if_neg (by omega)]
theorem cItoa (w : World) (n : Int) (h0 : 0 ≤ n) (h1 : n ≤ 9223372036854775807) (he : Env w) : Calls Tryd.prog 26 #[.int .i64 n] w fun e w' => e = .returned (.string (strOf (dec n))) ∧ Mod (fun _ => False) w w' := by
  refine (Any.strconv_Itoa Tryd.laysItoa n (by omega) h1 w he.pow).mono ?_
  rintro e w' ⟨rfl, k, os, rfl⟩
  exact ⟨by rw [itoa_dec h0]; rfl, grow_quiet _ _ _⟩
theorem bytesWorld_quiet (w : World) (t : TypeId) (s : ByteArray) : Mod (fun _ => False) w (Lib.bytesWorld w t s) := by
  have h := Lib.bytesWorld_below w t s
  exact Mod.of_below h _
/-- What Atoi hands back. -/
def AtoiPost (w : World) (s : Str) (e : Ending) (w' : World) : Prop :=
  Mod (fun _ => False) w w' ∧ ((∃ v, numP s = some v ∧ I64 v ∧ e = .returned (.tuple #[.int .i64 v, .nilIface])) ∨ (numP s = none ∧ ∃ x t q, I64 x ∧ e = .returned (.tuple #[.int .i64 x, .iface t q])))
theorem cAtoi (w : World) (s : Str) (hs : s.length ≤ 1048576) (he : Env w) : Calls Tryd.prog 55 #[.string (strOf s)] w (AtoiPost w s) := by
  have hd := strOf_data s
  have hz := strOf_size s
  obtain ⟨t1, q1, hv1⟩ := he.syn
  obtain ⟨t2, q2, hv2⟩ := he.rng
  rcases hq : Lib.atoiAll s with v | _ | _
  · refine (Any.strconv_Atoi_ok Tryd.laysAtoi (strOf s) (by omega) v (by rw [hd]; exact hq) w).mono ?_
    rintro e w' ⟨rfl, hw⟩
    refine ⟨?_, .inl ⟨v, by unfold numP; rw [hq], Lib.atoiAll_bounds hq, rfl⟩⟩
    rcases hw with rfl | ⟨t, rfl⟩
    · exact Mod.refl _ _
    · exact bytesWorld_quiet _ _ _
  · refine (Any.strconv_Atoi_syntax_var Tryd.laysAtoi (strOf s) (by omega) (by rw [hd]; exact hq) t1 q1 w hv1).mono ?_
    rintro e w' ⟨N, rfl, _, _, hb⟩
    exact ⟨Mod.of_below hb _, .inr ⟨by unfold numP; rw [hq], 0, _, _, by unfold I64; omega, rfl⟩⟩
  · refine (Any.strconv_Atoi_range_var Tryd.laysAtoi (strOf s) (by omega) (by rw [hd]; exact hq) t2 q2 w hv2).mono ?_
    rintro e w' ⟨N, rfl, _, _, hb⟩
    exact ⟨Mod.of_below hb _, .inr ⟨by unfold numP; rw [hq], _, _, _, by unfold I64 Lib.atoiSat; split <;> omega, rfl⟩⟩

/-! ### strings.Index and strings.Split at one byte -/
theorem one_prefix (b c : UInt8) (l : Str) : ([c] : List UInt8).isPrefixOf (b :: l) = (c == b) := by simp [List.isPrefixOf]
theorem index_one_none {c : UInt8} : ∀ {s : Str}, c ∉ s → Lib.index s [c] = -1
  | [], _ => rfl
  | b :: r, h => by
    simp only [List.mem_cons, not_or] at h
    unfold Lib.index
    rw [one_prefix, if_neg (by simpa using h.1), index_one_none h.2]
    rfl
theorem index_one_app {c : UInt8} : ∀ {a : Str} (r : Str), c ∉ a → Lib.index (a ++ c :: r) [c] = (a.length : Int)
  | [], r, _ => by
    rw [List.nil_append]
    unfold Lib.index
    rw [one_prefix, if_pos (by simp)]
    rfl
  | b :: a, r, h => by
    simp only [List.mem_cons, not_or] at h
    rw [List.cons_append]
    unfold Lib.index
    rw [one_prefix, if_neg (by simpa using h.1), index_one_app r h.2, if_neg (by simp)]
    simp
theorem cut_or (c : UInt8) (s : Str) : c ∉ s ∨ ∃ a r, s = a ++ c :: r ∧ c ∉ a := by
  induction s with
  | nil => exact .inl (by simp)
  | cons b s ih =>
    by_cases hb : b = c
    · subst hb
      exact .inr ⟨[], s, rfl, by simp⟩
    · rcases ih with h | ⟨a, r, rfl, ha⟩
      · exact .inl (by simp [Ne.symm hb, h])
      · exact .inr ⟨b :: a, r, rfl, by simp [Ne.symm hb, ha]⟩
theorem count_one {c : UInt8} : ∀ (n : Nat) (s : Str), s.length ≤ n → Lib.count s [c] + 1 = (cutL c s).length ∧ Lib.splitK [c] 0 (Lib.count s [c]) s = cutL c s := by
  intro n
  induction n with
  | zero =>
    intro s hs
    have : s = [] := List.length_eq_zero_iff.1 (by omega)
    subst this
    rw [Lib.count_miss (index_one_none (by simp))]
    exact ⟨rfl, rfl⟩
  | succ n ih =>
    intro s hs
    rcases cut_or c s with h | ⟨a, r, rfl, ha⟩
    · rw [Lib.count_miss (index_one_none h), cutL_none h]
      exact ⟨rfl, rfl⟩
    · have h1 := index_one_app r ha
      have hd : (a ++ c :: r).drop (a.length + 1) = r := by
        rw [← List.drop_drop, List.drop_left]
        rfl
      have hlen : r.length ≤ n := by
        rw [List.length_append, List.length_cons] at hs
        omega
      obtain ⟨i1, i2⟩ := ih r hlen
      have hcnt := Lib.count_hit (sub := [c]) (by simp) h1
      rw [List.length_singleton, hd] at hcnt
      rw [hcnt, cutL_app r ha]
      refine ⟨by rw [List.length_cons]; omega, ?_⟩
      rw [Nat.add_comm 1]
      unfold Lib.splitK
      rw [h1, if_neg (by simp)]
      simp only [Int.toNat_natCast, Nat.add_zero, List.length_singleton]
      rw [hd, i2, List.take_left]
theorem split_one (c : UInt8) (s : Str) : Lib.splitB (strOf [c]) 0 (Lib.countB (strOf s) (strOf [c])) (strOf s) = (cutL c s).map strOf := by
  have h := Lib.splitB_data (strOf [c]) 0 (Lib.countB (strOf s) (strOf [c])) (strOf s)
  have hc : Lib.countB (strOf s) (strOf [c]) = Lib.count s [c] := by
    unfold Lib.countB
    rw [strOf_data, strOf_data]
  rw [strOf_data, strOf_data, hc, (count_one s.length s (Nat.le_refl _)).2] at h
  rw [hc]
  have h2 := congrArg (List.map strOf) h
  rw [List.map_map] at h2
  rw [← h2]
  exact (List.map_congr_left (fun x _ => strOf_of x)).symm.trans rfl |>.symm ▸ (by simp [strOf_of])
theorem cSplit (w : World) (c : UInt8) (s : Str) (hs : s.length ≤ 1048576) (he : Env w) : Calls Tryd.prog 39 #[.string (strOf s), .string (strOf [c])] w fun e w' =>
    e = .returned (.slice (some ⟨w.heap.size, 0, none⟩) (cutL c s).length (cutL c s).length) ∧ Blk w' w.heap.size 9 ((cutL c s).map fun x => Value.string (strOf x)).toArray ∧ Mod (fun _ => False) w w' := by
  obtain ⟨m, hm, _⟩ := he.mx
  refine (Any.strings_Split { Tryd.laysSplit with } Tryd.laysSplit.i9 (strOf s) (strOf [c]) m w (by rw [strOf_size]; omega) hm (by rw [strOf_size]; simp)).mono ?_
  rintro e w' ⟨rfl, rfl⟩
  have hc : Lib.countB (strOf s) (strOf [c]) = Lib.count s [c] := by
    unfold Lib.countB
    rw [strOf_data, strOf_data]
  refine ⟨by rw [hc, (count_one s.length s (Nat.le_refl _)).1], ?_, (Mod.refl _ w).alloc _⟩
  rw [split_one, List.map_map]
  exact Blk.new _ _ _
theorem cIndex (w : World) (c : UInt8) (s : Str) (hs : s.length ≤ 1048576) (he : Env w) : Calls Tryd.prog 63 #[.string (strOf s), .string (strOf [c])] w fun e w' => e = .returned (.int .i64 (Lib.index s [c])) ∧ w' = w := by
  obtain ⟨m, hm, _⟩ := he.mx
  have h := Any.strings_Index { Tryd.laysIndex with } (strOf s) (strOf [c]) m w (by rw [strOf_size]; omega) hm
  rw [strOf_data, strOf_data] at h
  exact h
end Go.Proofs.YtkobngipbhjfjaaDoor
