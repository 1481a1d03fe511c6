/-
  A world of which only blocks of named element types, from B on, have turned; and those are of their types still.
-/
import Derived.Test.YtmkopcojnibhlaaGreatDoorM0
import Derived.Laws.BytesString
import Derived.Laws.IdiomStrings
import Derived.Laws.CopyOwn
import Derived.BigRegion
import Derived.Deep.RegionHeld3
import Derived.Deep.Cut
namespace Go.Proofs.YtmkopcojnibhlaaGreatDoor
open Go.RowKit

def tyOf : Obj → Option TypeId
  | .cells _ t _ => some t
  | _ => none

structure TMod (B : Nat) (T : TypeId → Bool) (w w' : World) : Prop where
  os : w'.os = w.os
  tape : w'.tape = w.tape
  output : w'.output = w.output
  size : w.heap.size ≤ w'.heap.size
  low : ∀ k, k < B → k < w.heap.size → w'.heap[k]? = w.heap[k]?
  same : ∀ (k : Nat) (o : Obj), w.heap[k]? = some o → (∀ t, tyOf o = some t → T t = false) → w'.heap[k]? = some o

theorem TMod.refl (B : Nat) (T : TypeId → Bool) (w : World) : TMod B T w w := ⟨rfl, rfl, rfl, Nat.le_refl _, fun _ _ _ => rfl, fun _ _ h _ => h⟩
theorem TMod.trans {B : Nat} {T : TypeId → Bool} {a b c : World} (h : TMod B T a b) (k : TMod B T b c) : TMod B T a c :=
  ⟨k.os.trans h.os, k.tape.trans h.tape, k.output.trans h.output, Nat.le_trans h.size k.size,
   fun i hi hl => (k.low i hi (Nat.lt_of_lt_of_le hl h.size)).trans (h.low i hi hl),
   fun i o ho hT => k.same i o (h.same i o ho hT) hT⟩
theorem TMod.base {B B' : Nat} {T : TypeId → Bool} {w w' : World} (h : TMod B T w w') (hB : B' ≤ B) : TMod B' T w w' := ⟨h.os, h.tape, h.output, h.size, fun k hk hl => h.low k (by omega) hl, h.same⟩
theorem TMod.mono {B : Nat} {T T' : TypeId → Bool} {w w' : World} (h : TMod B T w w') (hT : ∀ t, T t = true → T' t = true) : TMod B T' w w' :=
  ⟨h.os, h.tape, h.output, h.size, h.low, fun k o ho hn => h.same k o ho (fun t ht => by
    cases hc : T t with
    | false => rfl
    | true => exact absurd (hT t hc) (by rw [hn t ht]; decide))⟩
theorem TMod.drew {B : Nat} {T : TypeId → Bool} {a w : World} (h : TMod B T a w) : TMod B T a w.drew := ⟨h.os, h.tape, h.output, h.size, h.low, h.same⟩
theorem TMod.drewN {B : Nat} {T : TypeId → Bool} {a w : World} (h : TMod B T a w) (n : Nat) : TMod B T a (w.drewN n) := ⟨h.os, h.tape, h.output, h.size, h.low, h.same⟩
theorem TMod.alloc {B : Nat} {T : TypeId → Bool} {a w : World} (h : TMod B T a w) (o : Obj) : TMod B T a (w.alloc o) :=
  have hh : ∀ k x, w.heap[k]? = some x → (w.alloc o).heap[k]? = some x := fun k x hx => (Below.heap_alloc w o k (Array.getElem?_eq_some_iff.1 hx).1).trans hx
  ⟨h.os, h.tape, h.output, Nat.le_trans h.size (by simp), fun k hk hl => (Below.heap_alloc w o k (Nat.lt_of_lt_of_le hl h.size)).trans (h.low k hk hl),
   fun k x hx hT => hh k x (h.same k x hx hT)⟩
/-- Out of 'only the blocks in S': each is one of the types, from B on. -/
theorem TMod.of_mod {B : Nat} {T : TypeId → Bool} {S : Nat → Prop} {w w' : World} (h : Mod S w w') (hS : ∀ k, k < w.heap.size → S k → B ≤ k ∧ ∃ t cs, Blk w k t cs ∧ T t = true) : TMod B T w w' := by
  refine ⟨h.os, h.tape, h.output, h.size, fun k hk hl => h.block k hl (fun hs => by have := (hS k hl hs).1; omega), fun k o ho hT => ?_⟩
  have hl := (Array.getElem?_eq_some_iff.1 ho).1
  by_cases hs : S k
  · obtain ⟨_, t', cs, h1, h3⟩ := hS k hl hs
    unfold Blk at h1
    rw [h1] at ho
    injection ho with ho
    subst ho
    exact absurd h3 (by rw [hT t' rfl]; decide)
  · exact (h.block k hl hs).trans ho
theorem TMod.of_quiet {B : Nat} {T : TypeId → Bool} {w w' : World} (h : Mod (fun _ => False) w w') : TMod B T w w' := .of_mod h (fun _ _ h => h.elim)
theorem TMod.setCell {B : Nat} {T : TypeId → Bool} {a w : World} (h : TMod B T a w) {g i : Nat} {t : TypeId} {cs : Array Value} (hb : Blk w g t cs) (hB : B ≤ g) (hT : T t = true) (u : Value) : TMod B T a (w.setCell ⟨g, i, none⟩ u) :=
  h.trans (.of_mod ((Mod.refl (· = g) _).setCell (by exact .inl rfl) _) (fun k _ e => by subst e; exact ⟨hB, t, cs, hb, hT⟩))
theorem TMod.below {T : TypeId → Bool} {w w' : World} (h : TMod w.heap.size T w w') : Below w.heap.size w w' := ⟨h.os, h.tape, h.output, h.size, fun k hk => h.low k hk hk⟩
theorem Blk.tmod {B : Nat} {T : TypeId → Bool} {w w' : World} {g : Nat} {t : TypeId} {cs : Array Value} (hb : Blk w g t cs) (h : TMod B T w w') (hT : T t = false) : Blk w' g t cs :=
  h.same g _ hb (fun t' ht => by simp only [tyOf, Option.some.injEq] at ht; rw [← ht]; exact hT)
theorem own_tmod {B B' : Nat} {T : TypeId → Bool} {w w' : World} {e : TypeId} {size n : Nat} {v : Value} {xs : List Value} (h : w.ownsRow B e size v n xs) (hm : TMod B' T w w') (hT : T e = false) : w'.ownsRow B e size v n xs := by
  refine ⟨h.1, ?_⟩
  rcases h.2 with hn | ⟨g, cap, cur, rfl, hb, hgg, rest⟩
  · exact .inl hn
  · exact .inr ⟨g, cap, cur, rfl, hb, Blk.tmod (cs := cur) hgg hm hT, rest⟩
theorem own_base {B B' : Nat} {w : World} {e : TypeId} {size n : Nat} {v : Value} {xs : List Value} (h : w.ownsRow B e size v n xs) (hB : B' ≤ B) : w.ownsRow B' e size v n xs :=
  ⟨h.1, h.2.imp id (fun ⟨g, cap, cur, h1, h2, h3⟩ => ⟨g, cap, cur, h1, by omega, h3⟩)⟩
/-- A row's own block is of its type. -/
theorem own_blk {B : Nat} {w : World} {e : TypeId} {size n : Nat} {v : Value} {xs : List Value} {k : Nat} (h : w.ownsRow B e size v n xs) (hk : v.ownBlock = some k) : B ≤ k ∧ ∃ cs, Blk w k e cs := by
  rcases h.2 with ⟨rfl, _⟩ | ⟨g, cap, cur, rfl, hb, hgg, rest⟩
  · simp [Value.ownBlock] at hk
  · obtain rfl : g = k := by simpa [Value.ownBlock] using hk
    exact ⟨hb, cur, hgg⟩
theorem cell_low {B : Nat} {T : TypeId → Bool} {w w' : World} (h : TMod B T w w') {p : Addr} {v : Value} (hp : p.block < B) (hc : w.cell? p = some v) : w'.cell? p = some v :=
  (World.cell?_of_block (h.low p.block hp (World.block_lt_of_cell? w p hc))).trans hc
end Go.Proofs.YtmkopcojnibhlaaGreatDoor

/-
  Bytes in memory: rows of bytes; copy and make.
-/
namespace Go.Proofs.YtmkopcojnibhlaaGreatDoor
open Go.RowKit

theorem addr_add (r j : Nat) : (⟨r, 0, none⟩ : Addr).add j = ⟨r, j, none⟩ := by unfold Addr.add; split <;> simp_all
theorem addr_add' (r o j : Nat) : (⟨r, o, none⟩ : Addr).add j = ⟨r, o + j, none⟩ := by unfold Addr.add; split <;> simp_all
theorem u8_info : (Tryz.prog.info? 5).map (fun i => (i.zero, i.size, i.bytes)) = some (some (.int .u8 0), 1, 1) := by kernel_rfl

/-- The cells of bytes. -/
def u8s (l : List UInt8) : List Value := l.map fun b => .int .u8 (b.toNat : Int)
theorem u8s_one (l : List UInt8) : ∀ u ∈ u8s l, u.oneCell' = true := fun u hu => by
  obtain ⟨b, _, rfl⟩ := List.mem_map.1 hu
  rfl
theorem u8s_length (l : List UInt8) : (u8s l).length = l.length := by simp [u8s]

/-- The slice value v owns a row from B on that reads as the bytes l. -/
def Bytes (w : World) (B : Nat) (v : Value) (l : List UInt8) : Prop := w.ownsRow B 5 1 v l.length (u8s l)

/-- A slice '.slice A n c' reads as the bytes l. -/
def BytesIn (w : World) (A : Option Addr) (n c : Nat) (l : List UInt8) : Prop := l.length = n ∧ (A = none → c = 0) ∧ Src w 1 A n (u8s l) ∧ (0 < n → ∀ ad, A = some ad → ad.block < w.heap.size)

theorem Bytes.take {w : World} {B r n c : Nat} {l : List UInt8} (h : Bytes w B (.slice (some ⟨r, 0, none⟩) n c) l) (m : Nat) (hm : m ≤ l.length) : Bytes w B (.slice (some ⟨r, 0, none⟩) m c) (l.take m) := by
  have hl : (l.take m).length = m := by rw [List.length_take]; omega
  refine ⟨by simp [u8s], ?_⟩
  rcases h.2 with ⟨hv, _⟩ | ⟨g, cap, cur, hv, hB, hg, hnc, hcm, hs, ht⟩
  · cases hv
  · obtain ⟨rfl, e2, rfl⟩ : r = g ∧ n = l.length ∧ c = cap := by injection hv with e1 e2 e3; injection e1 with e1; injection e1; exact ⟨by assumption, e2, e3⟩
    refine .inr ⟨r, c, cur, by rw [hl], hB, hg, by omega, hcm, hs, ?_⟩
    have e : u8s (l.take m) = (u8s l).take m := by simp [u8s, List.map_take]
    rw [hl, e, ← ht, List.take_take]
    simp
    omega

/-- The string of bytes. -/
def strOf (l : List UInt8) : ByteArray := ⟨l.toArray⟩

theorem str_src (w : World) (A : Option Addr) (n c : Nat) (l : List UInt8) (hl : l.length = n) (h : Src w 1 A n (u8s l)) : (convert 36 9 (.slice A n c)).run Tryz.prog w = .ok (.string (strOf l)) w := by
  rw [run_convert_bytes_string w 36 9 5 A n c Tryz.underlying36 Tryz.underlying5 Tryz.underlying9]
  cases A with
  | none =>
    obtain rfl := h.2.1 rfl
    obtain rfl : l = [] := List.eq_nil_of_length_eq_zero hl
    rfl
  | some ad =>
    have hload := run_loadCells_list (P := Tryz.prog) (w := w) ad (u8s l) (h.2.2 ad rfl)
    rw [u8s_length, hl] at hload
    have e : u8s l = (l.map fun b => (b.toNat : Int)).map (Value.int .u8) := by simp [u8s]
    rw [e] at hload
    rw [run_bytesToString w ad n c (l.map fun b => (b.toNat : Int)) hload, foldl_push_byteCells]
    simp [strOf]
theorem str_bytes {w : World} {B : Nat} {A : Option Addr} {m c : Nat} {l : List UInt8} (h : Bytes w B (.slice A m c) l) : (convert 36 9 (.slice A m c)).run Tryz.prog w = .ok (.string (strOf l)) w := by
  obtain ⟨rfl, hs⟩ := Src.of_own h
  exact str_src w A _ c l rfl hs

/-- Bytes that came in, at a later world. -/
theorem BytesIn.mod {w w' : World} {S : Nat → Prop} {A : Option Addr} {n c : Nat} {l : List UInt8} (h : BytesIn w A n c l) (hm : Mod S w w') (hS : 0 < n → ∀ ad, A = some ad → ¬ S ad.block) : BytesIn w' A n c l := by
  obtain ⟨h1, h2, h3, h4⟩ := h
  refine ⟨h1, h2, h3.keep' fun h0 ad e j => World.cell?_of_block (by rw [addr_block]; exact hm.block _ (h4 h0 ad e) (hS h0 ad e)), fun h0 ad e => Nat.lt_of_lt_of_le (h4 h0 ad e) hm.size⟩
theorem BytesIn.quiet {w w' : World} {A : Option Addr} {n c : Nat} {l : List UInt8} (h : BytesIn w A n c l) (hm : Mod (fun _ => False) w w') : BytesIn w' A n c l := h.mod hm (fun _ _ _ h => h)
theorem Bytes.in_ {w : World} {B : Nat} {A : Option Addr} {m c : Nat} {l : List UInt8} (h : Bytes w B (.slice A m c) l) : BytesIn w A m c l := by
  have hs := Src.of_own h
  obtain ⟨rfl, hs⟩ := hs
  refine ⟨rfl, fun e => ?_, hs, fun _ ad e => ?_⟩
  · rcases h.2 with ⟨hv, _⟩ | ⟨g, cap, cur, hv, _⟩
    · injection hv
    · subst e; injection hv with e1; cases e1
  · rcases h.2 with ⟨hv, _⟩ | ⟨g, cap, cur, hv, hB, hg, _⟩
    · subst e; injection hv with e1; cases e1
    · subst e; injection hv with e1; injection e1 with e1; subst e1
      exact (Array.getElem?_eq_some_iff.1 hg).1
/-- A row's byte. -/
theorem Bytes.cell {w : World} {B r n c : Nat} {l : List UInt8} (h : Bytes w B (.slice (some ⟨r, 0, none⟩) n c) l) (i : Nat) (hi : i < l.length) : w.cell? ⟨r, i, none⟩ = some (.int .u8 ((l.getD i 0).toNat : Int)) := by
  have := World.ownsRow.cells h (g := r) rfl i (.int .u8 ((l.getD i 0).toNat : Int)) (by simp [u8s, List.getD_eq_getElem?_getD, hi])
  rwa [addr_add] at this
theorem Bytes.some_ {w : World} {B n c : Nat} {A : Option Addr} {l : List UInt8} (h : Bytes w B (.slice A n c) l) (h0 : 0 < l.length) : ∃ r, A = some ⟨r, 0, none⟩ ∧ l.length ≤ c := by
  rcases h.2 with ⟨_, h1⟩ | ⟨r, cap, cur, hv, _, _, hc, _⟩
  · omega
  · injection hv with e1 _ e3
    exact ⟨r, e1, by omega⟩

/-- copy into a block that is known whole. -/
theorem wpList_copy_blk {P : Program} {w : World} {ops : Array Oper} {rest : List Oper} {o : Oper} {a : Act} {Q : Exit → Act → World → Prop} (hgd : o.guard = none) (d s : Operand) (dT sT : TypeId)
    (ho : o.op = .call { callee := .builtin .copy, args := #[d, s], argTypes := #[dT, sT] }) (elem : TypeId) (hu : P.underlying dT = some (.slice elem)) (hsz : (P.info? elem).map (·.size) = some 1)
    (dp : Option Addr) (dLen dCap : Nat) (A : Option Addr) (m c : Nat) (xs : List Value) (hd : a.eval d = .slice dp dLen dCap) (hs : a.eval s = .slice A m c) (hsrc : Src w 1 A m xs)
    (g off : Nat) (cur : List Value) (t : TypeId) (hg : Blk w g t cur.toArray) (n : Nat) (hn : n = Nat.min m dLen) (hdp : 0 < n → dp = some ⟨g, off, none⟩) (hfit : off + n ≤ cur.length) (h1 : ∀ u ∈ xs, u.oneCell' = true)
    (h : ∀ w', Blk w' g t (splice cur off (xs.take n)).toArray → Mod (· = g) w w' → wpList P ops Q rest (a.put o.dst (goInt n)) w') : wpList P ops Q (o :: rest) a w := by
  have hxl : xs.length = m := by have := hsrc.1; omega
  have hnm : n ≤ m := by rw [hn]; exact Nat.min_le_left _ _
  by_cases h0 : n = 0
  · refine wpList_copy_nothing hgd d s dT sT ho elem hu hsz dp A dLen dCap m c hd hs (by omega) ?_
    have := h w (by rw [h0]; simpa [splice] using hg) (Mod.refl _ _)
    rwa [h0] at this
  · have hdp' := hdp (by omega)
    subst hdp'
    cases A with
    | none => have := hsrc.2.1 rfl; omega
    | some ad =>
      have hl : (xs.take n).length = n := by rw [List.length_take]; omega
      refine wpList_copy_own hgd d s dT sT ho elem hu hsz g off dLen dCap ad m c hd hs cur.toArray t hg (xs.take n) (by rw [hl, hn]) (fun j v hv => ?_) (by rw [hl]; simpa using hfit) (fun v hv => h1 v (List.mem_of_mem_take hv)) ?_
      · rw [List.getElem?_take] at hv
        split at hv
        · exact hsrc.2.2 ad rfl j v hv
        · cases hv
      · rw [hl]
        refine h _ ?_ ⟨rfl, rfl, rfl, by simp [World.setRow], fun k _ hk => setRow_other w g k _ hk⟩
        have := setRow_heap w g cur.toArray (splice cur off (xs.take n)).toArray t (0, 0) hg
        simpa [Blk, splice, hl] using this
/-- A row that is known whole, as an own row. -/
theorem Bytes.of_blk {w : World} {B g : Nat} {l : List UInt8} (hB : B ≤ g) (h : Blk w g 5 (u8s l).toArray) (hl : l.length ≤ maxLen) : Bytes w B (.slice (some ⟨g, 0, none⟩) l.length l.length) l :=
  ⟨by simp [u8s], .inr ⟨g, l.length, _, rfl, hB, h, Nat.le_refl _, hl, by simp [u8s], by rw [Nat.mul_one]; exact List.take_of_length_le (by simp [u8s])⟩⟩
theorem own_whole {w : World} {B : Nat} {e : TypeId} {g n : Nat} {xs : List Value} (h : w.ownsRow B e 1 (.slice (some ⟨g, 0, none⟩) n n) n xs) : Blk w g e xs.toArray ∧ B ≤ g := by
  rcases h.2 with ⟨hv, _⟩ | ⟨g', cap, cur, hv, hB, hg, _, _, hs, ht⟩
  · cases hv
  · injection hv with e1 _ e3
    injection e1 with e1
    injection e1 with e1
    subst e1 e3
    have : cur.toList = xs := by rw [← ht, List.take_of_length_le (by simp; omega)]
    exact ⟨by rw [← this]; exact hg, hB⟩
end Go.Proofs.YtmkopcojnibhlaaGreatDoor

/-
  Rows of ints in memory.
-/
namespace Go.Proofs.YtmkopcojnibhlaaGreatDoor
open Go.RowKit

theorem int_info : (Tryz.prog.info? 3).map (fun i => (i.zero, i.size, i.bytes)) = some (some (.int .i64 0), 1, 8) := by kernel_rfl
def i64s (l : List Int) : List Value := l.map (Value.int .i64)
theorem i64s_length (l : List Int) : (i64s l).length = l.length := by simp [i64s]
theorem i64s_one (l : List Int) : ∀ u ∈ i64s l, u.oneCell' = true := fun u hu => by
  obtain ⟨b, _, rfl⟩ := List.mem_map.1 hu
  rfl
/-- The slice value v owns a row from B on that reads as the ints l. -/
def IntsOwn (w : World) (B : Nat) (v : Value) (l : List Int) : Prop := w.ownsRow B 3 1 v l.length (i64s l)
/-- A slice '.slice A n c' reads as the ints l. -/
def IntsIn (w : World) (A : Option Addr) (n c : Nat) (l : List Int) : Prop := l.length = n ∧ (A = none → c = 0) ∧ Src w 1 A n (i64s l) ∧ (0 < n → ∀ ad, A = some ad → ad.block < w.heap.size)
theorem IntsIn.mod {w w' : World} {S : Nat → Prop} {A : Option Addr} {n c : Nat} {l : List Int} (h : IntsIn w A n c l) (hm : Mod S w w') (hS : 0 < n → ∀ ad, A = some ad → ¬ S ad.block) : IntsIn w' A n c l := by
  obtain ⟨h1, h2, h3, h4⟩ := h
  refine ⟨h1, h2, h3.keep' fun h0 ad e j => World.cell?_of_block (by rw [addr_block]; exact hm.block _ (h4 h0 ad e) (hS h0 ad e)), fun h0 ad e => Nat.lt_of_lt_of_le (h4 h0 ad e) hm.size⟩
theorem IntsIn.quiet {w w' : World} {A : Option Addr} {n c : Nat} {l : List Int} (h : IntsIn w A n c l) (hm : Mod (fun _ => False) w w') : IntsIn w' A n c l := h.mod hm (fun _ _ _ h => h)
theorem IntsOwn.in_ {w : World} {B : Nat} {A : Option Addr} {m c : Nat} {l : List Int} (h : IntsOwn w B (.slice A m c) l) : IntsIn w A m c l := by
  have hs := Src.of_own h
  obtain ⟨rfl, hs⟩ := hs
  refine ⟨rfl, fun e => ?_, hs, fun _ ad e => ?_⟩
  · rcases h.2 with ⟨hv, _⟩ | ⟨g, cap, cur, hv, _⟩
    · injection hv
    · subst e; injection hv with e1; cases e1
  · rcases h.2 with ⟨hv, _⟩ | ⟨g, cap, cur, hv, hB, hg, _⟩
    · subst e; injection hv with e1; cases e1
    · subst e; injection hv with e1; injection e1 with e1; subst e1
      exact (Array.getElem?_eq_some_iff.1 hg).1
/-- Where the ints lie. -/
theorem IntsIn.place {w : World} {A : Option Addr} {n c : Nat} {l : List Int} (h : IntsIn w A n c l) (h0 : 0 < n) : ∃ b off, A = some ⟨b, off, none⟩ ∧ b < w.heap.size ∧ ∀ i < n, w.cell? ⟨b, off + i, none⟩ = some (.int .i64 (l.getD i 0)) := by
  obtain ⟨h1, h2, h3, h4⟩ := h
  cases A with
  | none => have := h3.2.1 rfl; omega
  | some ad =>
    obtain ⟨b, off, spot⟩ := ad
    have hl : 0 < (i64s l).length := by rw [i64s_length]; omega
    have hc := h3.2.2 _ rfl 0 _ (List.getElem?_eq_getElem hl)
    have hspot : spot = none := by simpa [Addr.add] using World.cell?_spot hc
    subst hspot
    refine ⟨b, off, rfl, h4 h0 _ rfl, fun i hi => ?_⟩
    have h5 := h3.2.2 _ rfl i (.int .i64 (l.getD i 0)) (by simp [i64s, show i < l.length by omega])
    rwa [addr_add'] at h5
end Go.Proofs.YtmkopcojnibhlaaGreatDoor

/-
  append of one int, or one byte, or of ints that lie elsewhere, onto a row that the call owns.
-/
namespace Go.Proofs.YtmkopcojnibhlaaGreatDoor
open Go.RowKit

theorem wpList_app_int {ops : Array Oper} {rest : List Oper} {o : Oper} {a : Act} {Q : Exit → Act → World → Prop} (w : World) (hgd : o.guard = none) (s x : Operand)
    (ho : o.op = .call { callee := .builtin .append, args := #[s, x], argTypes := #[171, 171] })
    (B : Nat) (v : Value) (l : List Int) (y : Int) (hs : a.eval s = v) (hx : a.eval x = .slice (some ⟨w.heap.size, 0, none⟩) 1 1) (hown : IntsOwn w B v l) (hB : B ≤ w.heap.size) (hl : l.length < 1048576)
    (h : ∀ v' w', IntsOwn w' B v' (l ++ [y]) → Mod (fun j => v.ownBlock = some j) w w' → (∀ (W : World) (S : Nat → Prop), W.heap.size ≤ B → Mod S W w → Mod S W w') → (∀ g, v'.ownBlock = some g → v.ownBlock = some g ∨ w.heap.size ≤ g) → wpList Tryz.prog ops Q rest (a.put o.dst v') w') :
    wpList Tryz.prog ops Q (o :: rest) a (w.alloc (.cells #[.int .i64 y] 3)) := by
  obtain ⟨i0, hi0, hz0, hz1, hz2⟩ := info_parts int_info
  refine wpList_append_src _ hgd s x 171 ho B 3 i0 _ 1 8 Tryz.underlying171 hi0 hz0 hz1 hz2 rfl (by omega) v l.length (i64s l) hs (own_mod hown ((Mod.refl (fun _ => False) w).alloc _) (fun _ _ h => h)) (some ⟨w.heap.size, 0, none⟩) 1 1 [.int .i64 y] hx (Src.new w 3 [.int .i64 y]) (fun h => by cases h) (fun u hu => by rw [List.mem_singleton.1 hu]; rfl) (by unfold maxLen; omega) (by omega) (by simp; omega) ?_
  intro v' w' h1 h2 h3
  have hM : Mod (fun j => v.ownBlock = some j) w w' := ((Mod.refl _ _).alloc _).grown h2 (fun k hk => .inl hk)
  refine h v' w' ?_ hM (fun W S hW hS => hS.into hM (fun i e => .inr (Nat.le_trans hW (hown.lt i e).1))) ?_
  · unfold IntsOwn
    have e1 : (l ++ [y]).length = l.length + 1 := by simp
    have e2 : i64s (l ++ [y]) = i64s l ++ [.int .i64 y] := by simp [i64s]
    rw [e1, e2]
    exact h1
  · intro g hg
    rcases h3 with h3 | h3
    · exact .inl (h3 ▸ hg)
    · rw [h3] at hg
      injection hg with hg
      exact .inr (by simp at hg; omega)

theorem wpList_app_ints {ops : Array Oper} {rest : List Oper} {o : Oper} {a : Act} {Q : Exit → Act → World → Prop} (w : World) (hgd : o.guard = none) (s x : Operand)
    (ho : o.op = .call { callee := .builtin .append, args := #[s, x], argTypes := #[171, 171] })
    (B : Nat) (v : Value) (l : List Int) (A : Option Addr) (m c : Nat) (r : List Int) (hs : a.eval s = v) (hx : a.eval x = .slice A m c) (hown : IntsOwn w B v l) (hin : IntsIn w A m c r) (hB : B ≤ w.heap.size) (hl : l.length + m ≤ 1048576)
    (h : ∀ v' w', IntsOwn w' B v' (l ++ r) → Mod (fun j => v.ownBlock = some j) w w' → (∀ (W : World) (S : Nat → Prop), W.heap.size ≤ B → Mod S W w → Mod S W w') → (∀ g, v'.ownBlock = some g → v.ownBlock = some g ∨ w.heap.size ≤ g) → wpList Tryz.prog ops Q rest (a.put o.dst v') w') :
    wpList Tryz.prog ops Q (o :: rest) a w := by
  obtain ⟨i0, hi0, hz0, hz1, hz2⟩ := info_parts int_info
  refine wpList_append_src _ hgd s x 171 ho B 3 i0 _ 1 8 Tryz.underlying171 hi0 hz0 hz1 hz2 rfl (by omega) v l.length (i64s l) hs hown A m c (i64s r) hx hin.2.2.1 hin.2.1 (i64s_one r) (by unfold maxLen; omega) (by omega) hB ?_
  intro v' w' h1 h2 h3
  have hM : Mod (fun j => v.ownBlock = some j) w w' := (Mod.refl _ _).grown h2 (fun k hk => .inl hk)
  refine h v' w' ?_ hM (fun W S hW hS => hS.into hM (fun i e => .inr (Nat.le_trans hW (hown.lt i e).1))) ?_
  · unfold IntsOwn
    have e1 : (l ++ r).length = l.length + m := by simp [hin.1]
    have e2 : i64s (l ++ r) = i64s l ++ i64s r := by simp [i64s]
    rw [e1, e2]
    exact h1
  · intro g hg
    rcases h3 with h3 | h3
    · exact .inl (h3 ▸ hg)
    · rw [h3] at hg
      injection hg with hg
      exact .inr (by omega)

theorem step_app_int {ops : Array Oper} {o : Oper} {a : Act} {K : Act → World → Prop} {Q : Exit → Act → World → Prop} {E : Prop} (w : World) (hgd : o.guard = none) (s x : Operand)
    (ho : o.op = .call { callee := .builtin .append, args := #[s, x], argTypes := #[171, 171] })
    (B : Nat) (v : Value) (l : List Int) (y : Int) (hs : a.eval s = v) (hx : a.eval x = .slice (some ⟨w.heap.size, 0, none⟩) 1 1) (hown : IntsOwn w B v l) (hB : B ≤ w.heap.size) (hl : l.length < 1048576)
    (h : ∀ v' w', IntsOwn w' B v' (l ++ [y]) → Mod (fun j => v.ownBlock = some j) w w' → (∀ (W : World) (S : Nat → Prop), W.heap.size ≤ B → Mod S W w → Mod S W w') → (∀ g, v'.ownBlock = some g → v.ownBlock = some g ∨ w.heap.size ≤ g) → K (a.put o.dst v') w') :
    if Region.wanted o (yielded ops a.tmps) = true then Oper.wp Tryz.prog o a (w.alloc (.cells #[.int .i64 y] 3)) K Q else E := by
  obtain ⟨i0, hi0, hz0, hz1, hz2⟩ := info_parts int_info
  refine step_append_src _ hgd s x 171 ho B 3 i0 _ 1 8 Tryz.underlying171 hi0 hz0 hz1 hz2 rfl (by omega) v l.length (i64s l) hs (own_mod hown ((Mod.refl (fun _ => False) w).alloc _) (fun _ _ h => h)) (some ⟨w.heap.size, 0, none⟩) 1 1 [.int .i64 y] hx (Src.new w 3 [.int .i64 y]) (fun h => by cases h) (fun u hu => by rw [List.mem_singleton.1 hu]; rfl) (by unfold maxLen; omega) (by omega) (by simp; omega) ?_
  intro v' w' h1 h2 h3
  have hM : Mod (fun j => v.ownBlock = some j) w w' := ((Mod.refl _ _).alloc _).grown h2 (fun k hk => .inl hk)
  refine h v' w' ?_ hM (fun W S hW hS => hS.into hM (fun i e => .inr (Nat.le_trans hW (hown.lt i e).1))) ?_
  · unfold IntsOwn
    have e1 : (l ++ [y]).length = l.length + 1 := by simp
    have e2 : i64s (l ++ [y]) = i64s l ++ [.int .i64 y] := by simp [i64s]
    rw [e1, e2]
    exact h1
  · intro g hg
    rcases h3 with h3 | h3
    · exact .inl (h3 ▸ hg)
    · rw [h3] at hg
      injection hg with hg
      exact .inr (by simp at hg; omega)

theorem step_app_ints {ops : Array Oper} {o : Oper} {a : Act} {K : Act → World → Prop} {Q : Exit → Act → World → Prop} {E : Prop} (w : World) (hgd : o.guard = none) (s x : Operand)
    (ho : o.op = .call { callee := .builtin .append, args := #[s, x], argTypes := #[171, 171] })
    (B : Nat) (v : Value) (l : List Int) (A : Option Addr) (m c : Nat) (r : List Int) (hs : a.eval s = v) (hx : a.eval x = .slice A m c) (hown : IntsOwn w B v l) (hin : IntsIn w A m c r) (hB : B ≤ w.heap.size) (hl : l.length + m ≤ 1048576)
    (h : ∀ v' w', IntsOwn w' B v' (l ++ r) → Mod (fun j => v.ownBlock = some j) w w' → (∀ (W : World) (S : Nat → Prop), W.heap.size ≤ B → Mod S W w → Mod S W w') → (∀ g, v'.ownBlock = some g → v.ownBlock = some g ∨ w.heap.size ≤ g) → K (a.put o.dst v') w') :
    if Region.wanted o (yielded ops a.tmps) = true then Oper.wp Tryz.prog o a w K Q else E := by
  obtain ⟨i0, hi0, hz0, hz1, hz2⟩ := info_parts int_info
  refine step_append_src _ hgd s x 171 ho B 3 i0 _ 1 8 Tryz.underlying171 hi0 hz0 hz1 hz2 rfl (by omega) v l.length (i64s l) hs hown A m c (i64s r) hx hin.2.2.1 hin.2.1 (i64s_one r) (by unfold maxLen; omega) (by omega) hB ?_
  intro v' w' h1 h2 h3
  have hM : Mod (fun j => v.ownBlock = some j) w w' := (Mod.refl _ _).grown h2 (fun k hk => .inl hk)
  refine h v' w' ?_ hM (fun W S hW hS => hS.into hM (fun i e => .inr (Nat.le_trans hW (hown.lt i e).1))) ?_
  · unfold IntsOwn
    have e1 : (l ++ r).length = l.length + m := by simp [hin.1]
    have e2 : i64s (l ++ r) = i64s l ++ i64s r := by simp [i64s]
    rw [e1, e2]
    exact h1
  · intro g hg
    rcases h3 with h3 | h3
    · exact .inl (h3 ▸ hg)
    · rw [h3] at hg
      injection hg with hg
      exact .inr (by omega)

theorem wpList_app_u8 {ops : Array Oper} {rest : List Oper} {o : Oper} {a : Act} {Q : Exit → Act → World → Prop} (w : World) (hgd : o.guard = none) (s x : Operand)
    (ho : o.op = .call { callee := .builtin .append, args := #[s, x], argTypes := #[36, 36] })
    (B : Nat) (v : Value) (l : List UInt8) (y : UInt8) (hs : a.eval s = v) (hx : a.eval x = .slice (some ⟨w.heap.size, 0, none⟩) 1 1) (hown : Bytes w B v l) (hB : B ≤ w.heap.size) (hl : l.length < 1048576)
    (h : ∀ v' w', Bytes w' B v' (l ++ [y]) → Mod (fun j => v.ownBlock = some j) w w' → (∀ (W : World) (S : Nat → Prop), W.heap.size ≤ B → Mod S W w → Mod S W w') → (∀ g, v'.ownBlock = some g → v.ownBlock = some g ∨ w.heap.size ≤ g) → wpList Tryz.prog ops Q rest (a.put o.dst v') w') :
    wpList Tryz.prog ops Q (o :: rest) a (w.alloc (.cells #[.int .u8 (y.toNat : Int)] 5)) := by
  obtain ⟨i0, hi0, hz0, hz1, hz2⟩ := info_parts u8_info
  refine wpList_append_src _ hgd s x 36 ho B 5 i0 _ 1 1 Tryz.underlying36 hi0 hz0 hz1 hz2 rfl (by omega) v l.length (u8s l) hs (own_mod hown ((Mod.refl (fun _ => False) w).alloc _) (fun _ _ h => h)) (some ⟨w.heap.size, 0, none⟩) 1 1 [.int .u8 (y.toNat : Int)] hx (Src.new w 5 [.int .u8 (y.toNat : Int)]) (fun h => by cases h) (fun u hu => by rw [List.mem_singleton.1 hu]; rfl) (by unfold maxLen; omega) (by omega) (by simp; omega) ?_
  intro v' w' h1 h2 h3
  have hM : Mod (fun j => v.ownBlock = some j) w w' := ((Mod.refl _ _).alloc _).grown h2 (fun k hk => .inl hk)
  refine h v' w' ?_ hM (fun W S hW hS => hS.into hM (fun i e => .inr (Nat.le_trans hW (hown.lt i e).1))) ?_
  · unfold Bytes
    have e1 : (l ++ [y]).length = l.length + 1 := by simp
    have e2 : u8s (l ++ [y]) = u8s l ++ [.int .u8 (y.toNat : Int)] := by simp [u8s]
    rw [e1, e2]
    exact h1
  · intro g hg
    rcases h3 with h3 | h3
    · exact .inl (h3 ▸ hg)
    · rw [h3] at hg
      injection hg with hg
      exact .inr (by simp at hg; omega)

theorem wpList_app_u8s {ops : Array Oper} {rest : List Oper} {o : Oper} {a : Act} {Q : Exit → Act → World → Prop} (w : World) (hgd : o.guard = none) (s x : Operand)
    (ho : o.op = .call { callee := .builtin .append, args := #[s, x], argTypes := #[36, 36] })
    (B : Nat) (v : Value) (l : List UInt8) (A : Option Addr) (m c : Nat) (r : List UInt8) (hs : a.eval s = v) (hx : a.eval x = .slice A m c) (hown : Bytes w B v l) (hin : BytesIn w A m c r) (hB : B ≤ w.heap.size) (hl : l.length + m ≤ 1048576)
    (h : ∀ v' w', Bytes w' B v' (l ++ r) → Mod (fun j => v.ownBlock = some j) w w' → (∀ (W : World) (S : Nat → Prop), W.heap.size ≤ B → Mod S W w → Mod S W w') → (∀ g, v'.ownBlock = some g → v.ownBlock = some g ∨ w.heap.size ≤ g) → wpList Tryz.prog ops Q rest (a.put o.dst v') w') :
    wpList Tryz.prog ops Q (o :: rest) a w := by
  obtain ⟨i0, hi0, hz0, hz1, hz2⟩ := info_parts u8_info
  refine wpList_append_src _ hgd s x 36 ho B 5 i0 _ 1 1 Tryz.underlying36 hi0 hz0 hz1 hz2 rfl (by omega) v l.length (u8s l) hs hown A m c (u8s r) hx hin.2.2.1 hin.2.1 (u8s_one r) (by unfold maxLen; omega) (by omega) hB ?_
  intro v' w' h1 h2 h3
  have hM : Mod (fun j => v.ownBlock = some j) w w' := (Mod.refl _ _).grown h2 (fun k hk => .inl hk)
  refine h v' w' ?_ hM (fun W S hW hS => hS.into hM (fun i e => .inr (Nat.le_trans hW (hown.lt i e).1))) ?_
  · unfold Bytes
    have e1 : (l ++ r).length = l.length + m := by simp [hin.1]
    have e2 : u8s (l ++ r) = u8s l ++ u8s r := by simp [u8s]
    rw [e1, e2]
    exact h1
  · intro g hg
    rcases h3 with h3 | h3
    · exact .inl (h3 ▸ hg)
    · rw [h3] at hg
      injection hg with hg
      exact .inr (by omega)

theorem step_app_u8 {ops : Array Oper} {o : Oper} {a : Act} {K : Act → World → Prop} {Q : Exit → Act → World → Prop} {E : Prop} (w : World) (hgd : o.guard = none) (s x : Operand)
    (ho : o.op = .call { callee := .builtin .append, args := #[s, x], argTypes := #[36, 36] })
    (B : Nat) (v : Value) (l : List UInt8) (y : UInt8) (hs : a.eval s = v) (hx : a.eval x = .slice (some ⟨w.heap.size, 0, none⟩) 1 1) (hown : Bytes w B v l) (hB : B ≤ w.heap.size) (hl : l.length < 1048576)
    (h : ∀ v' w', Bytes w' B v' (l ++ [y]) → Mod (fun j => v.ownBlock = some j) w w' → (∀ (W : World) (S : Nat → Prop), W.heap.size ≤ B → Mod S W w → Mod S W w') → (∀ g, v'.ownBlock = some g → v.ownBlock = some g ∨ w.heap.size ≤ g) → K (a.put o.dst v') w') :
    if Region.wanted o (yielded ops a.tmps) = true then Oper.wp Tryz.prog o a (w.alloc (.cells #[.int .u8 (y.toNat : Int)] 5)) K Q else E := by
  obtain ⟨i0, hi0, hz0, hz1, hz2⟩ := info_parts u8_info
  refine step_append_src _ hgd s x 36 ho B 5 i0 _ 1 1 Tryz.underlying36 hi0 hz0 hz1 hz2 rfl (by omega) v l.length (u8s l) hs (own_mod hown ((Mod.refl (fun _ => False) w).alloc _) (fun _ _ h => h)) (some ⟨w.heap.size, 0, none⟩) 1 1 [.int .u8 (y.toNat : Int)] hx (Src.new w 5 [.int .u8 (y.toNat : Int)]) (fun h => by cases h) (fun u hu => by rw [List.mem_singleton.1 hu]; rfl) (by unfold maxLen; omega) (by omega) (by simp; omega) ?_
  intro v' w' h1 h2 h3
  have hM : Mod (fun j => v.ownBlock = some j) w w' := ((Mod.refl _ _).alloc _).grown h2 (fun k hk => .inl hk)
  refine h v' w' ?_ hM (fun W S hW hS => hS.into hM (fun i e => .inr (Nat.le_trans hW (hown.lt i e).1))) ?_
  · unfold Bytes
    have e1 : (l ++ [y]).length = l.length + 1 := by simp
    have e2 : u8s (l ++ [y]) = u8s l ++ [.int .u8 (y.toNat : Int)] := by simp [u8s]
    rw [e1, e2]
    exact h1
  · intro g hg
    rcases h3 with h3 | h3
    · exact .inl (h3 ▸ hg)
    · rw [h3] at hg
      injection hg with hg
      exact .inr (by simp at hg; omega)

theorem step_app_u8s {ops : Array Oper} {o : Oper} {a : Act} {K : Act → World → Prop} {Q : Exit → Act → World → Prop} {E : Prop} (w : World) (hgd : o.guard = none) (s x : Operand)
    (ho : o.op = .call { callee := .builtin .append, args := #[s, x], argTypes := #[36, 36] })
    (B : Nat) (v : Value) (l : List UInt8) (A : Option Addr) (m c : Nat) (r : List UInt8) (hs : a.eval s = v) (hx : a.eval x = .slice A m c) (hown : Bytes w B v l) (hin : BytesIn w A m c r) (hB : B ≤ w.heap.size) (hl : l.length + m ≤ 1048576)
    (h : ∀ v' w', Bytes w' B v' (l ++ r) → Mod (fun j => v.ownBlock = some j) w w' → (∀ (W : World) (S : Nat → Prop), W.heap.size ≤ B → Mod S W w → Mod S W w') → (∀ g, v'.ownBlock = some g → v.ownBlock = some g ∨ w.heap.size ≤ g) → K (a.put o.dst v') w') :
    if Region.wanted o (yielded ops a.tmps) = true then Oper.wp Tryz.prog o a w K Q else E := by
  obtain ⟨i0, hi0, hz0, hz1, hz2⟩ := info_parts u8_info
  refine step_append_src _ hgd s x 36 ho B 5 i0 _ 1 1 Tryz.underlying36 hi0 hz0 hz1 hz2 rfl (by omega) v l.length (u8s l) hs hown A m c (u8s r) hx hin.2.2.1 hin.2.1 (u8s_one r) (by unfold maxLen; omega) (by omega) hB ?_
  intro v' w' h1 h2 h3
  have hM : Mod (fun j => v.ownBlock = some j) w w' := (Mod.refl _ _).grown h2 (fun k hk => .inl hk)
  refine h v' w' ?_ hM (fun W S hW hS => hS.into hM (fun i e => .inr (Nat.le_trans hW (hown.lt i e).1))) ?_
  · unfold Bytes
    have e1 : (l ++ r).length = l.length + m := by simp [hin.1]
    have e2 : u8s (l ++ r) = u8s l ++ u8s r := by simp [u8s]
    rw [e1, e2]
    exact h1
  · intro g hg
    rcases h3 with h3 | h3
    · exact .inl (h3 ▸ hg)
    · rw [h3] at hg
      injection hg with hg
      exact .inr (by omega)

theorem IntsOwn.whole {w : World} {B g : Nat} {l : List Int} (hB : B ≤ g) (h : Blk w g 3 (i64s l).toArray) (hl : l.length ≤ maxLen) : IntsOwn w B (.slice (some ⟨g, 0, none⟩) l.length l.length) l :=
  ⟨by simp [i64s], .inr ⟨g, l.length, _, rfl, hB, h, Nat.le_refl _, hl, by simp [i64s], by rw [Nat.mul_one]; exact List.take_of_length_le (by simp [i64s])⟩⟩
theorem IntsOwn.cap {w : World} {B : Nat} {A : Option Addr} {n c : Nat} {l : List Int} (h : IntsOwn w B (.slice A n c) l) : n ≤ c := by
  rcases h.2 with ⟨hv, _⟩ | ⟨g, cap, cur, hv, _, _, h1, _⟩
  · injection hv with _ h2 h3
    omega
  · injection hv with _ h2 h3
    omega
theorem IntsOwn.mod {S : Nat → Prop} {w w' : World} {B : Nat} {v : Value} {l : List Int} (h : IntsOwn w B v l) (hm : Mod S w w') (hS : ∀ g, v.ownBlock = some g → ¬ S g) : IntsOwn w' B v l := own_mod h hm hS
theorem IntsOwn.quiet {w w' : World} {B : Nat} {v : Value} {l : List Int} (h : IntsOwn w B v l) (hm : Mod (fun _ => False) w w') : IntsOwn w' B v l := own_mod h hm (fun _ _ h => h)
theorem Bytes.mod {S : Nat → Prop} {w w' : World} {B : Nat} {v : Value} {l : List UInt8} (h : Bytes w B v l) (hm : Mod S w w') (hS : ∀ g, v.ownBlock = some g → ¬ S g) : Bytes w' B v l := own_mod h hm hS
theorem Bytes.quiet {w w' : World} {B : Nat} {v : Value} {l : List UInt8} (h : Bytes w B v l) (hm : Mod (fun _ => False) w w') : Bytes w' B v l := own_mod h hm (fun _ _ h => h)
theorem Bytes.cap {w : World} {B : Nat} {A : Option Addr} {n c : Nat} {l : List UInt8} (h : Bytes w B (.slice A n c) l) : n ≤ c := by
  rcases h.2 with ⟨hv, _⟩ | ⟨g, cap, cur, hv, _, _, h1, _⟩
  · injection hv with _ h2 h3
    omega
  · injection hv with _ h2 h3
    omega
theorem IntsOwn.nil (w : World) (B : Nat) : IntsOwn w B (.slice none 0 0) [] := World.ownsRow_nil _ _ _ _
theorem Bytes.nil (w : World) (B : Nat) : Bytes w B (.slice none 0 0) [] := World.ownsRow_nil _ _ _ _
end Go.Proofs.YtmkopcojnibhlaaGreatDoor
