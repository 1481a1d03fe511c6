/-
  Bytes in memory: rows of bytes; copy and make.
-/
import Derived.Test.YtkobngipbhjfjaaDoorTMod
import Derived.Laws.BytesString
import Derived.Laws.IdiomStrings
import Derived.Laws.CopyOwn
import Derived.BigRegion
import Derived.Deep.RegionHeld3
import Derived.Deep.Cut
namespace Go.Proofs.YtkobngipbhjfjaaDoor
open Go.RowKit

theorem addr_add (r j : Nat) : (⟨r, 0, none⟩ : Addr).add j = ⟨r, j, none⟩ := by unfold Addr.add; split <;> simp_all
theorem addr_add' (r o j : Nat) : (⟨r, o, none⟩ : Addr).add j = ⟨r, o + j, none⟩ := by unfold Addr.add; split <;> simp_all
theorem u8_info : (Tryd.prog.info? 5).map (fun i => (i.zero, i.size, i.bytes)) = some (some (.int .u8 0), 1, 1) := by kernel_rfl

/-- The cells of bytes. -/
def u8s (l : List UInt8) : List Value := l.map fun b => .int .u8 (b.toNat : Int)
theorem u8s_one (l : List UInt8) : ∀ u ∈ u8s l, u.oneCell' = true := fun u hu => by
  obtain ⟨b, _, rfl⟩ := List.mem_map.1 hu
  rfl
theorem u8s_length (l : List UInt8) : (u8s l).length = l.length := by simp [u8s]

/-- The slice value v owns a row from B on that reads as the bytes l. -/
def Bytes (w : World) (B : Nat) (v : Value) (l : List UInt8) : Prop := w.ownsRow B 5 1 v l.length (u8s l)

/-- A slice '.slice A n c' reads as the bytes l. -/
def BytesIn (w : World) (A : Option Addr) (n c : Nat) (l : List UInt8) : Prop := l.length = n ∧ (A = none → c = 0) ∧ Src w 1 A n (u8s l) ∧ (0 < n → ∀ ad, A = some ad → ad.block < w.heap.size)

theorem Bytes.take {w : World} {B r n c : Nat} {l : List UInt8} (h : Bytes w B (.slice (some ⟨r, 0, none⟩) n c) l) (m : Nat) (hm : m ≤ l.length) : Bytes w B (.slice (some ⟨r, 0, none⟩) m c) (l.take m) := by
  have hl : (l.take m).length = m := by rw [List.length_take]; omega
  refine ⟨by simp [u8s], ?_⟩
  rcases h.2 with ⟨hv, _⟩ | ⟨g, cap, cur, hv, hB, hg, hnc, hcm, hs, ht⟩
  · cases hv
  · obtain ⟨rfl, e2, rfl⟩ : r = g ∧ n = l.length ∧ c = cap := by injection hv with e1 e2 e3; injection e1 with e1; injection e1; exact ⟨by assumption, e2, e3⟩
    refine .inr ⟨r, c, cur, by rw [hl], hB, hg, by omega, hcm, hs, ?_⟩
    have e : u8s (l.take m) = (u8s l).take m := by simp [u8s, List.map_take]
    rw [hl, e, ← ht, List.take_take]
    simp
    omega

/-- The string of bytes. -/
def strOf (l : List UInt8) : ByteArray := ⟨l.toArray⟩

theorem str_src (w : World) (A : Option Addr) (n c : Nat) (l : List UInt8) (hl : l.length = n) (h : Src w 1 A n (u8s l)) : (convert 47 9 (.slice A n c)).run Tryd.prog w = .ok (.string (strOf l)) w := by
  rw [run_convert_bytes_string w 47 9 5 A n c Tryd.underlying47 Tryd.underlying5 Tryd.underlying9]
  cases A with
  | none =>
    obtain rfl := h.2.1 rfl
    obtain rfl : l = [] := List.eq_nil_of_length_eq_zero hl
    rfl
  | some ad =>
    have hload := run_loadCells_list (P := Tryd.prog) (w := w) ad (u8s l) (h.2.2 ad rfl)
    rw [u8s_length, hl] at hload
    have e : u8s l = (l.map fun b => (b.toNat : Int)).map (Value.int .u8) := by simp [u8s]
    rw [e] at hload
    rw [run_bytesToString w ad n c (l.map fun b => (b.toNat : Int)) hload, foldl_push_byteCells]
    simp [strOf]
theorem str_bytes {w : World} {B : Nat} {A : Option Addr} {m c : Nat} {l : List UInt8} (h : Bytes w B (.slice A m c) l) : (convert 47 9 (.slice A m c)).run Tryd.prog w = .ok (.string (strOf l)) w := by
  obtain ⟨rfl, hs⟩ := Src.of_own h
  exact str_src w A _ c l rfl hs

/-- Bytes that came in, at a later world. -/
theorem BytesIn.mod {w w' : World} {S : Nat → Prop} {A : Option Addr} {n c : Nat} {l : List UInt8} (h : BytesIn w A n c l) (hm : Mod S w w') (hS : 0 < n → ∀ ad, A = some ad → ¬ S ad.block) : BytesIn w' A n c l := by
  obtain ⟨h1, h2, h3, h4⟩ := h
  refine ⟨h1, h2, h3.keep' fun h0 ad e j => World.cell?_of_block (by rw [addr_block]; exact hm.block _ (h4 h0 ad e) (hS h0 ad e)), fun h0 ad e => Nat.lt_of_lt_of_le (h4 h0 ad e) hm.size⟩
theorem BytesIn.quiet {w w' : World} {A : Option Addr} {n c : Nat} {l : List UInt8} (h : BytesIn w A n c l) (hm : Mod (fun _ => False) w w') : BytesIn w' A n c l := h.mod hm (fun _ _ _ h => h)
theorem Bytes.in_ {w : World} {B : Nat} {A : Option Addr} {m c : Nat} {l : List UInt8} (h : Bytes w B (.slice A m c) l) : BytesIn w A m c l := by
  have hs := Src.of_own h
  obtain ⟨rfl, hs⟩ := hs
  refine ⟨rfl, fun e => ?_, hs, fun _ ad e => ?_⟩
  · rcases h.2 with ⟨hv, _⟩ | ⟨g, cap, cur, hv, _⟩
    · injection hv
    · subst e; injection hv with e1; cases e1
  · rcases h.2 with ⟨hv, _⟩ | ⟨g, cap, cur, hv, hB, hg, _⟩
    · subst e; injection hv with e1; cases e1
    · subst e; injection hv with e1; injection e1 with e1; subst e1
      exact (Array.getElem?_eq_some_iff.1 hg).1
/-- A row's byte. -/
theorem Bytes.cell {w : World} {B r n c : Nat} {l : List UInt8} (h : Bytes w B (.slice (some ⟨r, 0, none⟩) n c) l) (i : Nat) (hi : i < l.length) : w.cell? ⟨r, i, none⟩ = some (.int .u8 ((l.getD i 0).toNat : Int)) := by
  have := World.ownsRow.cells h (g := r) rfl i (.int .u8 ((l.getD i 0).toNat : Int)) (by simp [u8s, List.getD_eq_getElem?_getD, hi])
  rwa [addr_add] at this
theorem Bytes.some_ {w : World} {B n c : Nat} {A : Option Addr} {l : List UInt8} (h : Bytes w B (.slice A n c) l) (h0 : 0 < l.length) : ∃ r, A = some ⟨r, 0, none⟩ ∧ l.length ≤ c := by
  rcases h.2 with ⟨_, h1⟩ | ⟨r, cap, cur, hv, _, _, hc, _⟩
  · omega
  · injection hv with e1 _ e3
    exact ⟨r, e1, by omega⟩

/-- copy into a block that is known whole. -/
theorem wpList_copy_blk {P : Program} {w : World} {ops : Array Oper} {rest : List Oper} {o : Oper} {a : Act} {Q : Exit → Act → World → Prop} (hgd : o.guard = none) (d s : Operand) (dT sT : TypeId)
    (ho : o.op = .call { callee := .builtin .copy, args := #[d, s], argTypes := #[dT, sT] }) (elem : TypeId) (hu : P.underlying dT = some (.slice elem)) (hsz : (P.info? elem).map (·.size) = some 1)
    (dp : Option Addr) (dLen dCap : Nat) (A : Option Addr) (m c : Nat) (xs : List Value) (hd : a.eval d = .slice dp dLen dCap) (hs : a.eval s = .slice A m c) (hsrc : Src w 1 A m xs)
    (g off : Nat) (cur : List Value) (t : TypeId) (hg : Blk w g t cur.toArray) (n : Nat) (hn : n = Nat.min m dLen) (hdp : 0 < n → dp = some ⟨g, off, none⟩) (hfit : off + n ≤ cur.length) (h1 : ∀ u ∈ xs, u.oneCell' = true)
    (h : ∀ w', Blk w' g t (splice cur off (xs.take n)).toArray → Mod (· = g) w w' → wpList P ops Q rest (a.put o.dst (goInt n)) w') : wpList P ops Q (o :: rest) a w := by
  have hxl : xs.length = m := by have := hsrc.1; omega
  have hnm : n ≤ m := by rw [hn]; exact Nat.min_le_left _ _
  by_cases h0 : n = 0
  · refine wpList_copy_nothing hgd d s dT sT ho elem hu hsz dp A dLen dCap m c hd hs (by omega) ?_
    have := h w (by rw [h0]; simpa [splice] using hg) (Mod.refl _ _)
    rwa [h0] at this
  · have hdp' := hdp (by omega)
    subst hdp'
    cases A with
    | none => have := hsrc.2.1 rfl; omega
    | some ad =>
      have hl : (xs.take n).length = n := by rw [List.length_take]; omega
      refine wpList_copy_own hgd d s dT sT ho elem hu hsz g off dLen dCap ad m c hd hs cur.toArray t hg (xs.take n) (by rw [hl, hn]) (fun j v hv => ?_) (by rw [hl]; simpa using hfit) (fun v hv => h1 v (List.mem_of_mem_take hv)) ?_
      · rw [List.getElem?_take] at hv
        split at hv
        · exact hsrc.2.2 ad rfl j v hv
        · cases hv
      · rw [hl]
        refine h _ ?_ ⟨rfl, rfl, rfl, by simp [World.setRow], fun k _ hk => setRow_other w g k _ hk⟩
        have := setRow_heap w g cur.toArray (splice cur off (xs.take n)).toArray t (0, 0) hg
        simpa [Blk, splice, hl] using this
/-- A row that is known whole, as an own row. -/
theorem Bytes.of_blk {w : World} {B g : Nat} {l : List UInt8} (hB : B ≤ g) (h : Blk w g 5 (u8s l).toArray) (hl : l.length ≤ maxLen) : Bytes w B (.slice (some ⟨g, 0, none⟩) l.length l.length) l :=
  ⟨by simp [u8s], .inr ⟨g, l.length, _, rfl, hB, h, Nat.le_refl _, hl, by simp [u8s], by rw [Nat.mul_one]; exact List.take_of_length_le (by simp [u8s])⟩⟩
theorem own_whole {w : World} {B : Nat} {e : TypeId} {g n : Nat} {xs : List Value} (h : w.ownsRow B e 1 (.slice (some ⟨g, 0, none⟩) n n) n xs) : Blk w g e xs.toArray ∧ B ≤ g := by
  rcases h.2 with ⟨hv, _⟩ | ⟨g', cap, cur, hv, hB, hg, _, _, hs, ht⟩
  · cases hv
  · injection hv with e1 _ e3
    injection e1 with e1
    injection e1 with e1
    subst e1 e3
    have : cur.toList = xs := by rw [← ht, List.take_of_length_le (by simp; omega)]
    exact ⟨by rw [← this]; exact hg, hB⟩
end Go.Proofs.YtkobngipbhjfjaaDoor
