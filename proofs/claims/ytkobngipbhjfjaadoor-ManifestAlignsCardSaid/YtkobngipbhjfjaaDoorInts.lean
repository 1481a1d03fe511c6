/-
  Rows of ints in memory.
-/
import Derived.Test.YtkobngipbhjfjaaDoorBytes
namespace Go.Proofs.YtkobngipbhjfjaaDoor
open Go.RowKit

theorem int_info : (Tryd.prog.info? 3).map (fun i => (i.zero, i.size, i.bytes)) = some (some (.int .i64 0), 1, 8) := by kernel_rfl
def i64s (l : List Int) : List Value := l.map (Value.int .i64)
theorem i64s_length (l : List Int) : (i64s l).length = l.length := by simp [i64s]
theorem i64s_one (l : List Int) : ∀ u ∈ i64s l, u.oneCell' = true := fun u hu => by
  obtain ⟨b, _, rfl⟩ := List.mem_map.1 hu
  rfl
/-- The slice value v owns a row from B on that reads as the ints l. -/
def IntsOwn (w : World) (B : Nat) (v : Value) (l : List Int) : Prop := w.ownsRow B 3 1 v l.length (i64s l)
/-- A slice '.slice A n c' reads as the ints l. -/
def IntsIn (w : World) (A : Option Addr) (n c : Nat) (l : List Int) : Prop := l.length = n ∧ (A = none → c = 0) ∧ Src w 1 A n (i64s l) ∧ (0 < n → ∀ ad, A = some ad → ad.block < w.heap.size)
theorem IntsIn.mod {w w' : World} {S : Nat → Prop} {A : Option Addr} {n c : Nat} {l : List Int} (h : IntsIn w A n c l) (hm : Mod S w w') (hS : 0 < n → ∀ ad, A = some ad → ¬ S ad.block) : IntsIn w' A n c l := by
  obtain ⟨h1, h2, h3, h4⟩ := h
  refine ⟨h1, h2, h3.keep' fun h0 ad e j => World.cell?_of_block (by rw [addr_block]; exact hm.block _ (h4 h0 ad e) (hS h0 ad e)), fun h0 ad e => Nat.lt_of_lt_of_le (h4 h0 ad e) hm.size⟩
theorem IntsIn.quiet {w w' : World} {A : Option Addr} {n c : Nat} {l : List Int} (h : IntsIn w A n c l) (hm : Mod (fun _ => False) w w') : IntsIn w' A n c l := h.mod hm (fun _ _ _ h => h)
theorem IntsOwn.in_ {w : World} {B : Nat} {A : Option Addr} {m c : Nat} {l : List Int} (h : IntsOwn w B (.slice A m c) l) : IntsIn w A m c l := by
  have hs := Src.of_own h
  obtain ⟨rfl, hs⟩ := hs
  refine ⟨rfl, fun e => ?_, hs, fun _ ad e => ?_⟩
  · rcases h.2 with ⟨hv, _⟩ | ⟨g, cap, cur, hv, _⟩
    · injection hv
    · subst e; injection hv with e1; cases e1
  · rcases h.2 with ⟨hv, _⟩ | ⟨g, cap, cur, hv, hB, hg, _⟩
    · subst e; injection hv with e1; cases e1
    · subst e; injection hv with e1; injection e1 with e1; subst e1
      exact (Array.getElem?_eq_some_iff.1 hg).1
/-- Where the ints lie. -/
theorem IntsIn.place {w : World} {A : Option Addr} {n c : Nat} {l : List Int} (h : IntsIn w A n c l) (h0 : 0 < n) : ∃ b off, A = some ⟨b, off, none⟩ ∧ b < w.heap.size ∧ ∀ i < n, w.cell? ⟨b, off + i, none⟩ = some (.int .i64 (l.getD i 0)) := by
  obtain ⟨h1, h2, h3, h4⟩ := h
  cases A with
  | none => have := h3.2.1 rfl; omega
  | some ad =>
    obtain ⟨b, off, spot⟩ := ad
    have hl : 0 < (i64s l).length := by rw [i64s_length]; omega
    have hc := h3.2.2 _ rfl 0 _ (List.getElem?_eq_getElem hl)
    have hspot : spot = none := by simpa [Addr.add] using World.cell?_spot hc
    subst hspot
    refine ⟨b, off, rfl, h4 h0 _ rfl, fun i hi => ?_⟩
    have h5 := h3.2.2 _ rfl i (.int .i64 (l.getD i 0)) (by simp [i64s, show i < l.length by omega])
    rwa [addr_add'] at h5
end Go.Proofs.YtkobngipbhjfjaaDoor
