/-
  quant: side, Step, Value, within, all.
-/
import Derived.Test.YteppnjgfebcmjaaGreatInts
namespace Go.Proofs.YteppnjgfebcmjaaGreat
open Go.RowKit

def sideOf (n : Nat) : Nat := if n = 16 then 4 else if n = 64 then 8 else 0
theorem quantSide (w : World) (n : Nat) (hn : n ≤ 9223372036854775807) : Calls Tryz.prog 126 #[.int .i64 (n : Int)] w fun e w' => e = .returned (.int .i64 ((sideOf n : Nat) : Int)) ∧ w = w' := by
  unfold sideOf
  by_cases h1 : n = 16
  · subst h1
    go_enter Tryz.func126, Tryz.ntmps126
    go_wp2_with fail
    go_ret
    exact ⟨rfl, rfl⟩
  · by_cases h2 : n = 64
    · subst h2
      go_enter Tryz.func126, Tryz.ntmps126
      go_wp2_with fail
      go_ret
      exact ⟨rfl, rfl⟩
    · rw [if_neg h1, if_neg h2]
      have e1 : ((n : Int) == 16) = false := beq_eq_false_iff_ne.2 (by omega)
      have e2 : ((n : Int) == 64) = false := beq_eq_false_iff_ne.2 (by omega)
      go_enter Tryz.func126, Tryz.ntmps126
      go_wp2_with fail
      go_ret
      exact ⟨rfl, rfl⟩

/-- The step of a quantiser at a place. -/
def stepOf (q x y : Int) : Int := (4 + q % 4) * 2 ^ (q / 4).toNat / 4 * (4 + x + y) / 4
def stepOk (q x y : Int) : Bool := decide (0 ≤ q ∧ q ≤ 31 ∧ 0 ≤ x ∧ x ≤ 7 ∧ 0 ≤ y ∧ y ≤ 7)
theorem may_any (w : World) (v m : Int) : Calls Tryz.prog 153 #[.int .i64 v, .int .i64 m] w fun e w' => e = .returned (.bool (decide (0 ≤ v ∧ v ≤ m))) ∧ w = w' := by
  by_cases h : 0 ≤ v
  · have e1 : decide (0 ≤ v) = true := by simpa using h
    rw [show decide (0 ≤ v ∧ v ≤ m) = decide (v ≤ m) by simp [h]]
    go_enter Tryz.func153, Tryz.ntmps153
    go_wp2_with fail
    go_ret
    exact ⟨rfl, rfl⟩
  · have e1 : decide (0 ≤ v) = false := by simpa using h
    rw [show decide (0 ≤ v ∧ v ≤ m) = false by simp [h]]
    go_enter Tryz.func153, Tryz.ntmps153
    go_wp2_with fail
    go_ret
    exact ⟨rfl, rfl⟩
theorem quantValue (w : World) (v s : Int) (hs : 1 ≤ s) (hv : -9223372036854775808 ≤ v * s ∧ v * s ≤ 9223372036854775807) : Calls Tryz.prog 81 #[.int .i64 v, .int .i64 s] w fun e w' => e = .returned (.int .i64 (v * s)) ∧ w = w' := by
  go_enter Tryz.func81, Tryz.ntmps81
  go_wp2_with fail
  go_ret
  exact ⟨rfl, rfl⟩
theorem quantWithin (w : World) (m : Int) : Calls Tryz.prog 124 #[.int .i64 m] w fun e w' => e = .returned (.func (.func 152) #[] #[.pointer (some ⟨w.heap.size, 0, none⟩)]) ∧ Blk w' w.heap.size 3 #[.int .i64 m] ∧ Mod (fun _ => False) w w' := by
  go_enter Tryz.func124, Tryz.ntmps124
  go_wp2_with fail
  go_ret
  exact ⟨rfl, Blk.new _ _ _, (Mod.refl _ _).alloc _⟩
def inB (m v : Int) : Bool := decide (-m ≤ v ∧ v ≤ m)
theorem quantIn (w : World) (b : Nat) (m v : Int) (hm : 0 ≤ m ∧ m ≤ 1099511627776) (hb : Blk w b 3 #[.int .i64 m]) : Calls Tryz.prog 152 #[.int .i64 v, .pointer (some ⟨b, 0, none⟩)] w fun e w' => e = .returned (.bool (inB m v)) ∧ w = w' := by
  obtain ⟨hc, hf⟩ := hb.both
  unfold inB
  clear hb
  by_cases h : -m ≤ v
  · have e1 : decide (-m ≤ v) = true := by simpa using h
    rw [show decide (-m ≤ v ∧ v ≤ m) = decide (v ≤ m) by simp [h]]
    go_enter Tryz.func152, Tryz.ntmps152
    go_wp2_with fail
    go_ret
    exact ⟨rfl, rfl⟩
  · have e1 : decide (-m ≤ v) = false := by simpa using h
    rw [show decide (-m ≤ v ∧ v ≤ m) = false by simp [h]]
    go_enter Tryz.func152, Tryz.ntmps152
    go_wp2_with fail
    go_ret
    exact ⟨rfl, rfl⟩
end Go.Proofs.YteppnjgfebcmjaaGreat
