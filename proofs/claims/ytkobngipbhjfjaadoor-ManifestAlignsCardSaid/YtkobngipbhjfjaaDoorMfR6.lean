/-
  The reference's Digits, walked.
-/
import Derived.Test.YtkobngipbhjfjaaDoorMfR5
namespace Go.Proofs.YtkobngipbhjfjaaDoor
open Go.RowKit

theorem strOf_cat (a b : Str) : (strOf a) ++ (strOf b) = strOf (a ++ b) := by
  rw [← strOf_of (strOf a ++ strOf b)]
  congr 1
def figures : ByteArray := ⟨#[48, 49, 50, 51, 52, 53, 54, 55, 56, 57]⟩
theorem figure_at : ∀ d, d < 10 → figures.extract d (d + 1) = strOf [UInt8.ofNat (48 + d)] := by decide
def DgRel (n : Nat) (v0 v3 : Value) (wr w : World) : Prop := ∃ (k : Nat) (s : Str), v0 = .int .i64 (k : Int) ∧ v3 = .string (strOf s) ∧ k ≤ n ∧ wr = w ∧ ((s = [] ∧ k = n) ∨ (s ≠ [] ∧ k = 0 ∧ s = Lib.decDigits n) ∨ (s ≠ [] ∧ k ≠ 0 ∧ Lib.decDigits k ++ s = Lib.decDigits n))
def sizeS (v : Value) : Nat := match v with
  | .string s => if s.size = 0 then 1 else 0
  | _ => 0
theorem sizeS_of (l : Str) : sizeS (.string (strOf l)) = if l.length = 0 then 1 else 0 := by show (if (strOf l).size = 0 then 1 else 0) = _; rw [strOf_size]
theorem dg_next {n k : Nat} {s : Str} (h : (s = [] ∧ k = n) ∨ (s ≠ [] ∧ k = 0 ∧ s = Lib.decDigits n) ∨ (s ≠ [] ∧ k ≠ 0 ∧ Lib.decDigits k ++ s = Lib.decDigits n)) (hg : s = [] ∨ k ≠ 0) :
    (UInt8.ofNat (48 + k % 10) :: s ≠ [] ∧ k / 10 = 0 ∧ UInt8.ofNat (48 + k % 10) :: s = Lib.decDigits n) ∨ (UInt8.ofNat (48 + k % 10) :: s ≠ [] ∧ k / 10 ≠ 0 ∧ Lib.decDigits (k / 10) ++ UInt8.ofNat (48 + k % 10) :: s = Lib.decDigits n) := by
  have h2 : Lib.decDigits k ++ s = Lib.decDigits n := by
    rcases h with ⟨h1, h2⟩ | ⟨h1, h2, h3⟩ | ⟨h1, h2, h3⟩
    · rw [h1, h2, List.append_nil]
    · rcases hg with hg | hg
      · exact absurd hg h1
      · exact absurd h2 hg
    · exact h3
  rw [Lib.decDigits] at h2
  split at h2
  · rename_i h10
    refine .inl ⟨by simp, by omega, ?_⟩
    rw [← h2, Nat.mod_eq_of_lt h10]
    rfl
  · rename_i h10
    refine .inr ⟨by simp, by omega, ?_⟩
    rw [← h2, List.append_assoc]
    rfl
set_option maxRecDepth 100000 in
set_option maxHeartbeats 4000000 in
theorem rDigits (w : World) (n : Nat) (hn : n ≤ 9223372036854775807) : Calls Tryd.prog 24 #[.int .i64 (n : Int)] w fun e w' => e = .returned (.string (strOf (Lib.decDigits n))) ∧ w = w' := by
  go_enter Tryd.func24, Tryd.ntmps24
  go_wp2_with fail
  go_loopw [0, 3] (fun a b wr => DgRel n a b wr w) (fun a b _ => 2 * (intOf a).toNat + sizeS b)
  case atStart => exact ⟨n, [], rfl, rfl, Nat.le_refl _, rfl, .inl ⟨rfl, rfl⟩⟩
  case round =>
    rename World => wr
    obtain ⟨k, s, rfl, rfl, hkn, rfl, hs⟩ := hrel
    have hk : k % 10 < 10 := by omega
    have hf := figure_at (k % 10) hk
    unfold figures at hf
    have hnx := dg_next hs
    have hsl : s.length ≤ 19 := by
      have hd := decDigits_len 18 n (by omega)
      rcases hs with ⟨h1, _⟩ | ⟨_, _, h3⟩ | ⟨_, _, h3⟩
      · rw [h1]; simp
      · rw [h3]; exact hd
      · rw [← h3, List.length_append] at hd; omega
    generalize UInt8.ofNat (48 + k % 10) = d at hf hnx
    have z1 : (strOf [d]).size = 1 := strOf_size _
    have z2 : (strOf s).size = s.length := strOf_size _
    have z3 : strOf [d] ++ strOf s = strOf (d :: s) := strOf_cat [d] s
    have HS := Lib.hid (And.intro hs hnx)
    clear hs hnx
    by_cases h0 : s = []
    · subst h0
      have t1 : (strOf []).toList = [] := strOf_toList []
      go_wp2_with fail
      go_roundw
      case rel => exact ⟨k / 10, [d], by simp, rfl, by omega, rfl, .inr (HS.out.2 (.inl rfl))⟩
      case measure =>
        rw [sizeS_of, sizeS_of]
        simp [intOf]
        omega
    · have t1 : (strOf s).toList.isEmpty = false := by rw [strOf_toList]; simpa using h0
      have t2 : ¬ (strOf s).toList = [] := by rw [strOf_toList]; exact h0
      by_cases hk0 : 0 < k
      · go_wp2_with fail
        go_roundw
        case rel => exact ⟨k / 10, d :: s, by simp, rfl, by omega, rfl, .inr (HS.out.2 (.inr (by omega)))⟩
        case measure =>
          rw [sizeS_of, sizeS_of, if_neg (by simp), if_neg (by simpa using h0)]
          simp [intOf]
          omega
      · have hk0 : k = 0 := by omega
        subst hk0
        go_wp2_with fail
        go_ret
        rcases HS.out.1 with ⟨h1, _⟩ | ⟨_, _, h3⟩ | ⟨_, h2, _⟩
        · exact absurd h1 h0
        · exact ⟨by rw [h3]; rfl, rfl⟩
        · exact absurd rfl h2
end Go.Proofs.YtkobngipbhjfjaaDoor
