/-
  The reference's number, walked.
-/
import Derived.Test.YtkobngipbhjfjaaDoorMfR1
namespace Go.Proofs.YtkobngipbhjfjaaDoor
open Go.RowKit

def NuRel (s : Str) (v3 v4 : Value) (wr w : World) : Prop := ∃ (i : Nat) (a : Int), i ≤ s.length ∧ i ≤ 15 ∧ v4 = .int .i64 (i : Int) ∧ v3 = .int .i64 a ∧ (0 ≤ a ∧ a < 10 ^ i) ∧ numF 0 0 s = numF i a (s.drop i) ∧ wr = w
theorem numF_at {s : Str} {i : Nat} {a : Int} {c : UInt8} (h : s[i]? = some c) : numF i a (s.drop i) = if c.toNat < 48 ∨ 57 < c.toNat ∨ i = 15 then 0 else numF (i + 1) (10 * a + ((c.toNat : Int) - 48)) (s.drop (i + 1)) := by
  obtain ⟨hlt, he⟩ := List.getElem?_eq_some_iff.1 h
  rw [List.drop_eq_getElem_cons hlt, he, numF]
theorem ten_le : ∀ {i : Nat}, i ≤ 15 → (10 : Int) ^ i ≤ 1000000000000000 := by
  intro i h
  have : ∀ i, i ≤ 15 → (10 : Int) ^ i ≤ 1000000000000000 := by decide
  exact this i h
set_option maxRecDepth 100000 in
set_option maxHeartbeats 4000000 in
theorem rNumber (w : World) (s : Str) (hs : s.length ≤ 9223372036854775807) : Calls Tryd.prog 41 #[.string (strOf s)] w fun e w' => e = .returned (.int .i64 (numF 0 0 s)) ∧ w = w' := by
  have hsz := strOf_size s
  go_enter Tryd.func41, Tryd.ntmps41
  go_wp2_with fail
  go_loopw [3, 4] (fun a b wr => NuRel s a b wr w) (fun _ b _ => s.length - (intOf b).toNat)
  case atStart => exact ⟨0, 0, by omega, by omega, rfl, rfl, ⟨by omega, by decide⟩, by simp, rfl⟩
  case round =>
    rename World => wr
    obtain ⟨i, a, hi, hi15, rfl, rfl, ⟨ha0, ha1⟩, hnum, rfl⟩ := hrel
    have hten := ten_le hi15
    have ha2 : a ≤ 1000000000000000 := by omega
    clear hten
    by_cases hlt : i < s.length
    · have hc := getE hlt
      have d0 : decide ((i : Int) < (s.length : Int)) = true := decide_eq_true (by omega)
      have hx := run_index_strOf (P := Tryd.prog) (t := 9) s .i64 i _ Tryd.underlying9 hc
      generalize hcc : s[i] = c at hc hx
      have hct := c.toNat_lt
      have hst := numF_at (a := a) hc
      have HN := Lib.hid (And.intro hnum hst)
      clear hc hcc hnum hst
      by_cases h48 : c.toNat < 48
      · have d1 : decide ((c.toNat : Int) < 48) = true := decide_eq_true (by omega)
        have HZ := Lib.hid (show numF 0 0 s = 0 by rw [HN.out.1, HN.out.2, if_pos (.inl h48)])
        clear ha1
        go_wp2_with fail
        go_ret
        exact ⟨by rw [HZ.out]; rfl, rfl⟩
      · have d1 : decide ((c.toNat : Int) < 48) = false := decide_eq_false (by omega)
        by_cases h57 : 57 < c.toNat
        · have d2 : decide ((57 : Int) < (c.toNat : Int)) = true := decide_eq_true (by omega)
          have HZ := Lib.hid (show numF 0 0 s = 0 by rw [HN.out.1, HN.out.2, if_pos (.inr (.inl h57))])
          clear ha1
          go_wp2_with fail
          go_ret
          exact ⟨by rw [HZ.out]; rfl, rfl⟩
        · have d2 : decide ((57 : Int) < (c.toNat : Int)) = false := decide_eq_false (by omega)
          by_cases h15 : i = 15
          · have d3 : ((i : Int) == 15) = true := by rw [h15]; rfl
            have HZ := Lib.hid (show numF 0 0 s = 0 by rw [HN.out.1, HN.out.2, if_pos (.inr (.inr h15))])
            clear ha1 h15
            go_wp2_with fail
            go_ret
            exact ⟨by rw [HZ.out]; rfl, rfl⟩
          · have d3 : ((i : Int) == 15) = false := by simp; omega
            have HZ := Lib.hid (show numF 0 0 s = numF (i + 1) (10 * a + ((c.toNat : Int) - 48)) (s.drop (i + 1)) by rw [HN.out.1, HN.out.2, if_neg (by omega)])
            have hb : 10 * a + ((c.toNat : Int) - 48) < 10 ^ (i + 1) := by rw [Int.pow_succ]; omega
            have HB := Lib.hid hb
            clear hb ha1
            have h48' : (48 : Int) ≤ (c.toNat : Int) := by omega
            have h57' : (c.toNat : Int) ≤ 57 := by omega
            go_wp2_with fail
            go_roundw
            case rel => exact ⟨i + 1, _, by omega, by omega, by go_num, rfl, ⟨by omega, HB.out⟩, HZ.out, rfl⟩
            case measure => simp [intOf]; omega
    · obtain rfl : i = s.length := by omega
      have d0 : decide ((s.length : Int) < (s.length : Int)) = false := decide_eq_false (by omega)
      rw [List.drop_length, numF] at hnum
      have HN := Lib.hid hnum
      clear hnum ha1
      go_wp2_with fail
      go_ret
      exact ⟨by rw [HN.out]; rfl, rfl⟩
end Go.Proofs.YtkobngipbhjfjaaDoor
