/-
  Contracts of policy.count and policy.Pick.
-/
import Derived.Test.YtaflmnnnmbklfaaBase
import Derived.BigGuardPart
namespace Go.Proofs.Ytaflmnnnmbklfaa
open Go.RowKit

/-- The k-th number of a list. -/
def nth (l : List Int) (k : Nat) : Int := l.getD k 0

/-- A slice of ints that reads as l. -/
def Ints (w : World) (A : Option Addr) (n : Nat) (l : List Int) : Prop :=
  l.length = n ∧ (0 < n → ∃ b off, A = some ⟨b, off, none⟩ ∧ ∀ i, i < n → w.cell? ⟨b, off + i, none⟩ = some (.int .i64 (nth l i)))

theorem ret_int {k : IntKind} {a b : Int} (h : a = b) : Ending.returned (.int k a) = .returned (.int k b) := by rw [h]
def cnt (n : Int) : Int := min (max n 0) 1125899906842624
theorem cnt_bd (n : Int) : 0 ≤ cnt n ∧ cnt n ≤ 1125899906842624 := by unfold cnt; omega

theorem count_any (n : Int) (w : World) : Calls Try.prog 24 #[.int .i64 n] w fun e w' => e = .returned (.int .i64 (cnt n)) ∧ w = w' := by
  go_enter Try.func24, Try.ntmps24
  go_wp2
  all_goals
    go_ret
    exact ⟨ret_int (by unfold cnt; omega), rfl⟩

theorem ret_num {a b : Int} (h : a = b) : Value.int .i64 a = .int .i64 b := by rw [h]
theorem ite_yes {p : Prop} [Decidable p] {a b : Int} (h : p) : a = if p then a else b := (if_pos h).symm
theorem ite_no {p : Prop} [Decidable p] {a b : Int} (h : ¬ p) : b = if p then a else b := (if_neg h).symm
def leastStep (l : List Int) (least : Int) (i : Nat) : Int := if least < 0 ∨ cnt (nth l i) < cnt (nth l least.toNat) then (i : Int) else least
def bestStep (l : List Int) (r : Int) (best : Int) (i : Nat) : Int := if 4 * cnt (nth l i) ≤ 3 * r ∧ (best < 0 ∨ cnt (nth l best.toNat) < cnt (nth l i)) then (i : Int) else best
def leastAt (l : List Int) : Nat → Int
  | 0 => -1
  | k + 1 => leastStep l (leastAt l k) k
def bestAt (l : List Int) (r : Int) : Nat → Int
  | 0 => -1
  | k + 1 => bestStep l r (bestAt l r k) k
def pick (l : List Int) (rate buffered low : Int) : Int :=
  if cnt rate = 0 ∨ buffered < low ∨ bestAt l (cnt rate) l.length < 0 then leastAt l l.length else bestAt l (cnt rate) l.length

theorem leastAt_form (l : List Int) (k : Nat) : leastAt l k = -1 ∨ ∃ m : Nat, m < k ∧ leastAt l k = (m : Int) := by
  induction k with
  | zero => exact .inl rfl
  | succ k ih =>
    show leastStep l (leastAt l k) k = -1 ∨ ∃ m : Nat, m < k + 1 ∧ leastStep l (leastAt l k) k = (m : Int)
    unfold leastStep
    split
    · exact .inr ⟨k, by omega, rfl⟩
    · rcases ih with h | ⟨m, hm, h⟩
      · exact .inl h
      · exact .inr ⟨m, by omega, h⟩
theorem bestAt_form (l : List Int) (r : Int) (k : Nat) : bestAt l r k = -1 ∨ ∃ m : Nat, m < k ∧ bestAt l r k = (m : Int) := by
  induction k with
  | zero => exact .inl rfl
  | succ k ih =>
    show bestStep l r (bestAt l r k) k = -1 ∨ ∃ m : Nat, m < k + 1 ∧ bestStep l r (bestAt l r k) k = (m : Int)
    unfold bestStep
    split
    · exact .inr ⟨k, by omega, rfl⟩
    · rcases ih with h | ⟨m, hm, h⟩
      · exact .inl h
      · exact .inr ⟨m, by omega, h⟩

set_option maxHeartbeats 1000000 in
theorem pick_any (A : Option Addr) (n c : Nat) (l : List Int) (rate buffered low : Int) (w : World) (hl : Ints w A n l) (hn : n ≤ 1048576) :
    Calls Try.prog 23 #[.slice A n c, .int .i64 rate, .int .i64 buffered, .int .i64 low] w fun e w' => e = .returned (.int .i64 (pick l rate buffered low)) ∧ w = w' := by
  obtain ⟨hlen, hat⟩ := hl
  have HL := Lib.hid hlen
  have HA := Lib.hid hat
  clear hlen hat
  have hr := cnt_bd rate
  go_enter Try.func23, Try.ntmps23
  go_wp2_with (go_at_call 24; refine (count_any _ _).mono ?_; rintro e w' ⟨rfl, rfl⟩)
  go_loop [9, 10, 17] (fun s b i => ∃ k : Nat, k ≤ n ∧ i = .int .i64 k ∧ s = .int .i64 (leastAt l k) ∧ b = .int .i64 (bestAt l (cnt rate) k)) (fun _ _ i => n - (intOf i).toNat)
  case atStart => exact ⟨0, Nat.zero_le _, rfl, rfl, rfl⟩
  case round =>
    obtain ⟨k, hk, rfl, rfl, rfl⟩ := hrel
    by_cases hlt : k < n
    · obtain ⟨b, off, rfl, hc⟩ := HA.out (by omega)
      have hck := hc k hlt
      have bk := cnt_bd (nth l k)
      rcases leastAt_form l k with h1 | ⟨m1, hm1, h1⟩ <;> rcases bestAt_form l (cnt rate) k with h2 | ⟨m2, hm2, h2⟩
      · have H1 := Lib.hid h1
        have H2 := Lib.hid h2
        rw [h1, h2]
        clear h1 h2 hc
        go_wp2_with (go_at_call 24; refine (count_any _ _).mono ?_; rintro e w' ⟨rfl, rfl⟩)
        all_goals
          go_round
          case rel => exact ⟨k + 1, by omega, by go_num, ret_num (by show _ = leastStep l _ k; rw [H1.out]; exact ite_yes (.inl (by omega))), ret_num (by show _ = bestStep l _ _ k; rw [H2.out]; first | exact ite_yes ⟨by omega, .inl (by omega)⟩ | exact ite_no (fun h => by omega))⟩
          case measure => simp [intOf]; omega
      · have H1 := Lib.hid h1
        have H2 := Lib.hid h2
        rw [h1, h2]
        have hc2 := hc m2 (by omega)
        clear h1 h2 hc
        have b2 := cnt_bd (nth l m2)
        go_wp2_with (go_at_call 24; refine (count_any _ _).mono ?_; rintro e w' ⟨rfl, rfl⟩)
        all_goals
          go_round
          case rel => exact ⟨k + 1, by omega, by go_num, ret_num (by show _ = leastStep l _ k; rw [H1.out]; exact ite_yes (.inl (by omega))), ret_num (by show _ = bestStep l _ _ k; rw [H2.out]; unfold bestStep; rw [Int.toNat_natCast]; first | exact ite_yes ⟨by omega, .inr (by omega)⟩ | exact ite_no (fun h => by omega))⟩
          case measure => simp [intOf]; omega
      · have H1 := Lib.hid h1
        have H2 := Lib.hid h2
        rw [h1, h2]
        have hc1 := hc m1 (by omega)
        clear h1 h2 hc
        have b1 := cnt_bd (nth l m1)
        go_wp2_with (go_at_call 24; refine (count_any _ _).mono ?_; rintro e w' ⟨rfl, rfl⟩)
        all_goals
          go_round
          case rel => exact ⟨k + 1, by omega, by go_num, ret_num (by show _ = leastStep l _ k; rw [H1.out]; unfold leastStep; rw [Int.toNat_natCast]; first | exact ite_yes (.inr (by omega)) | exact ite_no (fun h => by omega)), ret_num (by show _ = bestStep l _ _ k; rw [H2.out]; first | exact ite_yes ⟨by omega, .inl (by omega)⟩ | exact ite_no (fun h => by omega))⟩
          case measure => simp [intOf]; omega
      · have H1 := Lib.hid h1
        have H2 := Lib.hid h2
        rw [h1, h2]
        have hc1 := hc m1 (by omega)
        have hc2 := hc m2 (by omega)
        clear h1 h2 hc
        have b1 := cnt_bd (nth l m1)
        have b2 := cnt_bd (nth l m2)
        go_wp2_with (go_at_call 24; refine (count_any _ _).mono ?_; rintro e w' ⟨rfl, rfl⟩)
        all_goals
          go_round
          case rel => exact ⟨k + 1, by omega, by go_num, ret_num (by show _ = leastStep l _ k; rw [H1.out]; unfold leastStep; rw [Int.toNat_natCast]; first | exact ite_yes (.inr (by omega)) | exact ite_no (fun h => by omega)), ret_num (by show _ = bestStep l _ _ k; rw [H2.out]; unfold bestStep; rw [Int.toNat_natCast]; first | exact ite_yes ⟨by omega, .inr (by omega)⟩ | exact ite_no (fun h => by omega))⟩
          case measure => simp [intOf]; omega
    · obtain rfl : k = n := by omega
      go_wp2_with fail
      all_goals
        go_ret
        exact ⟨ret_int (by unfold pick; rw [HL.out]; first | exact ite_yes (by omega) | exact ite_no (by omega)), rfl⟩
end Go.Proofs.Ytaflmnnnmbklfaa
