/-
  manifest.lines.line: fields with blanks between, and the end of a line.
-/
import Derived.Test.YtkobngipbhjfjaaDoorMfBuf
namespace Go.Proofs.YtkobngipbhjfjaaDoor
open Go.RowKit

def strsV (ss : List Str) : List Value := ss.map fun s => .string (strOf s)
theorem strsV_get {ss : List Str} {i : Nat} {s : Str} (h : ss[i]? = some s) : (strsV ss).toArray[i]? = some (.string (strOf s)) := by
  rw [List.getElem?_toArray]
  unfold strsV
  rw [List.getElem?_map, h]
  rfl
theorem join_app : ∀ (a b : List Str), a ≠ [] → b ≠ [] → joinSp (a ++ b) = joinSp a ++ 32 :: joinSp b
  | [], _, h, _ => absurd rfl h
  | [x], [], _, h => absurd rfl h
  | [x], y :: r, _, _ => rfl
  | x :: y :: r, b, _, hb => by
    have := join_app (y :: r) b (by simp) hb
    rw [List.cons_append, List.cons_append, joinSp, ← List.cons_append, this, joinSp]
    simp
theorem join_len {ss : List Str} {k : Nat} : (joinSp (ss.take k)).length ≤ (joinSp ss).length := by
  by_cases h1 : ss.take k = []
  · rw [h1]; simp [joinSp]
  · by_cases h2 : ss.drop k = []
    · have := List.take_append_drop k ss
      rw [h2, List.append_nil] at this
      rw [this]
      exact Nat.le_refl _
    · have := join_app _ _ h1 h2
      rw [List.take_append_drop] at this
      rw [this, List.length_append]
      omega
theorem join_first {ss : List Str} {s : Str} (h : ss[0]? = some s) : joinSp (ss.take (0 + 1)) = s := by
  cases ss with
  | nil => simp at h
  | cons x r =>
    simp at h
    subst h
    rfl
theorem join_next {ss : List Str} {k : Nat} {s : Str} (h : ss[k]? = some s) (hk : 0 < k) : joinSp (ss.take (k + 1)) = joinSp (ss.take k) ++ [32] ++ s := by
  have hlt : k < ss.length := (List.getElem?_eq_some_iff.1 h).1
  have e : ss.take (k + 1) = ss.take k ++ [s] := by rw [List.take_add_one, h]; rfl
  rw [e, join_app _ _ (by intro h0; rw [List.take_eq_nil_iff] at h0; rcases h0 with h0 | h0; omega; rw [h0] at hlt; simp at hlt) (by simp)]
  simp [joinSp]
theorem join_ge : ∀ (ss : List Str), ss.length ≤ (joinSp ss).length + 1
  | [] => by simp
  | [x] => by simp
  | x :: y :: r => by
    have := join_ge (y :: r)
    simp only [joinSp, List.length_append, List.length_cons] at this ⊢
    omega
theorem byte_ (c : UInt8) (n : Int) (h : (c.toNat : Int) = n) {P : Value → Prop} (hP : P (.int .u8 (c.toNat : Int))) : P (.int .u8 n) := h ▸ hP
def LnRel (w : World) (B b : Nat) (l : Str) (ss : List Str) (v : Value) (wr : World) : Prop :=
  ∃ k : Nat, k ≤ ss.length ∧ v = .int .i64 (k : Int) ∧ (∃ p v', SB wr B b p v' (l ++ joinSp (ss.take k))) ∧ TMod B TB w wr
set_option maxRecDepth 100000 in
set_option maxHeartbeats 4000000 in
theorem pLine (w : World) (B b fb n : Nat) (p v : Value) (l : Str) (ss : List Str) (h : SB w B b p v l) (hf : Blk w fb 9 (strsV ss).toArray) (hn : ss.length = n) (hl : l.length + (lineL ss).length ≤ 1048576) (hB : B ≤ w.heap.size) :
    Calls Tryd.prog 25 #[.pointer (some ⟨b, 0, none⟩), .slice (some ⟨fb, 0, none⟩) n n] w fun e w' => e = .returned (.tuple #[]) ∧ SbPost w B b (l ++ lineL ss) w' := by
  have hL : l.length + (joinSp ss).length + 1 ≤ 1048576 := by unfold lineL at hl; rw [List.length_append] at hl; simp at hl; omega
  have hn8 : n ≤ 1048576 := by have := join_ge ss; omega
  have H := Lib.hid (And.intro h (And.intro hf hn))
  clear h hf
  go_enter Tryd.func25, Tryd.ntmps25
  go_wp2_with fail
  go_loopw [8] (LnRel w B b l ss) (fun s _ => n - (intOf s).toNat)
  case atStart => exact ⟨0, by omega, rfl, ⟨p, v, by simpa [joinSp] using H.out.1⟩, TMod.refl _ _ _⟩
  case round =>
    rename World => wr
    obtain ⟨k, hk, rfl, ⟨p1, v1, hsb⟩, hT⟩ := hrel
    have hbw := Blk.tmod H.out.2.1 hT rfl
    have hsz := hT.size
    by_cases hlt : k < n
    · obtain ⟨s, hs⟩ : ∃ s, ss[k]? = some s := ⟨_, List.getElem?_eq_getElem (by omega)⟩
      have d1 : decide ((k : Int) < (n : Int)) = true := decide_eq_true (by omega)
      have c1 := hbw.cell k
      rw [strsV_get hs] at c1
      have HK := Lib.hid (And.intro hsb (And.intro hT hs))
      clear hsb hT hs hbw
      cases k with
      | zero =>
        have d2 : decide ((0 : Int) < ((0 : Nat) : Int)) = false := rfl
        go_wp2_with fail
        have hq : joinSp (ss.take (0 + 1)) = s := join_first HK.out.2.2
        have hq2 := join_len (ss := ss) (k := 0 + 1)
        rw [hq] at hq2
        refine (pWStr wr B b p1 v1 _ s HK.out.1 (by simp [joinSp]; omega) (by omega)).mono ?_
        rintro e w2 ⟨rfl, ⟨v2, hs2⟩, ht2⟩
        have HQ := Lib.hid (And.intro hs2 (And.intro (HK.out.2.1.trans ht2) hq))
        clear hs2 ht2 hq hq2
        go_wp2_with fail
        go_roundw
        case rel => exact ⟨0 + 1, by omega, by go_num, ⟨_, v2, by rw [HQ.out.2.2]; simpa [joinSp] using HQ.out.1⟩, HQ.out.2.1⟩
        case measure => simp [intOf]; omega
      | succ k =>
        have d2 : decide ((0 : Int) < ((k + 1 : Nat) : Int)) = true := decide_eq_true (by omega)
        have hq : joinSp (ss.take (k + 1 + 1)) = joinSp (ss.take (k + 1)) ++ [32] ++ s := join_next HK.out.2.2 (by omega)
        have hq2 := join_len (ss := ss) (k := k + 1 + 1)
        rw [hq, List.length_append, List.length_append, List.length_singleton] at hq2
        have HQ0 := Lib.hid hq
        clear hq
        go_wp2_with fail
        refine (pWByte wr B b p1 v1 _ 32 HK.out.1 (by rw [List.length_append]; omega) (by omega)).mono ?_
        rintro e w2 ⟨rfl, ⟨v2, hs2⟩, ht2⟩
        have hsz2 := ht2.size
        have HQ := Lib.hid (And.intro hs2 (HK.out.2.1.trans ht2))
        clear hs2 ht2
        go_wp2_with fail
        refine (pWStr w2 B b _ v2 _ s HQ.out.1 (by rw [List.length_append, List.length_append, List.length_singleton]; omega) (by omega)).mono ?_
        rintro e w3 ⟨rfl, ⟨v3, hs3⟩, ht3⟩
        have HQ3 := Lib.hid (And.intro hs3 (HQ.out.2.trans ht3))
        clear hs3 ht3
        go_wp2_with fail
        go_roundw
        case rel => exact ⟨k + 1 + 1, by omega, by go_num, ⟨_, v3, by rw [HQ0.out, ← List.append_assoc, ← List.append_assoc]; exact HQ3.out.1⟩, HQ3.out.2⟩
        case measure => simp [intOf]; omega
    · obtain rfl : k = n := by omega
      have d1 : decide ((k : Int) < (k : Int)) = false := decide_eq_false (by omega)
      have he : joinSp (ss.take k) = joinSp ss := by rw [← hn, List.take_length]
      rw [he] at hsb
      have HK := Lib.hid (And.intro hsb hT)
      clear hsb hT hbw he
      go_wp2_with fail
      refine (pWByte wr B b p1 v1 _ 10 HK.out.1 (by rw [List.length_append]; omega) (by omega)).mono ?_
      rintro e w2 ⟨rfl, ⟨v2, hs2⟩, ht2⟩
      have HQ := Lib.hid (And.intro hs2 (HK.out.2.trans ht2))
      clear hs2 ht2
      go_wp2_with fail
      go_end0
      exact ⟨rfl, ⟨v2, by unfold lineL; rw [← List.append_assoc]; exact HQ.out.1⟩, HQ.out.2⟩
end Go.Proofs.YtkobngipbhjfjaaDoor
