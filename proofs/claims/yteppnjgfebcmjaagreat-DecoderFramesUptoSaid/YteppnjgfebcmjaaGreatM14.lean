/-
  Rows of bytes; kinoralaw13's fits and small.
-/
import Derived.Test.YteppnjgfebcmjaaGreatM13
import Derived.Test.YteppnjgfebcmjaaGreatM9
import Derived.Test.YteppnjgfebcmjaaGreatM10
import Derived.Test.YteppnjgfebcmjaaGreatM4
import Derived.Test.YteppnjgfebcmjaaGreatRows
import Derived.Deep.Slices
namespace Go.Proofs.YteppnjgfebcmjaaGreat
open Go.RowKit

/-- A slice of slices that reads as rows of bytes. -/
structure RowsIn (w : World) (A : Option Addr) (n : Nat) (ls : List (List UInt8)) : Prop where
  len : ls.length = n
  at_ : ∀ i, i < n → ∃ b off Ai ni ci, A = some ⟨b, off, none⟩ ∧ b < w.heap.size ∧ w.cell? ⟨b, off + i, none⟩ = some (.slice Ai ni ci) ∧ BytesIn w Ai ni ci (ls.getD i [])
theorem RowsIn.quiet {w w' : World} {A : Option Addr} {n : Nat} {ls : List (List UInt8)} (h : RowsIn w A n ls) (hm : Mod (fun _ => False) w w') : RowsIn w' A n ls := by
  refine ⟨h.len, fun i hi => ?_⟩
  obtain ⟨b, off, Ai, ni, ci, h1, h2, h3, h4⟩ := h.at_ i hi
  exact ⟨b, off, Ai, ni, ci, h1, Nat.lt_of_lt_of_le h2 hm.size, (World.cell?_of_block (hm.block b h2 (fun h => h))).trans h3, h4.quiet hm⟩
def FitsPost (w : World) (n : Nat) (ls : List (List UInt8)) (e : Ending) (w' : World) : Prop :=
  ∃ b, e = .returned (.bool b) ∧ (b = true → n ≤ 8 ∧ ∀ j, j < n → (ls.getD j []).length ≤ 3000) ∧ w = w'
def fitsRel (n : Nat) (ls : List (List UInt8)) (v : Value) : Prop := ∃ k : Nat, k ≤ n ∧ k ≤ 8 ∧ v = .int .i64 (k : Int) ∧ ∀ j, j < k → (ls.getD j []).length ≤ 3000

set_option maxRecDepth 100000 in
set_option maxHeartbeats 2000000 in
theorem lFits (w : World) (A : Option Addr) (n c : Nat) (ls : List (List UInt8)) (h : RowsIn w A n ls) (hn : n ≤ 9223372036854775807) : Calls Tryz.prog 8 #[.slice A n c] w (FitsPost w n ls) := by
  have HH := Lib.hid h
  clear h
  go_enter Tryz.func8, Tryz.ntmps8
  go_wp2_with fail
  go_loop [3] (fitsRel n ls) (fun i => n - (intOf i).toNat)
  case atStart => exact ⟨0, by omega, by omega, rfl, fun j h => absurd h (by omega)⟩
  case round =>
    obtain ⟨k, hk, hk8, rfl, hall⟩ := hrel
    by_cases hlt : k < n
    · obtain ⟨b, off, Ai, ni, ci, hA, hb, hcell, hin⟩ := HH.out.at_ k hlt
      subst hA
      have d1 : decide ((k : Int) < (n : Int)) = true := decide_eq_true (by omega)
      have hl := hin.1
      by_cases h8 : k = 8
      · subst h8
        have d2 : ((8 : Int) == 8) = true := rfl
        clear hin hall
        go_wp2_with fail
        go_ret
        exact ⟨false, rfl, fun h => (by cases h), rfl⟩
      · have d2 : ((k : Int) == 8) = false := by simp; omega
        by_cases hlong : 3000 < ni
        · have d3 : decide (3000 < (ni : Int)) = true := decide_eq_true (by omega)
          clear hin hall
          go_wp2_with fail
          go_ret
          exact ⟨false, rfl, fun h => (by cases h), rfl⟩
        · have d3 : decide (3000 < (ni : Int)) = false := decide_eq_false (by omega)
          have hall' : ∀ j, j < k + 1 → (ls.getD j []).length ≤ 3000 := by
            intro j hj
            by_cases e : j = k
            · subst e; omega
            · exact hall j (by omega)
          have HL := Lib.hid hall'
          clear hin hall hall'
          go_wp2_with fail
          exact ⟨⟨k + 1, by omega, by omega, by go_num, HL.out⟩, by simp [intOf]; omega⟩
    · obtain rfl : k = n := by omega
      have HL := Lib.hid hall
      clear hall
      go_wp2_with fail
      go_ret
      exact ⟨true, rfl, fun _ => ⟨hk8, HL.out⟩, rfl⟩

def SmallPost (w : World) (l : List UInt8) (e : Ending) (w' : World) : Prop :=
  ∃ b, e = .returned (.bool b) ∧ (b = true → l.length ≤ 3000 ∧ ∀ W H G, rseqParse l = some (W, H, G) → W ≤ 32 ∧ H ≤ 32) ∧ Mod (fun _ => False) w w'
set_option maxRecDepth 100000 in
set_option maxHeartbeats 2000000 in
theorem lSmall (w : World) (A : Option Addr) (n c : Nat) (l : List UInt8) (hin : BytesIn w A n c l) (hn : n ≤ 1048576) : Calls Tryz.prog 9 #[.slice A n c] w (SmallPost w l) := by
  have hl := hin.1
  go_enter Tryz.func9, Tryz.ntmps9
  go_wp2_with fail
  refine (refParseSeq _ A n c l hin hn).mono ?_
  rintro e w1 ⟨hm, ⟨hno, rfl⟩ | ⟨W, H, G, hs, rfl⟩⟩
  · by_cases h3 : n ≤ 3000
    · have d1 : decide ((n : Int) ≤ 3000) = true := decide_eq_true (by omega)
      have HM := Lib.hid (And.intro hm hno)
      clear hm hno hin
      go_wp2_with fail
      go_ret
      exact ⟨_, rfl, fun _ => ⟨by omega, fun W H G h => (by rw [HM.out.2] at h; cases h)⟩, HM.out.1.alloc _⟩
    · have d1 : decide ((n : Int) ≤ 3000) = false := decide_eq_false (by omega)
      have HM := Lib.hid (And.intro hm hno)
      clear hm hno hin
      go_wp2_with fail
      go_ret
      exact ⟨_, rfl, fun h => (by cases h), HM.out.1.alloc _⟩
  · by_cases h3 : n ≤ 3000
    · have d1 : decide ((n : Int) ≤ 3000) = true := decide_eq_true (by omega)
      by_cases hW : W ≤ 32
      · have d2 : decide (W ≤ 32) = true := decide_eq_true hW
        by_cases hH : H ≤ 32
        · have d3 : decide (H ≤ 32) = true := decide_eq_true hH
          have HM := Lib.hid (And.intro hm (And.intro hs (And.intro hW hH)))
          clear hm hs hin hW hH
          go_wp2_with fail
          go_ret
          refine ⟨true, rfl, fun _ => ⟨by omega, fun W' H' G' h => ?_⟩, HM.out.1.alloc _⟩
          rw [HM.out.2.1] at h
          injection h with h
          injection h with h1 h2
          injection h2 with h2 h3
          subst h1 h2
          exact HM.out.2.2
        · have d3 : decide (H ≤ 32) = false := decide_eq_false hH
          have HM := Lib.hid hm
          clear hm hs hin hW hH
          go_wp2_with fail
          go_ret
          exact ⟨_, rfl, fun h => (by cases h), HM.out.alloc _⟩
      · have d2 : decide (W ≤ 32) = false := decide_eq_false hW
        have HM := Lib.hid hm
        clear hm hs hin hW
        go_wp2_with fail
        go_ret
        exact ⟨_, rfl, fun h => (by cases h), HM.out.alloc _⟩
    · have d1 : decide ((n : Int) ≤ 3000) = false := decide_eq_false (by omega)
      have HM := Lib.hid hm
      clear hm hs hin
      go_wp2_with fail
      go_ret
      exact ⟨_, rfl, fun h => (by cases h), HM.out.alloc _⟩
end Go.Proofs.YteppnjgfebcmjaaGreat

/-
  Arguments opened: rows of bytes.
-/
namespace Go.Proofs.YteppnjgfebcmjaaGreat
open Go.RowKit Go.ChangeShapes Go.WideShapes Go.ChangeAt Go.Joins Go.Deep

section
variable {H : Type} {enc : TypeId × Value → H} {w : World} {base : Nat} {held : Bool}
theorem cellsBS1 : Tryz.prog.cellsOf 22 = 1 := by kernel_rfl

theorem rows_choose (n : Nat) (P : Nat → List UInt8 → Prop) (h : ∀ i, i < n → ∃ l, P i l) : ∃ ls : List (List UInt8), ls.length = n ∧ ∀ i, i < n → P i (ls.getD i []) := by
  induction n with
  | zero => exact ⟨[], rfl, fun i h => absurd h (by omega)⟩
  | succ n ih =>
    obtain ⟨ls, h1, h2⟩ := ih (fun i hi => h i (by omega))
    obtain ⟨l, hl⟩ := h n (by omega)
    refine ⟨ls ++ [l], by simp [h1], fun i hi => ?_⟩
    rw [List.getD_eq_getElem?_getD]
    by_cases e : i = n
    · subst e
      rw [List.getElem?_append_right (by omega), h1, Nat.sub_self]
      exact hl
    · rw [List.getElem?_append_left (by omega), ← List.getD_eq_getElem?_getD]
      exact h2 i (by omega)
theorem rows_form {fuel : Nat} {a0 : Option Addr} {len0 cap0 : Nat} {x : DataW H × List MemPlace} (h : DataW.trod enc Tryz.prog w base (fun _ => true) held fuel 23 [.slice a0 len0 cap0] = some x) : len0 ≤ maxLen ∧ ∃ ls, RowsIn w a0 len0 ls := by
  rcases open_slice Tryz.underlying23 h with ⟨hcs, _⟩ | ⟨a, len, cap, m, n, D, Pl, hcs, _, hl, hm, hmm, _, hall⟩
  · injection hcs with hcs
    injection hcs with e1 e2 e3
    subst e1 e2
    exact ⟨by decide, [], rfl, fun i h => absurd h (by omega)⟩
  · injection hcs with hcs
    injection hcs with e1 e2 e3
    subst e1 e2 e3
    rw [if_pos rfl] at hmm
    subst hmm
    refine ⟨by omega, ?_⟩
    have each : ∀ i, i < len0 → ∃ (A : Option Addr) (n c : Nat) (l : List UInt8), w.cell? (a.add i) = some (.slice A n c) ∧ BytesIn w A n c l := by
      intro i hi
      obtain ⟨cs', hc, ht⟩ := hall i (by omega)
      rw [cellsBS1, Nat.mul_one] at hc
      obtain ⟨_, hcl, hat⟩ := World.cells?_some hc
      match cs', hcl with
      | [c0], _ =>
        obtain ⟨A, n, c, l, rfl, _, hin⟩ := bytes_form ht
        have k0 := hat 0 (by omega)
        have e0 : (a.add i).add 0 = a.add i := by
          obtain ⟨b, off, spot⟩ := a
          unfold Addr.add
          cases spot <;> simp
        rw [e0] at k0
        exact ⟨A, n, c, l, k0, hin⟩
    have hch := rows_choose len0 (fun i l => ∃ b off Ai ni ci, some a = some ⟨b, off, none⟩ ∧ b < w.heap.size ∧ w.cell? ⟨b, off + i, none⟩ = some (.slice Ai ni ci) ∧ BytesIn w Ai ni ci l) (fun i hi => by
    obtain ⟨_, _, _, _, hz, _⟩ := each 0 (by omega)
    obtain ⟨A, n, c, l, hc, hin⟩ := each i hi
    obtain ⟨b, off, spot⟩ := a
    have hspot : spot = none := by simpa [Addr.add] using World.cell?_spot hz
    subst hspot
    rw [addr_add'] at hc
    exact ⟨l, b, off, A, n, c, rfl, World.block_lt_of_cell? w _ hc, hc, hin⟩)
    obtain ⟨ls, h1, h2⟩ := hch
    exact ⟨ls, ⟨h1, h2⟩⟩
theorem bulk_one {H : Type} (d : DataW H) : 1 ≤ Rows.uptoBulk d := by
  cases d with
  | lit l => cases l <;> simp [Rows.uptoBulk]
  | nil => simp [Rows.uptoBulk]
  | ptr d => simp [Rows.uptoBulk]
  | slice elems spare => simp [Rows.uptoBulk]
  | agg parts => simp [Rows.uptoBulk]
  | iface t d => simp [Rows.uptoBulk]
  | map entries => simp [Rows.uptoBulk]
  | held h => simp [Rows.uptoBulk]
theorem bulk_len {H : Type} (l : List (DataW H)) : l.length ≤ Rows.uptoBulkAll l := by
  induction l with
  | nil => simp [Rows.uptoBulkAll]
  | cons x r ih =>
    have := bulk_one x
    simp only [Rows.uptoBulkAll, List.length_cons]
    omega
/-- A slice is no longer than its bulk. -/
theorem bytes_bulk {fuel : Nat} {a0 : Option Addr} {len0 cap0 : Nat} {d : DataW H} {p : List MemPlace} (h : DataW.trod enc Tryz.prog w base (fun _ => true) held fuel 22 [.slice a0 len0 cap0] = some (d, p)) : len0 ≤ Rows.uptoBulk d := by
  rcases open_slice Tryz.underlying22 h with ⟨hcs, _⟩ | ⟨a, len, cap, m, n, D, Pl, hcs, _, hl, hm, hmm, hx, hall⟩
  · injection hcs with hcs
    injection hcs with e1 e2 e3
    subst e2
    omega
  · injection hcs with hcs
    injection hcs with e1 e2 e3
    subst e1 e2 e3
    injection hx with hx _
    subst hx
    simp only [Rows.uptoBulk]
    have := bulk_len ((List.range len0).map D)
    simp only [List.length_map, List.length_range] at this
    omega
end
end Go.Proofs.YteppnjgfebcmjaaGreat

/-
  Rows of bytes are no longer than their room.
-/
namespace Go.Proofs.YteppnjgfebcmjaaGreat
open Go.RowKit

def RowsCap (w : World) (A : Option Addr) (n : Nat) : Prop := ∀ i, i < n → ∀ b off Ai ni ci, A = some ⟨b, off, none⟩ → w.cell? ⟨b, off + i, none⟩ = some (.slice Ai ni ci) → ni ≤ ci
end Go.Proofs.YteppnjgfebcmjaaGreat

/-
  Arguments opened: rows of bytes are no longer than their room.
-/
namespace Go.Proofs.YteppnjgfebcmjaaGreat
open Go.RowKit Go.ChangeShapes Go.WideShapes Go.ChangeAt Go.Joins Go.Deep

section
variable {H : Type} {enc : TypeId × Value → H} {w : World} {base : Nat} {held : Bool}
theorem bytes_room {fuel : Nat} {A : Option Addr} {n c : Nat} {x : DataW H × List MemPlace} (h : DataW.trod enc Tryz.prog w base (fun _ => true) held fuel 22 [.slice A n c] = some x) : n ≤ c := by
  rcases open_ints Tryz.underlying22 Tryz.underlying5 (by kernel_rfl) h with ⟨hcs, _⟩ | ⟨a, n', c', zs, hcs, _, hl, _⟩
  · injection hcs with hcs
    injection hcs with e1 e2 e3
    omega
  · injection hcs with hcs
    injection hcs with e1 e2 e3
    omega
theorem rows_cap {fuel : Nat} {a0 : Option Addr} {len0 cap0 : Nat} {x : DataW H × List MemPlace} (h : DataW.trod enc Tryz.prog w base (fun _ => true) held fuel 23 [.slice a0 len0 cap0] = some x) : RowsCap w a0 len0 := by
  intro i hi b off Ai ni ci hA hcell
  rcases open_slice Tryz.underlying23 h with ⟨hcs, _⟩ | ⟨a, len, cap, m, n, D, Pl, hcs, _, hl, hm, hmm, _, hall⟩
  · injection hcs with hcs
    injection hcs with e1 e2 e3
    omega
  · injection hcs with hcs
    injection hcs with e1 e2 e3
    subst e1 e2 e3
    rw [if_pos rfl] at hmm
    subst hmm
    obtain ⟨cs', hc, ht⟩ := hall i (by omega)
    rw [cellsBS1, Nat.mul_one] at hc
    obtain ⟨_, hcl, hat⟩ := World.cells?_some hc
    match cs', hcl with
    | [c0], _ =>
      have k0 := hat 0 (by omega)
      injection hA with hA
      subst hA
      have e0 : ((⟨b, off, none⟩ : Addr).add i).add 0 = ⟨b, off + i, none⟩ := by
        simp [Addr.add]
      rw [e0, hcell] at k0
      injection k0 with k0
      subst k0
      exact bytes_room ht
end
end Go.Proofs.YteppnjgfebcmjaaGreat

/-
  coder.Chance, coder.Decoder.
-/
namespace Go.Proofs.YteppnjgfebcmjaaGreat
open Go.RowKit

def chanceOk (c : Nat) : Bool := decide (31 ≤ c ∧ c ≤ 2017)
theorem cRight (w : World) (c : Nat) : Calls Tryz.prog 182 #[.int .u16 (c : Int)] w fun e w' => e = .returned (.bool (chanceOk c)) ∧ w = w' := by
  unfold chanceOk
  by_cases h1 : 31 ≤ c
  · have d1 : decide (31 ≤ (c : Int)) = true := decide_eq_true (by omega)
    by_cases h2 : c ≤ 2017
    · have d2 : decide ((c : Int) ≤ 2017) = true := decide_eq_true (by omega)
      rw [decide_eq_true (And.intro h1 h2)]
      go_enter Tryz.func182, Tryz.ntmps182
      go_wp2_with fail
      go_ret
      exact ⟨rfl, rfl⟩
    · have d2 : decide ((c : Int) ≤ 2017) = false := decide_eq_false (by omega)
      rw [decide_eq_false (fun h => h2 h.2)]
      go_enter Tryz.func182, Tryz.ntmps182
      go_wp2_with fail
      go_ret
      exact ⟨rfl, rfl⟩
  · have d1 : decide (31 ≤ (c : Int)) = false := decide_eq_false (by omega)
    rw [decide_eq_false (fun h => h1 h.1)]
    go_enter Tryz.func182, Tryz.ntmps182
    go_wp2_with fail
    go_ret
    exact ⟨rfl, rfl⟩

/-- The chance behind a bit. -/
def cnext (c bit : Nat) : Nat := if bit = 0 then c + (2048 - c) / 32 else c - c / 32
theorem cnext_ok (c bit : Nat) (h : chanceOk c = true) : chanceOk (cnext c bit) = true := by
  unfold chanceOk cnext at *
  rw [decide_eq_true_eq] at *
  split <;> omega
set_option maxHeartbeats 1000000 in
theorem cNext (w : World) (c bit : Nat) (hb : bit ≤ 1) (h : chanceOk c = true) : Calls Tryz.prog 174 #[.int .u16 (c : Int), .int .i64 (bit : Int)] w fun e w' => e = .returned (.int .u16 ((cnext c bit : Nat) : Int)) ∧ w = w' := by
  unfold chanceOk at h
  rw [decide_eq_true_eq] at h
  obtain ⟨h1, h2⟩ := h
  have m1 : max (c : Int) 31 = (c : Int) := by omega
  have m2 : min (c : Int) 2017 = (c : Int) := by omega
  rcases Nat.eq_zero_or_pos bit with e | e
  · subst e
    have r1 : IntKind.u16.wrap ((c : Int) + IntKind.u16.wrap ((2048 - (c : Int)).tdiv 32)) = ((cnext c 0 : Nat) : Int) := by
      have t : (2048 - (c : Int)).tdiv 32 = (2048 - (c : Int)) / 32 := Int.tdiv_eq_ediv_of_nonneg (by omega)
      rw [t, IntWalk.u16_in ((2048 - (c : Int)) / 32) ⟨by omega, by omega⟩, IntWalk.u16_in _ ⟨by omega, by omega⟩]
      unfold cnext
      rw [if_pos rfl]
      omega
    have R := Lib.hid r1
    clear r1
    go_enter Tryz.func174, Tryz.ntmps174
    go_wp2_with fail
    go_ret
    exact ⟨congrArg (fun z => Ending.returned (.int .u16 z)) R.out, rfl⟩
  · obtain rfl : bit = 1 := by omega
    have r1 : (c : Int) - (c : Int) / 32 = ((cnext c 1 : Nat) : Int) := by
      unfold cnext
      rw [if_neg (by omega)]
      omega
    have R := Lib.hid r1
    clear r1
    go_enter Tryz.func174, Tryz.ntmps174
    go_wp2_with fail
    go_ret
    exact ⟨congrArg (fun z => Ending.returned (.int .u16 z)) R.out, rfl⟩

/-- The bytes behind the first k. -/
theorem BytesIn.from_ {w : World} {b off n c k : Nat} {l : List UInt8} (h : BytesIn w (some ⟨b, off, none⟩) n c l) (hk : k ≤ n) (hc : n ≤ c) : BytesIn w (if c = k then some ⟨b, off, none⟩ else some ⟨b, off + k, none⟩) (n - k) (c - k) (l.drop k) := by
  obtain ⟨h1, h2, h3, h4⟩ := h
  by_cases e : c = k
  · rw [if_pos e]
    have e2 : l.drop k = [] := List.drop_eq_nil_of_le (by omega)
    exact ⟨by simp; omega, (fun h => by cases h), ⟨by rw [u8s_length, List.length_drop]; omega, (fun h => by cases h), fun ad e j u hu => by rw [e2] at hu; simp [u8s] at hu⟩, fun h => by omega⟩
  · rw [if_neg e]
    refine ⟨by simp; omega, (fun h => by cases h), ⟨by rw [u8s_length, List.length_drop]; omega, (fun h => by cases h), fun ad e j u hu => ?_⟩, fun h0 ad e => ?_⟩
    · injection e with e
      subst e
      have e3 : u8s (l.drop k) = (u8s l).drop k := by simp [u8s, List.map_drop]
      rw [e3, List.getElem?_drop] at hu
      have := h3.2.2 _ rfl _ _ hu
      rw [addr_add'] at this ⊢
      rw [← this]
      congr 2
      omega
    · injection e with e
      subst e
      exact h4 (by omega) ⟨b, off, none⟩ rfl

def be (l : List UInt8) : Nat := l.foldl (fun a b => a * 256 + b.toNat) 0
theorem be_snoc (l : List UInt8) (b : UInt8) : be (l ++ [b]) = be l * 256 + b.toNat := by simp [be, List.foldl_append]
theorem be_lt (l : List UInt8) : be l < 256 ^ l.length := by
  have h : ∀ (l : List UInt8) (a : Nat), l.foldl (fun a b => a * 256 + b.toNat) a < (a + 1) * 256 ^ l.length := by
    intro l
    induction l with
    | nil => intro a; simp
    | cons b l ih =>
      intro a
      have h1 := ih (a * 256 + b.toNat)
      have h2 : a * 256 + b.toNat + 1 ≤ (a + 1) * 256 := by have := UInt8.toNat_lt b; omega
      have h3 := Nat.mul_le_mul_right (256 ^ l.length) h2
      simp only [List.foldl_cons, List.length_cons, Nat.pow_succ]
      rw [Nat.mul_comm (256 ^ l.length) 256, ← Nat.mul_assoc]
      omega
  have := h l 0
  simpa [be] using this
theorem or32 (r x : Nat) (hr : r < 16777216) (hx : x < 256) : bits BinOp.or IntKind.u32 ((r : Int) * 256) (x : Int) = ((r * 256 + x : Nat) : Int) := by
  have e1 : (BitVec.ofInt 32 ((r : Int) * 256)).toNat = r * 256 := by rw [BitVec.toNat_ofInt]; omega
  have e2 : (BitVec.ofInt 32 (x : Int)).toNat = x := by rw [BitVec.toNat_ofInt]; omega
  have key : (BitVec.ofInt 32 ((r : Int) * 256) ||| BitVec.ofInt 32 (x : Int)).toNat = r * 256 + x := by
    rw [BitVec.toNat_or, e1, e2]
    have := Nat.shiftLeft_add_eq_or_of_lt (i := 8) (b := x) (by omega) r
    rw [Nat.shiftLeft_eq] at this
    exact this.symm
  show IntKind.u32.wrap ((BitVec.ofInt 32 ((r : Int) * 256) ||| BitVec.ofInt 32 (x : Int)).toNat : Nat) = _
  rw [key]
  exact IntWalk.u32_in _ ⟨by omega, by omega⟩
theorem be_take (l : List UInt8) (k : Nat) (hk : k < l.length) : be (l.take (k + 1)) = be (l.take k) * 256 + (l.getD k 0).toNat := by
  rw [List.take_succ_eq_append_getElem hk, be_snoc, List.getD_eq_getElem?_getD, List.getElem?_eq_getElem hk]
  rfl
/-- A coder.Decoder in memory: what is left of the code, its rest and range. -/
def CodeAt (w : World) (g : Nat) (P : Nat → Prop) (code : List UInt8) (rest wide : Nat) : Prop :=
  ∃ A n c, Blk w g 160 #[.slice A n c, .int .u32 (rest : Int), .int .u32 (wide : Int)] ∧ BytesIn w A n c code ∧ n ≤ c ∧ (0 < n → ∀ ad, A = some ad → P ad.block) ∧ rest < 4294967296 ∧ wide < 4294967296 ∧ n ≤ 1048576
theorem CodeAt.mod {w w' : World} {S P : Nat → Prop} {g : Nat} {code : List UInt8} {rest wide : Nat} (h : CodeAt w g P code rest wide) (hm : Mod S w w') (hg : ¬ S g) (hP : ∀ j, P j → ¬ S j) : CodeAt w' g P code rest wide := by
  obtain ⟨A, n, c, h1, h2, h3, h4, h5⟩ := h
  exact ⟨A, n, c, h1.keep hm hg, h2.mod hm (fun h0 ad e => hP _ (h4 h0 ad e)), h3, h4, h5⟩

def OpenRel (w1 : World) (g : Nat) (A : Value) (l : List UInt8) (i : Value) (wr : World) : Prop :=
  ∃ k : Nat, k ≤ 4 ∧ i = .int .i64 (k : Int) ∧ Blk wr g 160 #[A, .int .u32 ((be (l.take k) : Nat) : Int), .int .u32 4294967295] ∧ Mod (· = g) w1 wr
def OpenPost (w : World) (l : List UInt8) (e : Ending) (w' : World) : Prop :=
  ∃ g, e = .returned (.tuple #[.pointer (some ⟨g, 0, none⟩), .int .i64 0]) ∧ CodeAt w' g (fun j => w.heap.size ≤ j ∧ j < g) (l.drop 4) (be (l.take 4)) 4294967295 ∧ w.heap.size ≤ g ∧ Mod (fun _ => False) w w'

set_option maxRecDepth 100000 in
set_option maxHeartbeats 2000000 in
theorem cOpen (w : World) (A : Option Addr) (n c : Nat) (l : List UInt8) (h4 : 4 ≤ n) (hn : n ≤ 1048576) (hc : n ≤ c) (hin : BytesIn w A n c l) : Calls Tryz.prog 60 #[.slice A n c] w (OpenPost w l) := by
  obtain ⟨b, off, hA, hb, hcell⟩ := hin.place (by omega)
  subst hA
  have hin4 := hin.from_ (k := 4) h4 hc
  have HIN := Lib.hid (And.intro hin4 (And.intro hcell hin.1))
  clear hin hin4 hcell
  go_enter Tryz.func60, Tryz.ntmps60
  go_wp2_with (at_builtin; have _t := HIN; refine wpList_app_u8s _ rfl _ (.tmp 11) rfl w.heap.size (.slice none 0 0) [] _ (n - 4) (c - 4) _ rfl rfl (Bytes.nil _ _) HIN.out.1 (Nat.le_refl _) (by simp; omega) ?_; intro v1 w1 hown1 hMa hMb hF; obtain ⟨A1, c1, hv1⟩ := own_shape hown1; obtain ⟨m1, hm1⟩ : ∃ m1, m1 = ([] ++ l.drop 4).length := ⟨_, rfl⟩; rw [← hm1] at hv1; subst hv1; have HO := Lib.hid (And.intro hown1 (And.intro (hMb w (fun _ => False) (Nat.le_refl _) (Mod.refl _ _)) hm1)); clear hown1 hMa hMb hF hm1)
  all_goals
    have hb1 : Blk (w1.alloc (.cells #[.slice A1 m1 c1, .int .u32 0, .int .u32 4294967295] 160)) w1.heap.size 160 #[.slice A1 m1 c1, .int .u32 0, .int .u32 4294967295] := Blk.new _ _ _
    have hs1 : w.heap.size ≤ w1.heap.size := HO.out.2.1.size
    have M1 : Mod (fun _ => False) w (w1.alloc (.cells #[.slice A1 m1 c1, .int .u32 0, .int .u32 4294967295] 160)) := HO.out.2.1.alloc _
    have HQ := Lib.hid M1
    clear M1
    generalize hw2 : w1.alloc (.cells #[.slice A1 m1 c1, .int .u32 0, .int .u32 4294967295] 160) = w2 at *
    go_loopw [18] (OpenRel w2 w1.heap.size (.slice A1 m1 c1) l) (fun i _ => 4 - (intOf i).toNat)
    case atStart => exact ⟨0, by omega, rfl, hb1, Mod.refl _ _⟩
    case round =>
      clear hb1
      obtain ⟨k, hk, rfl, hb1, hM⟩ := hrel
      by_cases hlt : k < 4
      · have hck : wr.cell? ⟨b, off + k, none⟩ = some (.int .u8 ((l.getD k 0).toNat : Int)) := (World.cell?_of_block ((HQ.out.into hM (fun i e => .inr (by omega))).block b hb (fun h => h))).trans (HIN.out.2.1 k (by omega))
        obtain ⟨hc, hf⟩ := hb1.both
        have hl1 := hb1.lt
        have hx : (l.getD k 0).toNat < 256 := UInt8.toNat_lt _
        have HBE := Lib.hid (be_take l k (by have := HIN.out.2.2; omega))
        generalize (l.getD k 0).toNat = x at *
        have hbe : be (l.take k) < 16777216 := by
          have h1 := be_lt (l.take k)
          have h2 : 256 ^ (l.take k).length ≤ 256 ^ 3 := Nat.pow_le_pow_right (by omega) (by simp; omega)
          omega
        generalize be (l.take k) = r at *
        have d1 : decide ((k : Int) < 4) = true := decide_eq_true (by omega)
        go_wp2_with fail
        go_roundw
        case rel => refine ⟨k + 1, by omega, by go_num, hb1.put (i := 1) (by rw [or32 r x hbe hx, HBE.out]; rfl), hM.setCell (.inl rfl) _⟩
        case measure => simp [intOf]; omega
      · obtain rfl : k = 4 := by omega
        have HB := Lib.hid (And.intro hb1 hM)
        clear hb1 hM
        go_wp2_with fail
        go_ret2
        obtain ⟨h1, h2⟩ := HB.out
        have h3 := HQ.out.into h2 (fun i e => .inr (by omega))
        have h5 := be_lt (l.take 4)
        have h6 : 256 ^ (l.take 4).length ≤ 256 ^ 4 := Nat.pow_le_pow_right (by omega) (by simp; omega)
        have h7 : m1 = n - 4 := by rw [HO.out.2.2]; have := HIN.out.2.2; simp; omega
        have h8 : Mod (fun _ => False) w1 w2 := by rw [← hw2]; exact (Mod.refl _ _).alloc _
        have h9 : Bytes wr w.heap.size (.slice A1 m1 c1) (l.drop 4) := (HO.out.1.quiet h8).mod h2 (fun j hj e => by have := (HO.out.1.lt j hj).2; omega)
        refine ⟨w1.heap.size, rfl, ⟨A1, m1, c1, h1, h9.in_, h9.cap, fun h0 ad e => ?_, by omega, by omega, by omega⟩, hs1, h3⟩
        obtain ⟨r, hr, _⟩ := h9.some_ (by rw [h9.in_.1]; exact h0)
        rw [hr] at e
        injection e with e
        subst e
        have h10 := HO.out.1.lt r (by rw [hr]; rfl)
        exact h10
end Go.Proofs.YteppnjgfebcmjaaGreat
