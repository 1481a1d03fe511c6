/-
  Rows of ints in memory.
-/
import Derived.Test.YteppnjgfebcmjaaGreatM0
namespace Go.Proofs.YteppnjgfebcmjaaGreat
open Go.RowKit

theorem int_info : (Tryz.prog.info? 3).map (fun i => (i.zero, i.size, i.bytes)) = some (some (.int .i64 0), 1, 8) := by kernel_rfl
def i64s (l : List Int) : List Value := l.map (Value.int .i64)
theorem i64s_length (l : List Int) : (i64s l).length = l.length := by simp [i64s]
theorem i64s_one (l : List Int) : ∀ u ∈ i64s l, u.oneCell' = true := fun u hu => by
  obtain ⟨b, _, rfl⟩ := List.mem_map.1 hu
  rfl
/-- The slice value v owns a row from B on that reads as the ints l. -/
def IntsOwn (w : World) (B : Nat) (v : Value) (l : List Int) : Prop := w.ownsRow B 3 1 v l.length (i64s l)
/-- A slice '.slice A n c' reads as the ints l. -/
def IntsIn (w : World) (A : Option Addr) (n c : Nat) (l : List Int) : Prop := l.length = n ∧ (A = none → c = 0) ∧ Src w 1 A n (i64s l) ∧ (0 < n → ∀ ad, A = some ad → ad.block < w.heap.size)
theorem IntsIn.mod {w w' : World} {S : Nat → Prop} {A : Option Addr} {n c : Nat} {l : List Int} (h : IntsIn w A n c l) (hm : Mod S w w') (hS : 0 < n → ∀ ad, A = some ad → ¬ S ad.block) : IntsIn w' A n c l := by
  obtain ⟨h1, h2, h3, h4⟩ := h
  refine ⟨h1, h2, h3.keep' fun h0 ad e j => World.cell?_of_block (by rw [addr_block]; exact hm.block _ (h4 h0 ad e) (hS h0 ad e)), fun h0 ad e => Nat.lt_of_lt_of_le (h4 h0 ad e) hm.size⟩
theorem IntsIn.quiet {w w' : World} {A : Option Addr} {n c : Nat} {l : List Int} (h : IntsIn w A n c l) (hm : Mod (fun _ => False) w w') : IntsIn w' A n c l := h.mod hm (fun _ _ _ h => h)
theorem IntsOwn.in_ {w : World} {B : Nat} {A : Option Addr} {m c : Nat} {l : List Int} (h : IntsOwn w B (.slice A m c) l) : IntsIn w A m c l := by
  have hs := Src.of_own h
  obtain ⟨rfl, hs⟩ := hs
  refine ⟨rfl, fun e => ?_, hs, fun _ ad e => ?_⟩
  · rcases h.2 with ⟨hv, _⟩ | ⟨g, cap, cur, hv, _⟩
    · injection hv
    · subst e; injection hv with e1; cases e1
  · rcases h.2 with ⟨hv, _⟩ | ⟨g, cap, cur, hv, hB, hg, _⟩
    · subst e; injection hv with e1; cases e1
    · subst e; injection hv with e1; injection e1 with e1; subst e1
      exact (Array.getElem?_eq_some_iff.1 hg).1
/-- Where the ints lie. -/
theorem IntsIn.place {w : World} {A : Option Addr} {n c : Nat} {l : List Int} (h : IntsIn w A n c l) (h0 : 0 < n) : ∃ b off, A = some ⟨b, off, none⟩ ∧ b < w.heap.size ∧ ∀ i < n, w.cell? ⟨b, off + i, none⟩ = some (.int .i64 (l.getD i 0)) := by
  obtain ⟨h1, h2, h3, h4⟩ := h
  cases A with
  | none => have := h3.2.1 rfl; omega
  | some ad =>
    obtain ⟨b, off, spot⟩ := ad
    have hl : 0 < (i64s l).length := by rw [i64s_length]; omega
    have hc := h3.2.2 _ rfl 0 _ (List.getElem?_eq_getElem hl)
    have hspot : spot = none := by simpa [Addr.add] using World.cell?_spot hc
    subst hspot
    refine ⟨b, off, rfl, h4 h0 _ rfl, fun i hi => ?_⟩
    have h5 := h3.2.2 _ rfl i (.int .i64 (l.getD i 0)) (by simp [i64s, show i < l.length by omega])
    rwa [addr_add'] at h5
end Go.Proofs.YteppnjgfebcmjaaGreat

/-
  quant: side, Step, Value, within, all.
-/
namespace Go.Proofs.YteppnjgfebcmjaaGreat
open Go.RowKit

def sideOf (n : Nat) : Nat := if n = 16 then 4 else if n = 64 then 8 else 0
theorem quantSide (w : World) (n : Nat) (hn : n ≤ 9223372036854775807) : Calls Tryz.prog 126 #[.int .i64 (n : Int)] w fun e w' => e = .returned (.int .i64 ((sideOf n : Nat) : Int)) ∧ w = w' := by
  unfold sideOf
  by_cases h1 : n = 16
  · subst h1
    go_enter Tryz.func126, Tryz.ntmps126
    go_wp2_with fail
    go_ret
    exact ⟨rfl, rfl⟩
  · by_cases h2 : n = 64
    · subst h2
      go_enter Tryz.func126, Tryz.ntmps126
      go_wp2_with fail
      go_ret
      exact ⟨rfl, rfl⟩
    · rw [if_neg h1, if_neg h2]
      have e1 : ((n : Int) == 16) = false := beq_eq_false_iff_ne.2 (by omega)
      have e2 : ((n : Int) == 64) = false := beq_eq_false_iff_ne.2 (by omega)
      go_enter Tryz.func126, Tryz.ntmps126
      go_wp2_with fail
      go_ret
      exact ⟨rfl, rfl⟩

/-- The step of a quantiser at a place. -/
def stepOf (q x y : Int) : Int := (4 + q % 4) * 2 ^ (q / 4).toNat / 4 * (4 + x + y) / 4
def stepOk (q x y : Int) : Bool := decide (0 ≤ q ∧ q ≤ 31 ∧ 0 ≤ x ∧ x ≤ 7 ∧ 0 ≤ y ∧ y ≤ 7)
theorem may_any (w : World) (v m : Int) : Calls Tryz.prog 153 #[.int .i64 v, .int .i64 m] w fun e w' => e = .returned (.bool (decide (0 ≤ v ∧ v ≤ m))) ∧ w = w' := by
  by_cases h : 0 ≤ v
  · have e1 : decide (0 ≤ v) = true := by simpa using h
    rw [show decide (0 ≤ v ∧ v ≤ m) = decide (v ≤ m) by simp [h]]
    go_enter Tryz.func153, Tryz.ntmps153
    go_wp2_with fail
    go_ret
    exact ⟨rfl, rfl⟩
  · have e1 : decide (0 ≤ v) = false := by simpa using h
    rw [show decide (0 ≤ v ∧ v ≤ m) = false by simp [h]]
    go_enter Tryz.func153, Tryz.ntmps153
    go_wp2_with fail
    go_ret
    exact ⟨rfl, rfl⟩
theorem quantValue (w : World) (v s : Int) (hs : 1 ≤ s) (hv : -9223372036854775808 ≤ v * s ∧ v * s ≤ 9223372036854775807) : Calls Tryz.prog 81 #[.int .i64 v, .int .i64 s] w fun e w' => e = .returned (.int .i64 (v * s)) ∧ w = w' := by
  go_enter Tryz.func81, Tryz.ntmps81
  go_wp2_with fail
  go_ret
  exact ⟨rfl, rfl⟩
theorem quantWithin (w : World) (m : Int) : Calls Tryz.prog 124 #[.int .i64 m] w fun e w' => e = .returned (.func (.func 152) #[] #[.pointer (some ⟨w.heap.size, 0, none⟩)]) ∧ Blk w' w.heap.size 3 #[.int .i64 m] ∧ Mod (fun _ => False) w w' := by
  go_enter Tryz.func124, Tryz.ntmps124
  go_wp2_with fail
  go_ret
  exact ⟨rfl, Blk.new _ _ _, (Mod.refl _ _).alloc _⟩
def inB (m v : Int) : Bool := decide (-m ≤ v ∧ v ≤ m)
theorem quantIn (w : World) (b : Nat) (m v : Int) (hm : 0 ≤ m ∧ m ≤ 1099511627776) (hb : Blk w b 3 #[.int .i64 m]) : Calls Tryz.prog 152 #[.int .i64 v, .pointer (some ⟨b, 0, none⟩)] w fun e w' => e = .returned (.bool (inB m v)) ∧ w = w' := by
  obtain ⟨hc, hf⟩ := hb.both
  unfold inB
  clear hb
  by_cases h : -m ≤ v
  · have e1 : decide (-m ≤ v) = true := by simpa using h
    rw [show decide (-m ≤ v ∧ v ≤ m) = decide (v ≤ m) by simp [h]]
    go_enter Tryz.func152, Tryz.ntmps152
    go_wp2_with fail
    go_ret
    exact ⟨rfl, rfl⟩
  · have e1 : decide (-m ≤ v) = false := by simpa using h
    rw [show decide (-m ≤ v ∧ v ≤ m) = false by simp [h]]
    go_enter Tryz.func152, Tryz.ntmps152
    go_wp2_with fail
    go_ret
    exact ⟨rfl, rfl⟩
end Go.Proofs.YteppnjgfebcmjaaGreat

/-
  quant.Step.
-/
namespace Go.Proofs.YteppnjgfebcmjaaGreat
open Go.RowKit

theorem step_bd (q x y : Int) (h : stepOk q x y = true) : (4 ≤ (4 + q % 4) * 2 ^ (q / 4).toNat ∧ (4 + q % 4) * 2 ^ (q / 4).toNat ≤ 896) ∧ 1 ≤ stepOf q x y ∧ stepOf q x y ≤ 1008 ∧ stepOf q x y = wrap64 (wrap64 ((4 + q % 4) * 2 ^ (q / 4).toNat) / 4 * (4 + x + y)) / 4 := by
  unfold stepOk at h
  simp only [decide_eq_true_eq] at h
  obtain ⟨q1, q2, x1, x2, y1, y2⟩ := h
  have hp : 4 ≤ (4 + q % 4) * 2 ^ (q / 4).toNat ∧ (4 + q % 4) * 2 ^ (q / 4).toNat ≤ 896 := by
    have hk : (q / 4).toNat = 0 ∨ (q / 4).toNat = 1 ∨ (q / 4).toNat = 2 ∨ (q / 4).toNat = 3 ∨ (q / 4).toNat = 4 ∨ (q / 4).toNat = 5 ∨ (q / 4).toNat = 6 ∨ (q / 4).toNat = 7 := by omega
    rcases hk with e | e | e | e | e | e | e | e <;> rw [e] <;> simp only [Int.reducePow] <;> omega
  refine ⟨hp, ?_⟩
  unfold stepOf
  generalize (4 + q % 4) * 2 ^ (q / 4).toNat = p at *
  rw [IntWalk.wrap64_in p ⟨by omega, by omega⟩]
  have h1 : 1 ≤ p / 4 ∧ p / 4 ≤ 224 := by omega
  generalize p / 4 = r at *
  have h2 : 4 ≤ r * (4 + x + y) := by
    have := Int.mul_le_mul h1.1 (show 4 ≤ 4 + x + y by omega) (by omega) (by omega)
    omega
  have h3 : r * (4 + x + y) ≤ 224 * 18 := Int.mul_le_mul h1.2 (show 4 + x + y ≤ 18 by omega) (by omega) (by omega)
  generalize r * (4 + x + y) = m at *
  rw [IntWalk.wrap64_in m ⟨by omega, by omega⟩]
  omega

set_option maxRecDepth 100000 in
set_option maxHeartbeats 1000000 in
theorem quantStep_yes (w : World) (q x y : Int) (h : stepOk q x y = true) : Calls Tryz.prog 127 #[.int .i64 q, .int .i64 x, .int .i64 y] w fun e w' => e = .returned (.tuple #[.int .i64 (stepOf q x y), .int .i64 0]) ∧ w = w' := by
  have HS := Lib.hid (step_bd q x y h).2.2.2
  unfold stepOk at h
  simp only [decide_eq_true_eq] at h
  obtain ⟨q1, q2, x1, x2, y1, y2⟩ := h
  have d1 : decide (0 ≤ q ∧ q ≤ 31) = true := by simp; omega
  have d2 : decide (0 ≤ x ∧ x ≤ 7) = true := by simp; omega
  have d3 : decide (0 ≤ y ∧ y ≤ 7) = true := by simp; omega
  go_enter Tryz.func127, Tryz.ntmps127
  go_wp2_with fail
  refine (may_any _ q 31).mono ?_
  rintro e w1 ⟨rfl, rfl⟩
  rw [d1]
  go_wp2_with fail
  refine (may_any _ x 7).mono ?_
  rintro e w1 ⟨rfl, rfl⟩
  rw [d2]
  go_wp2_with fail
  refine (may_any _ y 7).mono ?_
  rintro e w1 ⟨rfl, rfl⟩
  rw [d3]
  clear d1 d2 d3
  go_wp2_with fail
  go_ret2
  exact ⟨by rw [HS.out]; rfl, rfl⟩

set_option maxRecDepth 100000 in
set_option maxHeartbeats 1000000 in
theorem quantStep_no (w : World) (q x y : Int) (h : stepOk q x y = false) : Calls Tryz.prog 127 #[.int .i64 q, .int .i64 x, .int .i64 y] w fun e w' => e = .returned (.tuple #[.int .i64 0, .int .i64 1]) ∧ w = w' := by
  unfold stepOk at h
  simp only [decide_eq_false_iff_not] at h
  go_enter Tryz.func127, Tryz.ntmps127
  go_wp2_with fail
  refine (may_any _ q 31).mono ?_
  rintro e w1 ⟨rfl, rfl⟩
  by_cases d1 : 0 ≤ q ∧ q ≤ 31
  · rw [decide_eq_true d1]
    go_wp2_with fail
    refine (may_any _ x 7).mono ?_
    rintro e w1 ⟨rfl, rfl⟩
    by_cases d2 : 0 ≤ x ∧ x ≤ 7
    · rw [decide_eq_true d2]
      go_wp2_with fail
      refine (may_any _ y 7).mono ?_
      rintro e w1 ⟨rfl, rfl⟩
      rw [decide_eq_false (show ¬ (0 ≤ y ∧ y ≤ 7) by omega)]
      go_wp2_with fail
      go_ret2
      exact ⟨rfl, rfl⟩
    · rw [decide_eq_false d2]
      go_wp2_with fail
      go_ret2
      exact ⟨rfl, rfl⟩
  · rw [decide_eq_false d1]
    go_wp2_with fail
    go_ret2
    exact ⟨rfl, rfl⟩
end Go.Proofs.YteppnjgfebcmjaaGreat

/-
  quant.all.
-/
namespace Go.Proofs.YteppnjgfebcmjaaGreat
open Go.RowKit

def allB (m : Int) (l : List Int) : Bool := decide (sideOf l.length ≠ 0) && l.all (inB m)
theorem allB_yes {m : Int} {l : List Int} (h1 : sideOf l.length ≠ 0) (h2 : ∀ j < l.length, inB m (l.getD j 0) = true) : allB m l = true := by
  unfold allB
  rw [Bool.and_eq_true, decide_eq_true_eq, List.all_eq_true]
  refine ⟨h1, fun x hx => ?_⟩
  obtain ⟨j, hj, rfl⟩ := List.getElem_of_mem hx
  have := h2 j hj
  rwa [List.getD_eq_getElem?_getD, List.getElem?_eq_getElem hj] at this
theorem allB_no {m : Int} {l : List Int} (j : Nat) (hj : j < l.length) (h2 : inB m (l.getD j 0) = false) : allB m l = false := by
  unfold allB
  rw [Bool.and_eq_false_iff]
  right
  rw [List.all_eq_false]
  refine ⟨l[j], List.getElem_mem hj, ?_⟩
  rw [List.getD_eq_getElem?_getD, List.getElem?_eq_getElem hj] at h2
  have h3 : inB m l[j] = false := h2
  rw [h3]
  decide

set_option maxRecDepth 100000 in
set_option maxHeartbeats 1000000 in
theorem quantAll (w : World) (A : Option Addr) (n c bb : Nat) (l : List Int) (m : Int) (hin : IntsIn w A n c l) (hn : n ≤ 1048576) (hm : 0 ≤ m ∧ m ≤ 1099511627776) (hb : Blk w bb 3 #[.int .i64 m]) :
    Calls Tryz.prog 125 #[.slice A n c, .func (.func 152) #[] #[.pointer (some ⟨bb, 0, none⟩)]] w fun e w' => e = .returned (.bool (allB m l)) ∧ w = w' := by
  obtain rfl : l.length = n := hin.1
  by_cases hs : sideOf l.length = 0
  · have HA : Hid (allB m l = false) := by show _ = _; unfold allB; rw [hs]; rfl
    go_enter Tryz.func125, Tryz.ntmps125
    go_wp2_with fail
    refine (quantSide _ l.length (by omega)).mono ?_
    rintro e w1 ⟨rfl, rfl⟩
    rw [hs]
    clear hs
    go_wp2_with fail
    go_ret
    exact ⟨by rw [HA.out]; rfl, rfl⟩
  · have hs1 : (((sideOf l.length : Nat) : Int) == 0) = false := beq_eq_false_iff_ne.2 (by omega)
    have h0 : 0 < l.length := by
      rcases Nat.eq_zero_or_pos l.length with e | e
      · rw [e] at hs; exact absurd rfl hs
      · exact e
    obtain ⟨b, off, rfl, _, hc⟩ := hin.place h0
    have HC := Lib.hid hc
    have HS := Lib.hid hs
    clear hin hc hs
    go_enter Tryz.func125, Tryz.ntmps125
    go_wp2_with fail
    refine (quantSide _ l.length (by omega)).mono ?_
    rintro e w1 ⟨rfl, rfl⟩
    generalize ((sideOf l.length : Nat) : Int) = sd at *
    go_wp2_with fail
    go_loop [13] (fun i => ∃ k : Nat, k ≤ l.length ∧ i = .int .i64 k ∧ ∀ j < k, inB m (l.getD j 0) = true) (fun i => l.length - (intOf i).toNat)
    case atStart => exact ⟨0, by omega, rfl, fun j hj => by omega⟩
    case round =>
      obtain ⟨k, hk, rfl, hall⟩ := hrel
      have HL := Lib.hid hall
      clear hall
      by_cases hlt : k < l.length
      · have hck := HC.out k hlt
        have i1 : (0 : Int) ≤ (k : Int) := by omega
        have i2 : (k : Int) < (l.length : Int) := by omega
        cases hv : inB m (l.getD k 0) with
        | true =>
          generalize hx : l.getD k 0 = x at *
          have HX := Lib.hid (And.intro hx hv)
          clear hx
          go_wp2_with fail
          refine (quantIn _ bb m x hm hb).mono ?_
          rintro e w1 ⟨rfl, rfl⟩
          rw [hv]
          clear hv
          go_wp2_with fail
          go_round
          case rel => exact ⟨k + 1, by omega, by go_num, fun j hj => by
            by_cases e : j = k
            · subst e; rw [HX.out.1]; exact HX.out.2
            · exact HL.out j (by omega)⟩
          case measure => simp [intOf]; omega
        | false =>
          have HA : Hid (allB m l = false) := allB_no k hlt hv
          generalize hx : l.getD k 0 = x at *
          clear hx
          go_wp2_with fail
          refine (quantIn _ bb m x hm hb).mono ?_
          rintro e w1 ⟨rfl, rfl⟩
          rw [hv]
          clear hv
          go_wp2_with fail
          go_ret
          exact ⟨by rw [HA.out]; rfl, rfl⟩
      · have HA : Hid (allB m l = true) := allB_yes HS.out (fun j hj => HL.out j (by omega))
        go_wp2_with fail
        go_ret
        exact ⟨by rw [HA.out]; rfl, rfl⟩
end Go.Proofs.YteppnjgfebcmjaaGreat

/-
  lift: side, within, block.
-/
namespace Go.Proofs.YteppnjgfebcmjaaGreat
open Go.RowKit

theorem liftSide (w : World) (n : Nat) (hn : n ≤ 9223372036854775807) : Calls Tryz.prog 128 #[.int .i64 (n : Int)] w fun e w' => e = .returned (.int .i64 ((sideOf n : Nat) : Int)) ∧ w = w' := by
  unfold sideOf
  by_cases h1 : n = 16
  · subst h1
    go_enter Tryz.func128, Tryz.ntmps128
    go_wp2_with fail
    go_ret
    exact ⟨rfl, rfl⟩
  · by_cases h2 : n = 64
    · subst h2
      go_enter Tryz.func128, Tryz.ntmps128
      go_wp2_with fail
      go_ret
      exact ⟨rfl, rfl⟩
    · rw [if_neg h1, if_neg h2]
      have e1 : ((n : Int) == 16) = false := beq_eq_false_iff_ne.2 (by omega)
      have e2 : ((n : Int) == 64) = false := beq_eq_false_iff_ne.2 (by omega)
      go_enter Tryz.func128, Tryz.ntmps128
      go_wp2_with fail
      go_ret
      exact ⟨rfl, rfl⟩

theorem liftWithin (w : World) (m : Int) : Calls Tryz.prog 83 #[.int .i64 m] w fun e w' => e = .returned (.func (.func 129) #[] #[.pointer (some ⟨w.heap.size, 0, none⟩)]) ∧ Blk w' w.heap.size 3 #[.int .i64 m] ∧ Mod (fun _ => False) w w' := by
  go_enter Tryz.func83, Tryz.ntmps83
  go_wp2_with fail
  go_ret
  exact ⟨rfl, Blk.new _ _ _, (Mod.refl _ _).alloc _⟩
theorem liftIn (w : World) (b : Nat) (m v : Int) (hm : 0 ≤ m ∧ m ≤ 1099511627776) (hb : Blk w b 3 #[.int .i64 m]) : Calls Tryz.prog 129 #[.int .i64 v, .pointer (some ⟨b, 0, none⟩)] w fun e w' => e = .returned (.bool (inB m v)) ∧ w = w' := by
  obtain ⟨hc, hf⟩ := hb.both
  unfold inB
  clear hb
  by_cases h : -m ≤ v
  · have e1 : decide (-m ≤ v) = true := by simpa using h
    rw [show decide (-m ≤ v ∧ v ≤ m) = decide (v ≤ m) by simp [h]]
    go_enter Tryz.func129, Tryz.ntmps129
    go_wp2_with fail
    go_ret
    exact ⟨rfl, rfl⟩
  · have e1 : decide (-m ≤ v) = false := by simpa using h
    rw [show decide (-m ≤ v ∧ v ≤ m) = false by simp [h]]
    go_enter Tryz.func129, Tryz.ntmps129
    go_wp2_with fail
    go_ret
    exact ⟨rfl, rfl⟩

def BlockPost (w : World) (m : Int) (l : List Int) (e : Ending) (w' : World) : Prop :=
  Mod (fun _ => False) w w' ∧ ((allB m l = false ∧ e = .returned (.tuple #[.slice none 0 0, .int .i64 0, .int .i64 1])) ∨ ∃ v, allB m l = true ∧ e = .returned (.tuple #[v, .int .i64 ((sideOf l.length : Nat) : Int), .int .i64 0]) ∧ IntsOwn w' w.heap.size v l)

set_option maxRecDepth 100000 in
set_option maxHeartbeats 2000000 in
theorem liftBlock (w : World) (A : Option Addr) (n c bb : Nat) (l : List Int) (m : Int) (hin : IntsIn w A n c l) (hn : n ≤ 1048576) (hm : 0 ≤ m ∧ m ≤ 1099511627776) (hb : Blk w bb 3 #[.int .i64 m]) :
    Calls Tryz.prog 82 #[.slice A n c, .func (.func 129) #[] #[.pointer (some ⟨bb, 0, none⟩)]] w (BlockPost w m l) := by
  obtain ⟨i0, hi0, hz0, hz1, hz2⟩ := info_parts int_info
  obtain rfl : l.length = n := hin.1
  by_cases hs : sideOf l.length = 0
  · have HA : Hid (allB m l = false) := by show _ = _; unfold allB; rw [hs]; rfl
    go_enter Tryz.func82, Tryz.ntmps82
    go_wp2_with fail
    refine (liftSide _ l.length (by omega)).mono ?_
    rintro e w1 ⟨rfl, rfl⟩
    rw [hs]
    clear hs
    go_wp2_with fail
    go_ret3
    exact ⟨Mod.refl _ _, .inl ⟨HA.out, rfl⟩⟩
  · have hs1 : (((sideOf l.length : Nat) : Int) == 0) = false := beq_eq_false_iff_ne.2 (by omega)
    have h0 : 0 < l.length := by
      rcases Nat.eq_zero_or_pos l.length with e | e
      · rw [e] at hs; exact absurd rfl hs
      · exact e
    have HIN := Lib.hid hin
    obtain ⟨b, off, rfl, _, hc⟩ := hin.place h0
    have HC := Lib.hid hc
    have HS := Lib.hid hs
    clear hin hc hs
    go_enter Tryz.func82, Tryz.ntmps82
    go_wp2_with fail
    refine (liftSide _ l.length (by omega)).mono ?_
    rintro e w1 ⟨rfl, rfl⟩
    obtain ⟨sd, hsd⟩ : ∃ sd, sd = ((sideOf l.length : Nat) : Int) := ⟨_, rfl⟩
    rw [← hsd] at hs1 ⊢
    have HSD := Lib.hid hsd
    clear hsd
    go_wp2_with fail
    go_loop [17] (fun i => ∃ k : Nat, k ≤ l.length ∧ i = .int .i64 k ∧ ∀ j < k, inB m (l.getD j 0) = true) (fun i => l.length - (intOf i).toNat)
    case atStart => exact ⟨0, by omega, rfl, fun j hj => by omega⟩
    case round =>
      obtain ⟨k, hk, rfl, hall⟩ := hrel
      have HL := Lib.hid hall
      clear hall
      by_cases hlt : k < l.length
      · have hck := HC.out k hlt
        have i1 : (0 : Int) ≤ (k : Int) := by omega
        have i2 : (k : Int) < (l.length : Int) := by omega
        cases hv : inB m (l.getD k 0) with
        | true =>
          generalize hx : l.getD k 0 = x at *
          have HX := Lib.hid (And.intro hx hv)
          clear hx
          go_wp2_with fail
          refine (liftIn _ bb m x hm hb).mono ?_
          rintro e w1 ⟨rfl, rfl⟩
          rw [hv]
          clear hv
          go_wp2_with fail
          go_round
          case rel => exact ⟨k + 1, by omega, by go_num, fun j hj => by
            by_cases e : j = k
            · subst e; rw [HX.out.1]; exact HX.out.2
            · exact HL.out j (by omega)⟩
          case measure => simp [intOf]; omega
        | false =>
          have HA : Hid (allB m l = false) := allB_no k hlt hv
          generalize hx : l.getD k 0 = x at *
          clear hx
          go_wp2_with fail
          refine (liftIn _ bb m x hm hb).mono ?_
          rintro e w1 ⟨rfl, rfl⟩
          rw [hv]
          clear hv
          go_wp2_with fail
          go_ret3
          exact ⟨Mod.refl _ _, .inl ⟨HA.out, rfl⟩⟩
      · have HA : Hid (allB m l = true) := allB_yes HS.out (fun j hj => HL.out j (by omega))
        have x1 : 0 + l.length ≤ maxLen := by unfold maxLen; omega
        have x2 : (0 + l.length) * 8 ≤ 140737488355328 := by omega
        have HX := Lib.hid (And.intro x1 x2)
        clear x1 x2
        go_wp2_with (at_builtin; have _t := HX; refine wpList_append_src _ rfl (.const (.slice none 0 0)) (.tmp 26) _ rfl w.heap.size 3 i0 _ 1 8 Tryz.underlying48 hi0 hz0 hz1 hz2 rfl (by omega) (.slice none 0 0) 0 [] rfl (World.ownsRow_nil _ _ _ _) (some ⟨b, off, none⟩) l.length c (i64s l) rfl HIN.out.2.2.1 (fun h => by cases h) (i64s_one l) HX.out.1 HX.out.2 (Nat.le_refl _) ?_; intro v4 w4 hown4 hg4 hat4; have HO := Lib.hid (And.intro hown4 hg4); clear HX _t hown4 hg4 hat4)
        go_ret3
        refine ⟨(Mod.refl _ _).grown HO.out.2 (fun k hk => by simp [Value.ownBlock] at hk), .inr ⟨_, HA.out, by rw [← HSD.out]; rfl, ?_⟩⟩
        have := HO.out.1
        unfold IntsOwn
        simpa using this
end Go.Proofs.YteppnjgfebcmjaaGreat
