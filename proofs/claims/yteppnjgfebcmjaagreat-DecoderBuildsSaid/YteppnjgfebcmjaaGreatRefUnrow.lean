/-
  The reference's Unrow.
-/
import Derived.Test.YteppnjgfebcmjaaGreatRefRow
namespace Go.Proofs.YteppnjgfebcmjaaGreat
open Go.RowKit

def unA (m : Nat) (low l : List Int) (i : Nat) : Int := low.getD i 0 - l.getD (m + i) 0 / 2
def unTo (m : Nat) (low l : List Int) (k : Nat) : List Int := (List.range k).flatMap fun i => [unA m low l i + l.getD (m + i) 0, unA m low l i]
theorem unTo_succ (m : Nat) (low l : List Int) (k : Nat) : unTo m low l (k + 1) = unTo m low l k ++ [unA m low l k + l.getD (m + k) 0, unA m low l k] := by simp [unTo, List.range_succ]
theorem unTo_length (m : Nat) (low l : List Int) (k : Nat) : (unTo m low l k).length = 2 * k := by
  induction k with
  | zero => rfl
  | succ k ih => rw [unTo_succ, List.length_append, ih]; simp; omega
def unK : Nat → List Int → List Int
  | 0, l => l
  | j + 1, l => unTo (2 ^ j) (unK j (l.take (2 ^ j))) l (2 ^ j)
theorem unK_length (j : Nat) : ∀ l : List Int, l.length = 2 ^ j → (unK j l).length = 2 ^ j := by
  cases j with
  | zero => intro l h; exact h
  | succ j => intro l _; simp only [unK, unTo_length, Nat.pow_succ]; omega
theorem within_snoc {M : Int} {l r : List Int} (h0 : 0 ≤ M) (h : Within M l) (hr : ∀ x ∈ r, -M ≤ x ∧ x ≤ M) : Within M (l ++ r) := by
  intro i
  rw [List.getD_eq_getElem?_getD]
  by_cases h1 : i < l.length
  · rw [List.getElem?_append_left h1, ← List.getD_eq_getElem?_getD]; exact h i
  · by_cases h2 : i < (l ++ r).length
    · rw [List.getElem?_append_right (by omega)]
      have h3 : i - l.length < r.length := by simp at h2; omega
      rw [List.getElem?_eq_getElem h3]
      exact hr _ (List.getElem_mem h3)
    · rw [List.getElem?_eq_none (by omega)]; exact ⟨by simp; omega, by simpa using h0⟩
theorem within_take {M : Int} {l : List Int} (h0 : 0 ≤ M) (h : Within M l) (m : Nat) : Within M (l.take m) := by
  intro i
  rw [List.getD_eq_getElem?_getD, List.getElem?_take]
  split
  · rw [← List.getD_eq_getElem?_getD]; exact h i
  · exact ⟨by simp; omega, by simpa using h0⟩
theorem unTo_within {M B : Int} {low l : List Int} (h0 : 0 ≤ M) (hB : 0 ≤ B) (h : Within M l) (hl : Within B low) (m k : Nat) : Within (B + M + 1) (unTo m low l k) := by
  induction k with
  | zero => intro i; simp [unTo]; omega
  | succ k ih =>
    rw [unTo_succ]
    refine within_snoc (by omega) ih ?_
    have a := h (m + k)
    have b := hl k
    intro x hx
    unfold unA at hx
    simp only [List.mem_cons, List.not_mem_nil, or_false] at hx
    rcases hx with hx | hx <;> omega
theorem unK_within {M : Int} (h0 : 0 ≤ M) (j : Nat) : ∀ l, Within M l → Within (M + (j : Int) * (M + 1)) (unK j l) := by
  induction j with
  | zero => intro l h; simpa [unK] using h
  | succ j ih =>
    intro l h
    have a := ih (l.take (2 ^ j)) (within_take h0 h _)
    have hj : 0 ≤ (j : Int) * (M + 1) := Int.mul_nonneg (by omega) (by omega)
    have b := unTo_within h0 (by omega) h a (2 ^ j) (2 ^ j)
    have e : M + (((j + 1 : Nat)) : Int) * (M + 1) = M + (j : Int) * (M + 1) + M + 1 := by
      rw [show (((j + 1 : Nat)) : Int) = (j : Int) + 1 by omega, Int.add_mul]; omega
    rw [e]
    exact b

/-- A part of ints that lie in memory. -/
theorem IntsIn.part {w : World} {b off n c : Nat} {l : List Int} (h : IntsIn w (some ⟨b, off, none⟩) n c l) (k m c' : Nat) (hk : k + m ≤ n) : IntsIn w (some ⟨b, off + k, none⟩) m c' ((l.drop k).take m) := by
  obtain ⟨h1, h2, h3, h4⟩ := h
  refine ⟨by simp; omega, (fun h => by cases h), ⟨by simp [i64s]; omega, (fun h => by cases h), fun ad e i u hu => ?_⟩, fun h0 ad e => ?_⟩
  · injection e with e
    subst e
    rw [addr_add']
    have hi : i < m := by
      have := (List.getElem?_eq_some_iff.1 hu).1
      simp [i64s] at this
      omega
    have h5 := h3.2.2 _ rfl (k + i) u (by
      rw [← hu]
      simp [i64s, hi])
    rw [addr_add'] at h5
    rw [← h5]
    congr 2
    omega
  · injection e with e
    subst e
    exact h4 (by omega) ⟨b, off, none⟩ rfl
def UnRel (w : World) (m : Nat) (low l : List Int) (v5 i : Value) (wr : World) : Prop :=
  ∃ k : Nat, k ≤ m ∧ i = .int .i64 (k : Int) ∧ IntsOwn wr w.heap.size v5 (unTo m low l k) ∧ Mod (fun _ => False) w wr
theorem quiet_floor (w : World) (v : Int) (h : -4611686018427387904 ≤ v ∧ v ≤ 4611686018427387904) (n : Nat) : Calls Tryz.prog 154 #[.int .i64 v] (w.drewN n) fun e w' => e = .returned (.int .i64 (v / 2)) ∧ w' = w.drewN n := (rfloor _ v h).mono fun _ _ ⟨a, b⟩ => ⟨a, b.symm⟩

set_option maxRecDepth 100000 in
set_option maxHeartbeats 2000000 in
theorem runrow (j : Nat) : j ≤ 3 → ∀ (w : World) (A : Option Addr) (n c : Nat) (l : List Int), n = 2 ^ j → n ≤ c → IntsIn w A n c l → Within 1099511627776 l → Calls Tryz.prog 131 #[.slice A n c] w (IntsRet w (unK j l)) := by
  induction j with
  | zero =>
    intro _ w A n c l hn hc hin hw
    subst hn
    have HIN := Lib.hid hin
    clear hin
    go_enter Tryz.func131, Tryz.ntmps131
    go_wp2_with fail
    go_ret
    have h1 : l.length = 1 := HIN.out.1
    refine ⟨A, c, ?_, ?_, ?_, Mod.refl _ _⟩
    · simp [unK, h1]
    · simp [unK, h1]; omega
    · simp only [unK, h1]; exact HIN.out
  | succ j ih =>
    intro hj w A n c l hn hc hin hw
    have ih' := ih (by omega)
    have HIH := Lib.hid ih'
    clear ih ih'
    have hm : n = 2 * 2 ^ j := by rw [hn, Nat.pow_succ]; omega
    have hp : 1 ≤ 2 ^ j ∧ 2 ^ j ≤ 8 := ⟨Nat.one_le_two_pow, Nat.pow_le_pow_right (by omega) (show j ≤ 3 by omega)⟩
    clear hn
    obtain ⟨m, hm2⟩ : ∃ m, m = 2 ^ j := ⟨_, rfl⟩
    rw [← hm2] at hm hp
    have HM := Lib.hid hm2
    clear hm2
    have HN := Lib.hid hm
    have hn1 : 2 ≤ n := by omega
    have hn2 : n ≤ 16 := by omega
    have hnd : (n : Int) / 2 = (m : Int) := by omega
    have hmn : m ≤ n := by omega
    clear hm
    obtain ⟨hp1, hp2⟩ := hp
    obtain ⟨b, off, hA, hb, hcell⟩ := hin.place (by omega)
    subst hA
    have HC := Lib.hid (And.intro hcell hw)
    have hl := hin.1
    have HL := Lib.hid hl
    have hpart := hin.part 0 m c (by omega)
    rw [List.drop_zero, Nat.add_zero] at hpart
    have R4 := HIH.out w _ m c _ HM.out (by omega) hpart (within_take (by omega) hw m)
    clear hcell hin hw hl hpart
    have HW : Hid (Within 4398046511108 (unK j (l.take m))) := by
      have a := unK_within (by omega) j (l.take m) (within_take (by omega) HC.out.2 m)
      intro i
      have := a i
      have hj3 : (j : Int) ≤ 3 := by omega
      have hj4 : (j : Int) * (1099511627776 + 1) ≤ 3 * (1099511627776 + 1) := Int.mul_le_mul_of_nonneg_right hj3 (by omega)
      omega
    go_enter Tryz.func131, Tryz.ntmps131
    go_wp2_with fail
    refine R4.mono ?_
    clear R4
    rintro e w4 ⟨A4, c4, rfl, hc4, hin4, hm4⟩
    have hul : (unK j (l.take m)).length = m := by rw [unK_length j _ (by simp [HL.out, ← HM.out]; omega), ← HM.out]
    rw [hul] at hin4 hc4 ⊢
    obtain ⟨b4, off4, hA4, hb4, hcell4⟩ := hin4.place (by omega)
    subst hA4
    have HC4 := Lib.hid (And.intro hcell4 hm4)
    clear hcell4 hm4 hin4 hul hnd
    obtain ⟨low, hlow⟩ : ∃ low, low = unK j (l.take m) := ⟨_, rfl⟩
    rw [← hlow] at HC4 HW
    have HLW := Lib.hid hlow
    clear hlow
    go_wp2_with fail
    go_loopw [5, 6] (UnRel w4 m low l) (fun _ i _ => m - (intOf i).toNat)
    case atStart => exact ⟨0, by omega, rfl, IntsOwn.nil _ _, Mod.refl _ _⟩
    case round =>
      obtain ⟨k, hk, rfl, hown, hM⟩ := hrel
      by_cases hlt : k < m
      · have hk0 : wr.cell? ⟨b, off + (m + k), none⟩ = some (.int .i64 (l.getD (m + k) 0)) := (World.cell?_of_block ((HC4.out.2.trans hM).block b hb (fun h => h))).trans (HC.out.1 (m + k) (by have := HN.out; omega))
        have hk1 : wr.cell? ⟨b4, off4 + k, none⟩ = some (.int .i64 (low.getD k 0)) := (World.cell?_of_block (hM.block b4 hb4 (fun h => h))).trans (HC4.out.1 k hlt)
        have hx := HC.out.2 (m + k)
        have hy := HW.out k
        have HS := Lib.hid (unTo_succ m low l k)
        unfold unA at HS
        generalize l.getD (m + k) 0 = x at *
        generalize low.getD k 0 = y at *
        obtain ⟨x1, x2⟩ := hx
        obtain ⟨y1, y2⟩ := hy
        obtain ⟨A3, c3, hv3⟩ := own_shape hown
        subst hv3
        rw [unTo_length]
        rw [unTo_length] at hown
        have hwl := World.block_lt_of_cell? _ _ hk0
        have HB := Lib.hid (And.intro hown hM)
        have hmk : m + k < n := by have := HN.out; omega
        have p1 : (m : Int) + (k : Int) < (n : Int) := by omega
        have p3 : (0 : Int) ≤ (m : Int) + (k : Int) := by omega
        have p4 : ((m : Int) + (k : Int)).toNat = m + k := by omega
        clear hown hM
        go_upto_region 10 with (fail)
        have p5 : (k : Int) < (m : Int) := by omega
        have p6 : (0 : Int) ≤ (k : Int) := by omega
        have s1 : IntKind.i64.wrap (y - x / 2) = y - x / 2 := IntWalk.i64_in _ ⟨by omega, by omega⟩
        go_quiet ((go_at_call 154; exact Calls.quiet_of_same (quiet_floor _ x ⟨by omega, by omega⟩ _)))
        clear s1
        have hr5 := HB.out.1.drewN nq
        have hM5 := HB.out.2.drewN nq
        generalize wr.drewN nq = w5 at *
        clear hk0 hk1 hwl
        have hin6 : IntsIn (w5.alloc (.cells #[.int .i64 (y - x / 2 + x), .int .i64 (y - x / 2)] 3)) (some ⟨w5.heap.size, 0, none⟩) 2 2 [y - x / 2 + x, y - x / 2] := (IntsOwn.whole (l := [y - x / 2 + x, y - x / 2]) (Nat.zero_le _) (Blk.new w5 3 _) (by unfold maxLen; simp)).in_
        have hr6 := hr5.quiet ((Mod.refl _ _).alloc (.cells #[.int .i64 (y - x / 2 + x), .int .i64 (y - x / 2)] 3))
        have hM6 := hM5.alloc (.cells #[.int .i64 (y - x / 2 + x), .int .i64 (y - x / 2)] 3)
        have HZ := Lib.hid (And.intro hin6 (And.intro hr6 hM6))
        clear hin6 hr6 hM6 hr5 hM5
        go_wp2_with (at_builtin; have _t := HZ; refine wpList_app_ints _ rfl (.tmp 38) (.tmp 43) rfl w4.heap.size _ _ _ 2 2 _ rfl rfl HZ.out.2.1 HZ.out.1 HZ.out.2.2.size (by rw [unTo_length]; omega) ?_; intro v8 w8 hown8 hMa hMb hF; have HO := Lib.hid (And.intro hown8 (hMb w4 (fun _ => False) (Nat.le_refl _) HZ.out.2.2)); clear hown8 hMa hMb hF)
        go_roundw
        case rel =>
          refine ⟨k + 1, by omega, by go_num, ?_, HO.out.2⟩
          rw [HS.out]
          exact HO.out.1
        case measure => simp [intOf]; omega
      · obtain rfl : k = m := by omega
        have HB := Lib.hid (And.intro hown hM)
        clear hown hM
        go_wp2_with fail
        go_ret
        obtain ⟨h9, hM9⟩ := HB.out
        have e9 : unK (j + 1) l = unTo k low l k := by rw [HLW.out, HM.out]; rfl
        rw [← e9] at h9
        obtain ⟨A9, c9, hv9⟩ := own_shape h9
        subst hv9
        exact ⟨A9, c9, rfl, h9.cap, h9.in_, HC4.out.2.trans hM9⟩
end Go.Proofs.YteppnjgfebcmjaaGreat
