/-
  The reference's way back is the program's.
-/
import Derived.Test.YteppnjgfebcmjaaGreatM39
import Derived.Test.YteppnjgfebcmjaaGreatM4
import Derived.Test.YteppnjgfebcmjaaGreatM1
import Derived.Test.YteppnjgfebcmjaaGreatM10
namespace Go.Proofs.YteppnjgfebcmjaaGreat
open Go.RowKit

theorem list8 {α : Type} {l : List α} (h : l.length = 8) : ∃ a b c d e f g i, l = [a, b, c, d, e, f, g, i] := by
  match l, h with
  | [a, b, c, d, e, f, g, i], _ => exact ⟨a, b, c, d, e, f, g, i, rfl⟩
theorem back8_unK (l : List Int) (h : l.length = 8) : back8 l = unK 3 l := by
  obtain ⟨a, b, c, d, e, f, g, i, rfl⟩ := list8 h
  simp only [back8, upL, upK, upA, upB, unK, unTo, unA, List.range_succ, List.range_zero, List.flatMap_cons, List.flatMap_nil, List.nil_append, List.append_nil, List.cons_append, Nat.reducePow, Nat.reduceMul, Nat.reduceAdd, List.take_succ_cons, List.take_zero, List.set_cons_zero, List.set_cons_succ, List.getD_cons_zero, List.getD_cons_succ, Nat.mul_zero, Nat.add_zero, Nat.zero_add, Nat.mul_one]
  simp only [List.cons.injEq, and_true]
  refine ⟨?_, ?_, ?_, ?_, ?_, ?_, ?_, ?_⟩ <;> omega
theorem ext64 {a b : List Int} (ha : a.length = 64) (hb : b.length = 64) (h : ∀ y < 8, ∀ x < 8, a.getD (y * 8 + x) 0 = b.getD (y * 8 + x) 0) : a = b := by
  apply List.ext_getElem (by omega)
  intro i h1 h2
  have := h (i / 8) (by omega) (i % 8) (by omega)
  rw [show i / 8 * 8 + i % 8 = i by omega] at this
  rw [List.getD_eq_getElem?_getD, List.getD_eq_getElem?_getD, List.getElem?_eq_getElem h1, List.getElem?_eq_getElem h2] at this
  exact this
theorem rowsTo_getD (f : List Int → List Int) (l : List Int) (hl : l.length = 64) (hf : ∀ x : List Int, x.length = 8 → (f x).length = 8) (k : Nat) (hk : k ≤ 8) (y x : Nat) (hy : y < k) (hx : x < 8) : (rowsTo f l k).getD (y * 8 + x) 0 = (f ((l.drop (y * 8)).take 8)).getD x 0 := by
  induction k with
  | zero => omega
  | succ k ih =>
    rw [rowsTo_succ, List.getD_eq_getElem?_getD]
    have h1 := rowsTo_length f l hl hf k (by omega)
    by_cases e : y = k
    · subst e
      rw [List.getElem?_append_right (by omega), h1, show y * 8 + x - y * 8 = x by omega, ← List.getD_eq_getElem?_getD]
    · rw [List.getElem?_append_left (by omega), ← List.getD_eq_getElem?_getD]
      exact ih (by omega) (by omega)
theorem turnL_getD (l : List Int) (y x : Nat) (hy : y < 8) (hx : x < 8) : (turnL l).getD (y * 8 + x) 0 = l.getD (x * 8 + y) 0 := by
  have hi : y * 8 + x < 64 := by omega
  have e : (turnL l).getD (y * 8 + x) 0 = l.getD ((y * 8 + x) % 8 * 8 + (y * 8 + x) / 8) 0 := by simp [turnL, turnTo, List.getD_eq_getElem?_getD, hi]
  rw [e]
  congr 1
  omega
theorem row_of_turn (l : List Int) (x : Nat) (hx : x < 8) : ((turnL l).drop (x * 8)).take 8 = colOf x l := by
  apply List.ext_getElem
  · simp [turnL_length, colOf]; omega
  · intro i h1 h2
    have hi : i < 8 := by simp [colOf] at h2; exact h2
    have a := getD_part (turnL l) (x * 8) 8 i hi
    rw [turnL_getD l x i hx hi] at a
    have b := colOf_getD x l i hi
    rw [← a] at b
    rw [List.getD_eq_getElem?_getD, List.getD_eq_getElem?_getD, List.getElem?_eq_getElem h1, List.getElem?_eq_getElem h2] at b
    exact b.symm
theorem rback_eq (l : List Int) (hl : l.length = 64) : rbackL l = backL l := by
  have hu : ∀ x : List Int, x.length = 8 → (unK 3 x).length = 8 := fun x hx => unK_length 3 x hx
  have l1 : (rowsTo (unK 3) (turnL l) 8).length = 64 := rowsTo_length _ _ (turnL_length l) hu 8 (by omega)
  have l2 : (colsK l 8).length = 64 := by rw [colsK_length]; exact hl
  have e1 : turnL (rowsTo (unK 3) (turnL l) 8) = colsK l 8 := by
    apply ext64 (turnL_length _) l2
    intro y hy x hx
    rw [turnL_getD _ y x hy hx, rowsTo_getD _ _ (turnL_length l) hu 8 (by omega) x y hx hy, row_of_turn l x hx, colsK_getD l hl 8 y x (by omega) hx hy]
    rw [if_pos hx, back8_unK _ (colOf_length _ _)]
  unfold rbackL backL
  rw [e1]
  apply ext64 (rowsTo_length _ _ l2 hu 8 (by omega)) (rowsK_length _ l2 8 (by omega))
  intro y hy x hx
  rw [rowsTo_getD _ _ l2 hu 8 (by omega) y x hy hx, rowsK_getD _ l2 8 y x (by omega) hx hy, if_pos hy]
  rw [back8_unK _ (rowOf_length _ _ l2 hy)]
  rfl
end Go.Proofs.YteppnjgfebcmjaaGreat

/-
  The reference's right (of levels).
-/
namespace Go.Proofs.YteppnjgfebcmjaaGreat
open Go.RowKit

def rightB (l : List Int) (q m : Int) : Bool := allB m l && decide (0 ≤ q ∧ q ≤ 31)
set_option maxRecDepth 100000 in
set_option maxHeartbeats 2000000 in
theorem rright (w : World) (A : Option Addr) (n c : Nat) (l : List Int) (q m : Int) (hin : IntsIn w A n c l) (hn : n ≤ 1048576) (hm : 0 ≤ m ∧ m ≤ 1099511627776) :
    Calls Tryz.prog 89 #[.slice A n c, .int .i64 q, .int .i64 m] w fun e w' => e = .returned (.bool (rightB l q m)) ∧ w = w' := by
  obtain rfl : l.length = n := hin.1
  by_cases hs : sideOf l.length = 0
  · have HA : Hid (rightB l q m = false) := by show _ = _; unfold rightB allB; rw [hs]; rfl
    have h1 : ((l.length : Int) != 16) = true := by
      have : l.length ≠ 16 := fun e => by rw [e] at hs; cases hs
      simp; omega
    have h2 : ((l.length : Int) != 64) = true := by
      have : l.length ≠ 64 := fun e => by rw [e] at hs; cases hs
      simp; omega
    clear hs
    go_enter Tryz.func89, Tryz.ntmps89
    go_wp2_with fail
    go_ret
    exact ⟨by rw [HA.out]; rfl, rfl⟩
  · have hsc := side_cases hs
    have h0 : 0 < l.length := by omega
    obtain ⟨b, off, rfl, _, hc⟩ := hin.place h0
    have HC := Lib.hid hc
    have HS := Lib.hid hs
    have hl : l.length = 16 ∨ l.length = 64 := by omega
    have g1 : ((l.length : Int) != 16) = true ∧ ((l.length : Int) != 64) = false ∨ ((l.length : Int) != 16) = false := by
      rcases hl with e | e
      · right; rw [e]; rfl
      · left; rw [e]; exact ⟨rfl, rfl⟩
    have hlb : l.length ≤ 64 := by omega
    clear hin hc hs hsc hl
    by_cases hq : 0 ≤ q ∧ q ≤ 31
    · obtain ⟨q1, q2⟩ := hq
      rcases g1 with ⟨g1, g2⟩ | g1
      all_goals
        go_enter Tryz.func89, Tryz.ntmps89
        go_wp2_with fail
        go_loop [7] (fun i => ∃ k : Nat, k ≤ l.length ∧ i = .int .i64 k ∧ ∀ j < k, inB m (l.getD j 0) = true) (fun i => l.length - (intOf i).toNat)
        case atStart => exact ⟨0, by omega, rfl, fun j hj => by omega⟩
        case round =>
          obtain ⟨k, hk, rfl, hall⟩ := hrel
          have HL := Lib.hid hall
          clear hall
          by_cases hlt : k < l.length
          · have hck := HC.out k hlt
            have i1 : (0 : Int) ≤ (k : Int) := by omega
            have i2 : (k : Int) < (l.length : Int) := by omega
            by_cases hv : -m ≤ l.getD k 0 ∧ l.getD k 0 ≤ m
            · have HV : Hid (inB m (l.getD k 0) = true) := decide_eq_true hv
              obtain ⟨x, hx⟩ : ∃ x, x = l.getD k 0 := ⟨_, rfl⟩
              rw [← hx] at hck hv
              clear hx
              obtain ⟨v1, v2⟩ := hv
              go_wp2_with fail
              go_round
              case rel => exact ⟨k + 1, by omega, by go_num, fun j hj => by
                by_cases e : j = k
                · subst e; exact HV.out
                · exact HL.out j (by omega)⟩
              case measure => simp [intOf]; omega
            · have HA : Hid (rightB l q m = false) := by show _ = _; unfold rightB; rw [allB_no k hlt (decide_eq_false hv)]; rfl
              generalize l.getD k 0 = x at *
              have hv' : x < -m ∨ m < x := by omega
              clear hv
              rcases hv' with hv | hv
              all_goals
                go_wp2_with fail
                go_ret
                exact ⟨by rw [HA.out]; rfl, rfl⟩
          · have HA : Hid (rightB l q m = true) := by show _ = _; unfold rightB; rw [allB_yes HS.out (fun j hj => HL.out j (by omega)), decide_eq_true (show 0 ≤ q ∧ q ≤ 31 from ⟨q1, q2⟩)]; rfl
            go_wp2_with fail
            go_ret
            exact ⟨by rw [HA.out]; rfl, rfl⟩
    · have HA : Hid (rightB l q m = false) := by show _ = _; unfold rightB; rw [decide_eq_false hq, Bool.and_false]
      have hq' : q < 0 ∨ 31 < q := by omega
      clear hq
      rcases g1 with ⟨g1, g2⟩ | g1 <;> rcases hq' with hq | hq
      all_goals
        go_enter Tryz.func89, Tryz.ntmps89
        go_wp2_with fail
        go_ret
        exact ⟨by rw [HA.out]; rfl, rfl⟩
end Go.Proofs.YteppnjgfebcmjaaGreat

/-
  The reference's Step.
-/
namespace Go.Proofs.YteppnjgfebcmjaaGreat
open Go.RowKit

theorem pow_bd (p : Int) (k : Nat) (hk : k ≤ 7) (h1 : 4 ≤ p) (h2 : p ≤ 7) : 4 ≤ p * 2 ^ k ∧ p * 2 ^ k ≤ 896 := by
  have hk : k = 0 ∨ k = 1 ∨ k = 2 ∨ k = 3 ∨ k = 4 ∨ k = 5 ∨ k = 6 ∨ k = 7 := by omega
  rcases hk with e | e | e | e | e | e | e | e <;> rw [e] <;> simp only [Int.reducePow] <;> omega

set_option maxRecDepth 100000 in
set_option maxHeartbeats 1000000 in
theorem rstep_yes (w : World) (q x y : Int) (h : stepOk q x y = true) : Calls Tryz.prog 91 #[.int .i64 q, .int .i64 x, .int .i64 y] w fun e w' => e = .returned (.tuple #[.int .i64 (stepOf q x y), .int .i64 0]) ∧ w = w' := by
  unfold stepOk at h
  simp only [decide_eq_true_eq] at h
  obtain ⟨q1, q2, x1, x2, y1, y2⟩ := h
  go_enter Tryz.func91, Tryz.ntmps91
  go_wp2_with fail
  go_loop [8, 9] (fun s i => ∃ k : Nat, (k : Int) ≤ q / 4 ∧ i = .int .i64 k ∧ s = .int .i64 ((4 + q % 4) * 2 ^ k)) (fun _ i => (q / 4 - intOf i).toNat)
  case atStart => exact ⟨0, by omega, rfl, by simp⟩
  case round =>
    obtain ⟨k, hk, rfl, rfl⟩ := hrel
    have hb := pow_bd (4 + q % 4) k (by omega) (by omega) (by omega)
    by_cases hlt : (k : Int) < q / 4
    · have HS : Hid (2 * ((4 + q % 4) * 2 ^ k) = (4 + q % 4) * 2 ^ (k + 1)) := by show _ = _; rw [Int.pow_succ, Int.mul_comm 2, Int.mul_assoc]
      generalize (4 + q % 4) * 2 ^ k = p at *
      go_wp2_with fail
      go_round
      case rel => exact ⟨k + 1, by omega, by go_num, by rw [← HS.out]⟩
      case measure => simp [intOf]; omega
    · have hk2 : k = (q / 4).toNat := by omega
      have HE : Hid (stepOf q x y = (4 + q % 4) * 2 ^ k / 4 * (4 + x + y) / 4) := by show _ = _; rw [hk2]; rfl
      clear hk2
      generalize (4 + q % 4) * 2 ^ k = p at *
      have h1 : 1 ≤ p / 4 ∧ p / 4 ≤ 224 := by omega
      have h2 : 4 ≤ p / 4 * (4 + x + y) := by
        have := Int.mul_le_mul h1.1 (show 4 ≤ 4 + x + y by omega) (by omega) (by omega)
        omega
      have h3 : p / 4 * (4 + x + y) ≤ 224 * 18 := Int.mul_le_mul h1.2 (show 4 + x + y ≤ 18 by omega) (by omega) (by omega)
      go_wp2_with fail
      go_ret2
      exact ⟨by rw [HE.out]; rfl, rfl⟩
end Go.Proofs.YteppnjgfebcmjaaGreat

/-
  The reference's Fine.
-/
namespace Go.Proofs.YteppnjgfebcmjaaGreat
open Go.RowKit

theorem rside (w : World) (n : Nat) (h : sideOf n ≠ 0) : Calls Tryz.prog 90 #[.int .i64 (n : Int)] w fun e w' => e = .returned (.int .i64 ((sideOf n : Nat) : Int)) ∧ w = w' := by
  unfold sideOf at *
  by_cases h1 : n = 16
  · subst h1
    go_enter Tryz.func90, Tryz.ntmps90
    go_wp2_with fail
    go_ret
    exact ⟨rfl, rfl⟩
  · by_cases h2 : n = 64
    · subst h2
      go_enter Tryz.func90, Tryz.ntmps90
      go_wp2_with fail
      go_ret
      exact ⟨rfl, rfl⟩
    · simp [h1, h2] at h

def fineTo (l : List Int) (q : Int) (k : Nat) : List Int := (List.range k).map (fineAt l q)
theorem fineTo_succ (l : List Int) (q : Int) (k : Nat) : fineTo l q (k + 1) = fineTo l q k ++ [fineAt l q k] := by simp [fineTo, List.range_succ]
theorem fineTo_length (l : List Int) (q : Int) (k : Nat) : (fineTo l q k).length = k := by simp [fineTo]
def RFineRel (w : World) (l : List Int) (q : Int) (v i : Value) (wr : World) : Prop :=
  ∃ k : Nat, k ≤ l.length ∧ i = .int .i64 k ∧ IntsOwn wr w.heap.size v (fineTo l q k) ∧ Mod (fun _ => False) w wr
theorem quiet_rstep (w : World) (q x y : Int) (h : stepOk q x y = true) (n : Nat) : Calls Tryz.prog 91 #[.int .i64 q, .int .i64 x, .int .i64 y] (w.drewN n) fun e w' => e = .returned (.tuple #[.int .i64 (stepOf q x y), .int .i64 0]) ∧ w' = w.drewN n := (rstep_yes _ q x y h).mono fun _ _ ⟨a, b⟩ => ⟨a, b.symm⟩
theorem fine_right {l : List Int} {q : Int} (hr : rightB l q 67108864 = true) : (rightB (fineL l q) q 67108864 = true → qFine l q = some (fineL l q)) ∧ (rightB (fineL l q) q 67108864 = false → qFine l q = none) := by
  unfold rightB at *
  rw [Bool.and_eq_true, decide_eq_true_eq] at hr
  have hlen : (fineL l q).length = l.length := by simp [fineL]
  have hs : sideOf l.length ≠ 0 := by
    have := hr.1
    unfold allB at this
    rw [Bool.and_eq_true, decide_eq_true_eq] at this
    exact this.1
  constructor
  · intro h
    rw [Bool.and_eq_true] at h
    have h1 := h.1
    unfold allB at h1
    rw [Bool.and_eq_true, List.all_eq_true] at h1
    unfold qFine
    rw [if_pos ⟨hr.1, hr.2, fun i hi => h1.2 _ (List.mem_map.2 ⟨i, List.mem_range.2 hi, rfl⟩)⟩]
  · intro h
    unfold qFine
    rw [if_neg]
    rintro ⟨_, _, h3⟩
    have : allB 67108864 (fineL l q) = true := allB_yes (by rw [hlen]; exact hs) (fun j hj => by
      rw [hlen] at hj
      have := h3 j hj
      simpa [fineL, List.getD_eq_getElem?_getD, hj] using this)
    rw [this] at h
    simp at h
    have := hr.2
    omega
set_option maxRecDepth 100000 in
set_option maxHeartbeats 2000000 in
theorem rfine (w : World) (A : Option Addr) (n c : Nat) (l : List Int) (q : Int) (hin : IntsIn w A n c l) (hn : n ≤ 1048576) :
    Calls Tryz.prog 40 #[.slice A n c, .int .i64 q] w (FinePost w l q) := by
  obtain rfl : l.length = n := hin.1
  have HIN := Lib.hid hin
  cases hr : rightB l q 67108864 with
  | false =>
    have HQ : Hid (qFine l q = none) := by
      show _ = _
      unfold qFine
      rw [if_neg]
      rintro ⟨h1, h2, _⟩
      unfold rightB at hr
      rw [h1] at hr
      simp at hr
      omega
    have HR := Lib.hid hr
    clear hr hin
    go_enter Tryz.func40, Tryz.ntmps40
    go_wp2_with fail
    refine (rright _ A l.length c l q 67108864 HIN.out (by omega) (by omega)).mono ?_
    rintro e w1 ⟨rfl, rfl⟩
    rw [HR.out]
    go_wp2_with fail
    go_ret2
    exact ⟨Mod.refl _ _, .inl ⟨HQ.out, rfl⟩⟩
  | true =>
    have HF := Lib.hid (fine_right hr)
    have hr' := hr
    unfold rightB at hr'
    rw [Bool.and_eq_true, decide_eq_true_eq] at hr'
    obtain ⟨hall, hq⟩ := hr'
    unfold allB at hall
    rw [Bool.and_eq_true, decide_eq_true_eq, List.all_eq_true] at hall
    obtain ⟨hside, hall⟩ := hall
    have HALL := Lib.hid (And.intro hside hall)
    have hl0 : 0 < l.length := by
      rcases Nat.eq_zero_or_pos l.length with h | h
      · rw [h] at hside; exact absurd rfl hside
      · exact h
    have HR := Lib.hid hr
    clear hr hall
    obtain ⟨b, off, hA, hb, hc⟩ := hin.place hl0
    subst hA
    have HC := Lib.hid hc
    clear hc hin
    go_enter Tryz.func40, Tryz.ntmps40
    go_wp2_with fail
    refine (rright _ _ l.length c l q 67108864 HIN.out (by omega) (by omega)).mono ?_
    rintro e w1 ⟨rfl, rfl⟩
    rw [HR.out]
    go_wp2_with fail
    refine (rside _ l.length hside).mono ?_
    rintro e w1 ⟨rfl, rfl⟩
    obtain ⟨s, hs⟩ : ∃ s, s = sideOf l.length := ⟨_, rfl⟩
    rw [← hs] at hside ⊢
    have hs8 : s = 4 ∧ l.length = 16 ∨ s = 8 ∧ l.length = 64 := by
      unfold sideOf at hs
      split at hs
      · exact .inl ⟨hs, by assumption⟩
      · split at hs
        · exact .inr ⟨hs, by assumption⟩
        · omega
    have hsb : 1 ≤ s ∧ s ≤ 8 ∧ l.length = s * s := by rcases hs8 with ⟨h1, h2⟩ | ⟨h1, h2⟩ <;> subst h1 <;> omega
    obtain ⟨hs1, hs2, hs3⟩ := hsb
    have HS := Lib.hid (And.intro hs hs3)
    clear hs hs3 hs8 hside
    go_wp2_with fail
    go_loopw [8, 9] (RFineRel w l q) (fun _ i _ => l.length - (intOf i).toNat)
    case atStart => exact ⟨0, by omega, rfl, IntsOwn.nil _ _, Mod.refl _ _⟩
    case round =>
      obtain ⟨k, hk, rfl, hrow, hM⟩ := hrel
      by_cases hlt : k < l.length
      · have hck : wr.cell? ⟨b, off + k, none⟩ = some (.int .i64 (l.getD k 0)) := (World.cell?_of_block (hM.block b hb (fun h => h))).trans (HC.out k hlt)
        have hvin : inB 67108864 (l.getD k 0) = true := HALL.out.2 _ (by rw [List.getD_eq_getElem?_getD, List.getElem?_eq_getElem hlt]; exact List.getElem_mem hlt)
        have HFA : Hid (fineAt l q k = l.getD k 0 * stepOf q ((k % s : Nat) : Int) ((k / s : Nat) : Int)) := by show _ = _; unfold fineAt; rw [← HS.out.1]
        generalize hvv : l.getD k 0 = v at *
        clear hvv
        unfold inB at hvin
        simp only [decide_eq_true_eq] at hvin
        obtain ⟨v1, v2⟩ := hvin
        have i1 : (0 : Int) ≤ (k : Int) := by omega
        have i2 : (k : Int) < (l.length : Int) := by omega
        obtain ⟨kx, hkx⟩ : ∃ kx, kx = k % s := ⟨_, rfl⟩
        obtain ⟨ky, hky⟩ : ∃ ky, ky = k / s := ⟨_, rfl⟩
        have hks : kx < s := by rw [hkx]; exact Nat.mod_lt _ (by omega)
        have hkd : ky < s := by rw [hky]; exact Nat.div_lt_of_lt_mul (by rw [← HS.out.2]; exact hlt)
        have t1 : ((k : Int).tmod (s : Int)) = (kx : Int) := by rw [Int.tmod_eq_emod_of_nonneg (by omega), hkx]; exact (Int.natCast_emod k s).symm
        have t2 : ((k : Int).tdiv (s : Int)) = (ky : Int) := by rw [Int.tdiv_eq_ediv_of_nonneg (by omega), hky]; exact (Int.natCast_ediv k s).symm
        have t3 : ((k : Int) % (s : Int)) = (kx : Int) := by rw [hkx]; exact (Int.natCast_emod k s).symm
        have t4 : ((k : Int) / (s : Int)) = (ky : Int) := by rw [hky]; exact (Int.natCast_ediv k s).symm
        have hs0 : ((s : Int) == 0) = false := beq_eq_false_iff_ne.2 (by omega)
        rw [← hkx, ← hky] at HFA
        have HT := Lib.hid (And.intro t1 (And.intro t2 (And.intro t3 t4)))
        clear hkx hky t1 t2 t3 t4
        have hok : stepOk q (kx : Int) (ky : Int) = true := by unfold stepOk; rw [decide_eq_true_eq]; omega
        obtain ⟨A5, c5, hv5⟩ := own_shape hrow
        subst hv5
        rw [fineTo_length]
        have HB := Lib.hid (And.intro hrow hM)
        clear hrow hM
        go_upto_region 9 with (fail)
        obtain ⟨t1, t2, t3, t4⟩ := HT.out
        go_quiet ((go_at_call 91; exact Calls.quiet_of_same (quiet_rstep _ q kx ky hok _)))
        clear t1 t2 t3 t4
        have hbd := step_bd q kx ky hok
        obtain ⟨_, st1, st2, _⟩ := hbd
        obtain ⟨st, hst⟩ : ∃ st, st = stepOf q kx ky := ⟨_, rfl⟩
        rw [← hst] at st1 st2 HFA ⊢
        clear hst hok HT
        have hpb := mul_bd v st v1 v2 st1 st2
        have hck2 : (wr.drewN nq).cell? ⟨b, off + k, none⟩ = some (.int .i64 v) := hck
        have hrow2 : IntsOwn (wr.drewN nq) w.heap.size (.slice A5 k c5) (fineTo l q k) := by
          have := own_mod HB.out.1 ((Mod.refl (fun _ => False) wr).drewN nq) (fun _ _ h => h)
          rw [fineTo_length] at this
          unfold IntsOwn
          rw [fineTo_length]
          exact this
        have hM2 := HB.out.2.drewN nq
        have HB2 := Lib.hid (And.intro hrow2 (And.intro hM2 (hM2.size)))
        clear hrow2 hM2 hck HB
        generalize wr.drewN nq = w5 at *
        go_wp2_with (at_builtin; have _t := HB2; refine wpList_app_int _ rfl _ _ rfl w.heap.size (.slice A5 k c5) (fineTo l q k) (v * st) rfl rfl HB2.out.1 HB2.out.2.2 (by rw [fineTo_length]; omega) ?_; intro v6 w6 hown6 _ hM6 _; have HO := Lib.hid (And.intro hown6 (hM6 w (fun _ => False) (Nat.le_refl _) HB2.out.2.1)); clear hown6 hM6)
        go_roundw
        case rel =>
          refine ⟨k + 1, by omega, by go_num, ?_, HO.out.2⟩
          rw [fineTo_succ, HFA.out]
          exact HO.out.1
        case measure => simp [intOf]; omega
      · obtain rfl : k = l.length := by omega
        have hrow' : IntsOwn wr w.heap.size _ (fineL l q) := hrow
        obtain ⟨A5, c5, hv5⟩ := own_shape hrow'
        subst hv5
        have hlen : (fineL l q).length = l.length := by simp [fineL]
        rw [hlen]
        have hin5 := hrow'.in_
        rw [hlen] at hin5
        have HB := Lib.hid (And.intro hrow' (And.intro hM (And.intro hin5 hlen)))
        clear hrow hrow' hM hin5 hlen
        cases hr2 : rightB (fineL l q) q 67108864 with
        | true =>
          have HR2 := Lib.hid hr2
          clear hr2
          go_wp2_with fail
          refine (rright _ _ l.length c5 _ q 67108864 HB.out.2.2.1 (by omega) (by omega)).mono ?_
          rintro e w1 ⟨rfl, rfl⟩
          rw [HR2.out]
          go_wp2_with fail
          go_ret2
          exact ⟨HB.out.2.1, .inr ⟨_, HF.out.1 HR2.out, rfl, by have := HB.out.1; rwa [HB.out.2.2.2] at this⟩⟩
        | false =>
          have HR2 := Lib.hid hr2
          clear hr2
          go_wp2_with fail
          refine (rright _ _ l.length c5 _ q 67108864 HB.out.2.2.1 (by omega) (by omega)).mono ?_
          rintro e w1 ⟨rfl, rfl⟩
          rw [HR2.out]
          go_wp2_with fail
          go_ret2
          exact ⟨HB.out.2.1, .inl ⟨HF.out.2 HR2.out, rfl⟩⟩
end Go.Proofs.YteppnjgfebcmjaaGreat
