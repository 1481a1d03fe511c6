/-
  The reference's turned, rows, within, side, Back (of 64).
-/
import Derived.Test.YteppnjgfebcmjaaGreatM38
import Derived.Test.YteppnjgfebcmjaaGreatM1
namespace Go.Proofs.YteppnjgfebcmjaaGreat
open Go.RowKit

theorem r7side (w : World) (n : Nat) (hn : n ≤ 9223372036854775807) : Calls Tryz.prog 92 #[.int .i64 (n : Int)] w fun e w' => e = .returned (.int .i64 ((sideOf n : Nat) : Int)) ∧ w = w' := by
  unfold sideOf
  by_cases h1 : n = 16
  · subst h1
    go_enter Tryz.func92, Tryz.ntmps92
    go_wp2_with fail
    go_ret
    exact ⟨rfl, rfl⟩
  · by_cases h2 : n = 64
    · subst h2
      go_enter Tryz.func92, Tryz.ntmps92
      go_wp2_with fail
      go_ret
      exact ⟨rfl, rfl⟩
    · have e1 : ((n : Int) == 16) = false := beq_eq_false_iff_ne.2 (by omega)
      have e2 : ((n : Int) == 64) = false := beq_eq_false_iff_ne.2 (by omega)
      rw [if_neg h1, if_neg h2]
      go_enter Tryz.func92, Tryz.ntmps92
      go_wp2_with fail
      go_ret
      exact ⟨rfl, rfl⟩

def turnTo (l : List Int) (p : Nat) : List Int := (List.range p).map fun t => l.getD (t % 8 * 8 + t / 8) 0
theorem turnTo_succ (l : List Int) (x y : Nat) (hy : y < 8) : turnTo l (8 * x + y + 1) = turnTo l (8 * x + y) ++ [l.getD (y * 8 + x) 0] := by
  unfold turnTo
  rw [List.range_succ, List.map_append]
  have h1 : (8 * x + y) % 8 = y := by omega
  have h2 : (8 * x + y) / 8 = x := by omega
  simp [h1, h2]
theorem turnTo_length (l : List Int) (p : Nat) : (turnTo l p).length = p := by simp [turnTo]
def turnL (l : List Int) : List Int := turnTo l 64
def TurnRel (w : World) (l : List Int) (v5 i : Value) (wr : World) : Prop :=
  ∃ x : Nat, x ≤ 8 ∧ i = .int .i64 (x : Int) ∧ IntsOwn wr w.heap.size v5 (turnTo l (8 * x)) ∧ Mod (fun _ => False) w wr
def TurnIn (w : World) (l : List Int) (x : Nat) (v5 i : Value) (wr : World) : Prop :=
  ∃ y : Nat, y ≤ 8 ∧ i = .int .i64 (y : Int) ∧ IntsOwn wr w.heap.size v5 (turnTo l (8 * x + y)) ∧ Mod (fun _ => False) w wr

set_option maxRecDepth 100000 in
set_option maxHeartbeats 2000000 in
theorem rturned (w : World) (A : Option Addr) (c : Nat) (l : List Int) (hin : IntsIn w A 64 c l) : Calls Tryz.prog 95 #[.slice A 64 c, .int .i64 8] w (IntsRet w (turnL l)) := by
  obtain ⟨b, off, hA, hb, hcell⟩ := hin.place (by omega)
  subst hA
  have HC := Lib.hid hcell
  clear hcell hin
  go_enter Tryz.func95, Tryz.ntmps95
  go_wp2_with fail
  go_loopw [5, 6] (TurnRel w l) (fun _ i _ => 8 - (intOf i).toNat)
  case atStart => exact ⟨0, by omega, rfl, IntsOwn.nil _ _, Mod.refl _ _⟩
  case round =>
    obtain ⟨x, hx, rfl, hown, hM⟩ := hrel
    by_cases hlt : x < 8
    · obtain ⟨wo, rfl⟩ : ∃ wo : World, wo = wr := ⟨_, rfl⟩
      have HB := Lib.hid (And.intro hown hM)
      clear hown hM
      have dx : decide ((x : Int) < 8) = true := decide_eq_true (by omega)
      go_wp2_with fail
      go_loopw [5, 7] (TurnIn w l x) (fun _ i _ => 8 - (intOf i).toNat)
      case atStart => exact ⟨0, by omega, rfl, HB.out.1, HB.out.2⟩
      case round =>
        clear HB
        obtain ⟨y, hy, rfl, hown, hM⟩ := hrel
        by_cases hly : y < 8
        · have hk0 : wr.cell? ⟨b, off + (y * 8 + x), none⟩ = some (.int .i64 (l.getD (y * 8 + x) 0)) := (World.cell?_of_block (hM.block b hb (fun h => h))).trans (HC.out (y * 8 + x) (by omega))
          have HS := Lib.hid (turnTo_succ l x y hly)
          generalize l.getD (y * 8 + x) 0 = v at *
          obtain ⟨A3, c3, hv3⟩ := own_shape hown
          subst hv3
          rw [turnTo_length]
          rw [turnTo_length] at hown
          have HB := Lib.hid (And.intro hown (And.intro hM hM.size))
          clear hown hM
          have p1 : (0 : Int) ≤ (y : Int) * 8 + (x : Int) := by omega
          have p2 : ((y : Int) * 8 + (x : Int)).toNat = y * 8 + x := by omega
          have p3 : (y : Int) * 8 + (x : Int) < 64 := by omega
          go_wp2_with (at_builtin; have _t := HB; refine wpList_app_int _ rfl (.tmp 18) (.tmp 27) rfl w.heap.size _ _ v rfl rfl HB.out.1 HB.out.2.2 (by rw [turnTo_length]; omega) ?_; intro v8 w8 hown8 hMa hMb hF; have HO := Lib.hid (And.intro hown8 (hMb w (fun _ => False) (Nat.le_refl _) HB.out.2.1)); clear hown8 hMa hMb hF)
          go_roundw
          case rel =>
            have h8 : IntsOwn w8 w.heap.size v8 (turnTo l (8 * x + (y + 1))) := by
              rw [← Nat.add_assoc, HS.out]
              exact HO.out.1
            exact ⟨y + 1, by omega, by go_num, h8, HO.out.2⟩
          case measure => simp [intOf]; omega
        · obtain rfl : y = 8 := by omega
          have HB := Lib.hid (And.intro hown hM)
          clear hown hM
          go_wp2_with fail
          go_roundw
          case rel => exact ⟨x + 1, by omega, by go_num, HB.out.1, HB.out.2⟩
          case measure => simp [intOf]; omega
    · obtain rfl : x = 8 := by omega
      have HB := Lib.hid (And.intro hown hM)
      clear hown hM
      go_wp2_with fail
      go_ret
      obtain ⟨h9, hM9⟩ := HB.out
      have h9' : IntsOwn _ _ _ (turnL l) := h9
      obtain ⟨A9, c9, hv9⟩ := own_shape h9'
      subst hv9
      exact ⟨A9, c9, rfl, h9'.cap, h9'.in_, hM9⟩

def rowsTo (f : List Int → List Int) (l : List Int) (k : Nat) : List Int := (List.range k).flatMap fun y => f ((l.drop (y * 8)).take 8)
theorem rowsTo_succ (f : List Int → List Int) (l : List Int) (k : Nat) : rowsTo f l (k + 1) = rowsTo f l k ++ f ((l.drop (k * 8)).take 8) := by simp [rowsTo, List.range_succ]
theorem rowsTo_length (f : List Int → List Int) (l : List Int) (hl : l.length = 64) (hf : ∀ x : List Int, x.length = 8 → (f x).length = 8) (k : Nat) (hk : k ≤ 8) : (rowsTo f l k).length = k * 8 := by
  induction k with
  | zero => rfl
  | succ k ih =>
    rw [rowsTo_succ, List.length_append, ih (by omega), hf _ (by simp; omega)]
    omega
def RowsRel (w : World) (f : List Int → List Int) (l : List Int) (v7 i : Value) (wr : World) : Prop :=
  ∃ k : Nat, k ≤ 8 ∧ i = .int .i64 (k : Int) ∧ IntsOwn wr w.heap.size v7 (rowsTo f l k) ∧ Mod (fun _ => False) w wr
theorem within_part {M : Int} {l : List Int} (h0 : 0 ≤ M) (h : Within M l) (k m : Nat) : Within M ((l.drop k).take m) := by
  intro i
  rw [List.getD_eq_getElem?_getD, List.getElem?_take]
  split
  · rw [List.getElem?_drop, ← List.getD_eq_getElem?_getD]; exact h _
  · exact ⟨by simp; omega, by simpa using h0⟩

set_option maxRecDepth 100000 in
set_option maxHeartbeats 2000000 in
theorem rrows (w : World) (A : Option Addr) (c : Nat) (l : List Int) (hc : 64 ≤ c) (hin : IntsIn w A 64 c l) (hw : Within 1099511627776 l) : Calls Tryz.prog 94 #[.slice A 64 c, .int .i64 8, .bool true] w (IntsRet w (rowsTo (unK 3) l 8)) := by
  obtain ⟨b, off, hA, hb, hcell⟩ := hin.place (by omega)
  subst hA
  have HC := Lib.hid (And.intro hin hw)
  clear hcell hin hw
  go_enter Tryz.func94, Tryz.ntmps94
  go_wp2_with fail
  go_loopw [7, 8] (RowsRel w (unK 3) l) (fun _ i _ => 8 - (intOf i).toNat)
  case atStart => exact ⟨0, by omega, rfl, IntsOwn.nil _ _, Mod.refl _ _⟩
  case round =>
    obtain ⟨k, hk, rfl, hown, hM⟩ := hrel
    by_cases hlt : k < 8
    · have hlen := rowsTo_length (unK 3) l HC.out.1.1 (fun x hx => unK_length 3 x hx) k hk
      obtain ⟨A3, c3, hv3⟩ := own_shape hown
      subst hv3
      rw [hlen] at hown ⊢
      have HB := Lib.hid (And.intro hown (And.intro hM hlen))
      have hpart := (HC.out.1.quiet hM).part (k * 8) 8 (c - k * 8) (by omega)
      have hwp := within_part (by omega) HC.out.2 (k * 8) 8
      have R5 := rrow 3 (by omega) wr _ 8 (c - k * 8) _ rfl (by omega) hpart hwp
      have HP := Lib.hid (And.intro hpart hwp)
      clear hown hM hpart hwp hlen
      go_wp2_with fail
      refine R5.mono ?_
      clear R5
      rintro e w5 ⟨A5, c5, rfl, hc5, hin5, hm5⟩
      have R6 := runrow 3 (by omega) w5 _ 8 (c - k * 8) _ rfl (by omega) (HP.out.1.quiet hm5) HP.out.2
      have HM5 := Lib.hid hm5
      clear hin5 hm5 hc5
      go_wp2_with fail
      refine R6.mono ?_
      clear R6
      rintro e w6 ⟨A6, c6, rfl, hc6, hin6, hm6⟩
      have hl6 : (unK 3 ((l.drop (k * 8)).take 8)).length = 8 := unK_length 3 _ (by have := HC.out.1.1; simp; omega)
      rw [hl6] at hin6 ⊢
      have M6 : Mod (fun _ => False) wr w6 := HM5.out.trans hm6
      have HZ := Lib.hid (And.intro hin6 (And.intro (HB.out.1.quiet M6) (And.intro (HB.out.2.1.trans M6) hl6)))
      clear hin6 hm6 M6 hl6
      go_wp2_with (at_builtin; have _t := HZ; refine wpList_app_ints _ rfl (.tmp 38) (.tmp 39) rfl w.heap.size _ _ _ 8 _ _ rfl rfl HZ.out.2.1 HZ.out.1 HZ.out.2.2.1.size (by rw [HB.out.2.2]; omega) ?_; intro v8 w8 hown8 hMa hMb hF; have HO := Lib.hid (And.intro hown8 (hMb w (fun _ => False) (Nat.le_refl _) HZ.out.2.2.1)); clear hown8 hMa hMb hF)
      go_roundw
      case rel =>
        refine ⟨k + 1, by omega, by go_num, ?_, HO.out.2⟩
        rw [rowsTo_succ]
        exact HO.out.1
      case measure => simp [intOf]; omega
    · obtain rfl : k = 8 := by omega
      have HB := Lib.hid (And.intro hown hM)
      clear hown hM
      go_wp2_with fail
      go_ret
      obtain ⟨h9, hM9⟩ := HB.out
      obtain ⟨A9, c9, hv9⟩ := own_shape h9
      subst hv9
      exact ⟨A9, c9, rfl, h9.cap, h9.in_, hM9⟩

def WithinRel (m : Int) (l : List Int) (i : Value) : Prop := ∃ k : Nat, k ≤ l.length ∧ i = .int .i64 (k : Int) ∧ ∀ j < k, inB m (l.getD j 0) = true
set_option maxRecDepth 100000 in
set_option maxHeartbeats 2000000 in
theorem rwithin (w : World) (A : Option Addr) (n c : Nat) (l : List Int) (m : Int) (hm : 0 ≤ m ∧ m ≤ 1099511627776) (hn0 : 0 < n) (hn : n ≤ 1048576) (hin : IntsIn w A n c l) : Calls Tryz.prog 93 #[.slice A n c, .int .i64 m] w fun e w' => e = .returned (.bool (l.all (inB m))) ∧ w = w' := by
  obtain rfl : l.length = n := hin.1
  obtain ⟨b, off, hA, hb, hcell⟩ := hin.place (by omega)
  subst hA
  have HC := Lib.hid hcell
  clear hcell hin
  obtain ⟨m1, m2⟩ := hm
  go_enter Tryz.func93, Tryz.ntmps93
  go_wp2_with fail
  go_loop [5] (WithinRel m l) (fun i => l.length - (intOf i).toNat)
  case atStart => exact ⟨0, by omega, rfl, fun j hj => by omega⟩
  case round =>
    obtain ⟨k, hk, rfl, hall⟩ := hrel
    have HA := Lib.hid hall
    clear hall
    by_cases hlt : k < l.length
    · have hck := HC.out k hlt
      have HV : Hid (inB m (l.getD k 0) = decide (-m ≤ l.getD k 0 ∧ l.getD k 0 ≤ m)) := rfl
      have HM : Hid (l.getD k 0 ∈ l) := by
        show _ ∈ _
        rw [List.getD_eq_getElem?_getD, List.getElem?_eq_getElem hlt]; exact List.getElem_mem hlt
      have HG : Hid (inB m (l.getD k 0) = inB m (l.getD k 0)) := rfl
      obtain ⟨v, hv⟩ : ∃ v, v = l.getD k 0 := ⟨_, rfl⟩
      rw [← hv] at hck HV HM
      have HVE := Lib.hid hv
      clear hv
      by_cases h1 : v < -m
      · have d1 : decide (v < -m) = true := decide_eq_true h1
        go_wp2_with fail
        go_ret
        have e : l.all (inB m) = false := by
          rw [List.all_eq_false]
          exact ⟨v, HM.out, by rw [HV.out]; simp; omega⟩
        exact ⟨by rw [e]; rfl, rfl⟩
      · have d1 : decide (v < -m) = false := decide_eq_false h1
        by_cases h2 : m < v
        · have d2 : decide (m < v) = true := decide_eq_true h2
          go_wp2_with fail
          go_ret
          have e : l.all (inB m) = false := by
            rw [List.all_eq_false]
            exact ⟨v, HM.out, by rw [HV.out]; simp; omega⟩
          exact ⟨by rw [e]; rfl, rfl⟩
        · have d2 : decide (m < v) = false := decide_eq_false h2
          go_wp2_with fail
          go_round
          case rel =>
            refine ⟨k + 1, by omega, by go_num, fun j hj => ?_⟩
            by_cases e : j = k
            · rw [e, ← HVE.out, HV.out]; simp; omega
            · exact HA.out j (by omega)
          case measure => simp [intOf]; omega
    · go_wp2_with fail
      go_ret
      have e : l.all (inB m) = true := by
        rw [List.all_eq_true]
        intro x hx
        obtain ⟨j, hj, rfl⟩ := List.getElem_of_mem hx
        have := HA.out j (by omega)
        rwa [List.getD_eq_getElem?_getD, List.getElem?_eq_getElem hj] at this
      exact ⟨by rw [e]; rfl, rfl⟩

def rbackL (l : List Int) : List Int := rowsTo (unK 3) (turnL (rowsTo (unK 3) (turnL l) 8)) 8
def RBackPost (w : World) (l : List Int) (e : Ending) (w' : World) : Prop :=
  Mod (fun _ => False) w w' ∧ ((allB 67108864 l = false ∧ e = .returned (.tuple #[.slice none 0 0, .int .i64 1])) ∨ ∃ A c, allB 67108864 l = true ∧ e = .returned (.tuple #[.slice A 64 c, .int .i64 0]) ∧ IntsIn w' A 64 c (rbackL l))
theorem turnL_length (l : List Int) : (turnL l).length = 64 := turnTo_length l 64
theorem turnL_within {M : Int} {l : List Int} (h0 : 0 ≤ M) (h : Within M l) : Within M (turnL l) := by
  intro i
  by_cases hi : i < 64
  · have e : (turnL l).getD i 0 = l.getD (i % 8 * 8 + i / 8) 0 := by simp [turnL, turnTo, List.getD_eq_getElem?_getD, hi]
    rw [e]; exact h _
  · have e : (turnL l).getD i 0 = 0 := by simp [turnL, turnTo, List.getD_eq_getElem?_getD, hi]
    rw [e]; omega
theorem within_mem {M : Int} {l : List Int} (h : Within M l) {x : Int} (hx : x ∈ l) : -M ≤ x ∧ x ≤ M := by
  obtain ⟨j, hj, rfl⟩ := List.getElem_of_mem hx
  have := h j
  rwa [List.getD_eq_getElem?_getD, List.getElem?_eq_getElem hj] at this
theorem rowsTo_within {M B : Int} {l : List Int} {f : List Int → List Int} (h0 : 0 ≤ M) (hB : 0 ≤ B) (h : Within M l) (hf : ∀ x, Within M x → Within B (f x)) (k : Nat) : Within B (rowsTo f l k) := by
  induction k with
  | zero => intro i; simp [rowsTo]; omega
  | succ k ih =>
    rw [rowsTo_succ]
    exact within_snoc hB ih (fun x hx => within_mem (hf _ (within_part h0 h _ _)) hx)
theorem all_within {m : Int} {l : List Int} (h0 : 0 ≤ m) (h : l.all (inB m) = true) : Within m l := by
  intro i
  rw [List.getD_eq_getElem?_getD]
  by_cases hi : i < l.length
  · rw [List.getElem?_eq_getElem hi]
    have := (List.all_eq_true.1 h) _ (List.getElem_mem hi)
    simpa [inB] using this
  · rw [List.getElem?_eq_none (by omega)]; exact ⟨by simp; omega, by simpa using h0⟩

set_option maxRecDepth 100000 in
set_option maxHeartbeats 2000000 in
theorem rback (w : World) (A : Option Addr) (c : Nat) (l : List Int) (hin : IntsIn w A 64 c l) : Calls Tryz.prog 41 #[.slice A 64 c] w (RBackPost w l) := by
  have h64 : l.length = 64 := hin.1
  have hab : allB 67108864 l = l.all (inB 67108864) := by unfold allB; rw [h64]; rfl
  have HIN := Lib.hid (And.intro hin hab)
  clear h64 hab hin
  cases hr : l.all (inB 67108864) with
  | false =>
    have HR := Lib.hid hr
    clear hr
    go_enter Tryz.func41, Tryz.ntmps41
    go_wp2_with fail
    refine (r7side _ 64 (by omega)).mono ?_
    rintro e w1 ⟨rfl, rfl⟩
    rw [show ((sideOf 64 : Nat) : Int) = 8 from rfl]
    go_wp2_with fail
    refine (rwithin _ A 64 c l 67108864 (by omega) (by omega) (by omega) HIN.out.1).mono ?_
    rintro e w1 ⟨rfl, rfl⟩
    rw [HR.out]
    go_wp2_with fail
    go_ret2
    exact ⟨Mod.refl _ _, .inl ⟨HIN.out.2.trans HR.out, rfl⟩⟩
  | true =>
    have hw := all_within (by omega) hr
    have w1 : Within 67108864 (turnL l) := turnL_within (by omega) hw
    have w2 : Within 268435459 (rowsTo (unK 3) (turnL l) 8) := rowsTo_within (by omega) (by omega) w1 (fun x hx => unK_within (by omega) 3 x hx) 8
    have w3 : Within 268435459 (turnL (rowsTo (unK 3) (turnL l) 8)) := turnL_within (by omega) w2
    have big : ∀ {M : Int} {x : List Int}, M ≤ 1099511627776 → Within M x → Within 1099511627776 x := fun hM h i => by have := h i; omega
    have HW := Lib.hid (And.intro (big (by omega) w1) (big (by omega) w3))
    have HR := Lib.hid hr
    have l2 : (rowsTo (unK 3) (turnL l) 8).length = 64 := rowsTo_length _ _ (turnL_length l) (fun x hx => unK_length 3 x hx) 8 (by omega)
    have l4 : (rowsTo (unK 3) (turnL (rowsTo (unK 3) (turnL l) 8)) 8).length = 64 := rowsTo_length _ _ (turnL_length _) (fun x hx => unK_length 3 x hx) 8 (by omega)
    have HL := Lib.hid (And.intro l2 l4)
    clear hr hw w1 w2 w3 big l2 l4
    go_enter Tryz.func41, Tryz.ntmps41
    go_wp2_with fail
    refine (r7side _ 64 (by omega)).mono ?_
    rintro e w1 ⟨rfl, rfl⟩
    rw [show ((sideOf 64 : Nat) : Int) = 8 from rfl]
    go_wp2_with fail
    refine (rwithin _ A 64 c l 67108864 (by omega) (by omega) (by omega) HIN.out.1).mono ?_
    rintro e w1 ⟨rfl, rfl⟩
    rw [HR.out]
    go_wp2_with fail
    refine (rturned _ A c l HIN.out.1).mono ?_
    rintro e w1 ⟨A1, c1, rfl, hc1, hin1, hm1⟩
    rw [turnL_length] at hc1 hin1 ⊢
    have R1 := rrows _ A1 c1 _ hc1 hin1 HW.out.1
    have HM1 := Lib.hid hm1
    clear hm1 hin1 hc1
    go_wp2_with fail
    refine R1.mono ?_
    clear R1
    rintro e w2 ⟨A2, c2, rfl, hc2, hin2, hm2⟩
    rw [HL.out.1] at hc2 hin2 ⊢
    have R2 := rturned _ A2 c2 _ hin2
    have HM2 := Lib.hid (HM1.out.trans hm2)
    clear hm2 hin2 hc2
    go_wp2_with fail
    refine R2.mono ?_
    clear R2
    rintro e w3 ⟨A3, c3, rfl, hc3, hin3, hm3⟩
    rw [turnL_length] at hc3 hin3 ⊢
    have R3 := rrows _ A3 c3 _ hc3 hin3 HW.out.2
    have HM3 := Lib.hid (HM2.out.trans hm3)
    clear hm3 hin3 hc3
    go_wp2_with fail
    refine R3.mono ?_
    clear R3
    rintro e w4 ⟨A4, c4, rfl, hc4, hin4, hm4⟩
    rw [HL.out.2] at hc4 hin4 ⊢
    have HM4 := Lib.hid (And.intro (HM3.out.trans hm4) hin4)
    clear hm4 hin4 hc4
    go_wp2_with fail
    go_ret2
    exact ⟨HM4.out.1, .inr ⟨A4, c4, HIN.out.2.trans HR.out, rfl, HM4.out.2⟩⟩
end Go.Proofs.YteppnjgfebcmjaaGreat
