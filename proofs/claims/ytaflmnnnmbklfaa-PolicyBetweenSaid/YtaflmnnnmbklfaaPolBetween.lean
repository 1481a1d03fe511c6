/-
  kinoralaw22.PolicyBetween: the walk.
-/
import Derived.Test.YtaflmnnnmbklfaaPolRates
import Derived.Test.YtaflmnnnmbklfaaPolBetPlain
namespace Go.Proofs.Ytaflmnnnmbklfaa
open Go.RowKit

theorem own_beside {B : Nat} {w w' : World} {g e size n : Nat} {v : Value} {xs : List Value} {L : List Dl} (h : w.ownsRow B e size v n xs) (hm : MeterIs w g L) (hd : Mod (· = g) w w') (hne : e ≠ 57) : w'.ownsRow B e size v n xs := by
  obtain ⟨_, x, _, hb⟩ := hm
  exact own_mod h hd (fun k hk e => own_ne_blk h hb hne (by rw [hk, e]))
theorem own_quiet {B : Nat} {w w' : World} {e size n : Nat} {v : Value} {xs : List Value} (h : w.ownsRow B e size v n xs) (hd : Mod (fun _ => False) w w') : w'.ownsRow B e size v n xs := own_mod h hd (fun _ _ h => h)

theorem act_info : (Try.prog.info? 32).map (fun i => (i.zero, i.size, i.bytes)) = some (some (.agg #[.int .i64 0, .int .i64 0]), 2, 16) := by kernel_rfl
theorem int_info : (Try.prog.info? 3).map (fun i => (i.zero, i.size, i.bytes)) = some (some (.int .i64 0), 1, 8) := by kernel_rfl

theorem take_next (L : List Dl) (f j : Nat) (h : f + j < L.length) : (L.drop f).take (j + 1) = (L.drop f).take j ++ [((dlAt L (f + j)).1, (dlAt L (f + j)).2)] := by
  rw [List.take_succ_eq_append_getElem (by simp; omega)]
  simp [dlAt, List.getD_eq_getElem?_getD, List.getElem?_eq_getElem h]

/-- The row's block is another than a meter's. -/
theorem row_ne {B : Nat} {w : World} {g e size n : Nat} {r len cap : Nat} {xs : List Value} {L : List Dl} (h : w.ownsRow B e size (.slice (some ⟨r, 0, none⟩) len cap) n xs) (hm : MeterIs w g L) (hne : e ≠ 57) : r ≠ g := by
  obtain ⟨_, x, _, hb⟩ := hm
  intro e'
  exact own_ne_blk h hb hne (by rw [← e']; rfl)

/-- What holds at each round's head of the first loop. -/
def BetRel1 (n g1 g2 : Nat) (w : World) (all i : Value) (wr : World) : Prop :=
  ∃ (k : Nat) (L : List Dl) (A : Option Addr) (c : Nat), k ≤ n ∧ k ≤ 200 ∧ i = .int .i64 k ∧ all = .slice A L.length c ∧ L.length ≤ k ∧ MeterIs wr g1 L ∧ MeterIs wr g2 [] ∧ wr.ownsRow w.heap.size 32 2 (.slice A L.length c) L.length (dls L) ∧ Mod (fun _ => False) w wr

/-- .. of the second. -/
def BetRel2 (L : List Dl) (s : Int) (f g1 g2 : Nat) (A : Option Addr) (c : Nat) (w : World) (x low high i : Value) (wr : World) : Prop :=
  ∃ (j q : Nat) (A2 : Option Addr) (c2 : Nat) (xs : List Value), f + j = q ∧ q ≤ L.length ∧ i = .int .i64 q ∧ x = .slice A2 j c2 ∧ wr.ownsRow w.heap.size 3 1 (.slice A2 j c2) j xs ∧ low = .int .i64 (lowTo L s f j) ∧ high = .int .i64 (highTo L s f j) ∧
    MeterIs wr g1 L ∧ MeterIs wr g2 ((L.drop f).take j) ∧ wr.ownsRow w.heap.size 32 2 (.slice A L.length c) L.length (dls L) ∧ Mod (fun _ => False) w wr

set_option maxRecDepth 100000 in
set_option maxHeartbeats 4000000 in
theorem policyBetween_walk (s : Int) (A : Option Addr) (n c : Nat) (l : List Dl) (w : World) (hl : Pairs w A n l) (hn : n ≤ 9223372036854775807) :
    Calls Try.prog 4 #[.slice A n c, .int .i64 s] w fun e w' => e = .returned (.bool true) ∧ Below w.heap.size w w' := by
  obtain ⟨hlen, hat⟩ := hl
  have HA := Lib.hid hat
  clear hlen hat
  obtain ⟨i0, hi0, hz0, hz1, hz2⟩ := info_parts act_info
  go_enter Try.func4, Try.ntmps4
  go_wp2_with fail
  refine (newMeter w).mono ?_
  rintro e w1 ⟨rfl, hm1, hmod1, hsz1⟩
  have HZ := Lib.hid hsz1
  clear hsz1
  go_wp2_with fail
  refine (newMeter w1).mono ?_
  rintro e w2 ⟨rfl, hq2, hmod2, _⟩
  have hm2 := hm1.keep hmod2 (fun h => h)
  have M2 := hmod1.trans hmod2
  have hne : w1.heap.size ≠ w.heap.size := by have := HZ.out; omega
  have hge : w.heap.size ≤ w1.heap.size := by have := HZ.out; omega
  clear hm1 hmod1 hmod2 HZ
  generalize w1.heap.size = g2 at *
  obtain ⟨g1, hg1⟩ : ∃ g1, g1 = w.heap.size := ⟨_, rfl⟩
  rw [← hg1] at hne hm2 ⊢
  have hg1' : w.heap.size ≤ g1 := by omega
  clear hg1
  go_wp2_with fail
  go_loopw [8, 9] (BetRel1 n g1 g2 w) (fun _ i _ => 200 - (intOf i).toNat)
  case atStart => exact ⟨0, [], none, 0, Nat.zero_le _, by omega, rfl, rfl, Nat.zero_le _, hm2, hq2, World.ownsRow_nil _ _ _ _, M2⟩
  case round =>
    obtain ⟨k, L, A1, c1, hk, hk2, rfl, rfl, hL, hm, hq, hown, hM⟩ := hrel
    clear hm2 hq2 M2
    by_cases hlt : k < n ∧ k < 200
    · obtain ⟨hl1, hl2⟩ := hlt
      obtain ⟨b, off, rfl, hc⟩ := HA.out (by omega)
      have hbl : b < w.heap.size := World.block_lt_of_cell? w _ (hc k hl1).1
      have hc1 : wr.cell? ⟨b, off + k * 2, none⟩ = some (.int .i64 (dlAt l k).1) := (World.cell?_of_block (hM.block b hbl (fun h => h))).trans (hc k hl1).1
      have hc2 : wr.cell? ⟨b, off + k * 2 + 1, none⟩ = some (.int .i64 (dlAt l k).2) := (World.cell?_of_block (hM.block b hbl (fun h => h))).trans (hc k hl1).2
      clear hc
      have hz0' := hM.size
      have i1 : (0 : Int) ≤ (k : Int) := by omega
      have i2 : (k : Int) < (n : Int) := by omega
      generalize (dlAt l k).1 = by_ at *
      generalize (dlAt l k).2 = ti at *
      have HO := Lib.hid hown
      clear hown
      go_wp2_with fail
      cases hv : dlOk by_ ti with
      | false =>
        have HV := Lib.hid hv
        clear hv
        go_region_held3 (fun w' => w'.cell? ⟨b, off + k * 2, none⟩ = some (.int .i64 by_) ∧ w'.cell? ⟨b, off + k * 2 + 1, none⟩ = some (.int .i64 ti)) (exact ⟨hc1, hc2⟩) (first
          | (go_at_call 9; refine (mtrAdd_no _ _ _ _ HV.out).mono ?_; rintro e w3 ⟨rfl, rfl⟩))
        go_wp2_with fail
        go_roundw
        case rel => exact ⟨k + 1, L, A1, c1, by omega, by omega, by go_num, rfl, by omega, hm.drew, hq.drew, own_quiet HO.out (Mod.refl _ _).drew, hM.drew⟩
        case measure => simp [intOf]; omega
      | true =>
        have HV := Lib.hid hv
        clear hv
        go_region_held3 (fun w' => w'.cell? ⟨b, off + k * 2, none⟩ = some (.int .i64 by_) ∧ w'.cell? ⟨b, off + k * 2 + 1, none⟩ = some (.int .i64 ti)) (first | exact ⟨hc1, hc2⟩ | exact ⟨h31, h32⟩) (first
          | (go_at_call 9; refine (mtrAdd g1 _ _ L _ HV.out hm.drew).mono ?_; rintro e w3 ⟨rfl, hm3, hd3⟩; have hz3 := hd3.size; have h31 := (World.cell?_of_block (hd3.block b (by simp; omega) (by omega))).trans hc1; have h32 := (World.cell?_of_block (hd3.block b (by simp; omega) (by omega))).trans hc2))
        have hq3 := hq.drew.keep hd3 (by omega)
        have M3 := hM.drew.into hd3 (fun i e => .inr (by omega))
        have ho3 := own_beside (own_quiet HO.out (Mod.refl _ _).drew) hm.drew hd3 (by decide)
        have HO3 := Lib.hid ho3
        have y1 : L.length + 1 ≤ maxLen := by unfold maxLen; omega
        have y2 : (L.length + 1) * 16 ≤ 140737488355328 := by omega
        have y3 : w.heap.size ≤ (w3.alloc (.cells #[.int .i64 by_, .int .i64 ti] 32)).heap.size := by have := M3.size; simp; omega
        have HY := Lib.hid (And.intro y1 (And.intro y2 y3))
        have HM3 := Lib.hid (And.intro hm3 (And.intro hq3 M3))
        clear hm hq hM HO ho3 hc1 hc2 hd3 hz3 hm3 hq3 M3 y1 y2 y3
        go_wp2_with (at_builtin; have _t := HY; refine wpList_append_src _ rfl (.tmp 40) (.tmp 45) _ rfl w.heap.size 32 i0 _ 2 16 Try.underlying22 hi0 hz0 hz1 hz2 rfl (by omega) (.slice A1 L.length c1) L.length (dls L) rfl (HO3.out.alloc _) (some ⟨w3.heap.size, 0, none⟩) 1 1 (dls [(by_, ti)]) rfl (Src.new w3 32 (dls [(by_, ti)])) (fun h => by cases h) (dls_one _) HY.out.1 HY.out.2.1 HY.out.2.2 ?_; intro v4 w4 hown4 hg4 hat4; clear HY _t)
        obtain ⟨A4, m4, c4, rfl⟩ := own_form hown4
        obtain rfl : m4 = L.length + 1 := (Src.of_own hown4).1
        have M4 : Mod (fun k => (Value.slice A1 L.length c1).ownBlock = some k) w3 w4 := ((Mod.refl _ _).alloc _).grown hg4 (fun k hk => .inl hk)
        obtain ⟨hm3, hq3, M3⟩ := HM3.out
        have n1 : ∀ (g : Nat) (L' : List Dl), MeterIs w3 g L' → ¬ (Value.slice A1 L.length c1).ownBlock = some g := fun g L' h e => by
          obtain ⟨_, x, _, hb⟩ := h
          exact own_ne_blk HO3.out hb (by decide) e
        have hm4 := hm3.keep M4 (n1 _ _ hm3)
        have hq4 := hq3.keep M4 (n1 _ _ hq3)
        have M5 : Mod (fun _ => False) w w4 := M3.into M4 (fun i e => .inr (HO3.out.lt i e).1)
        go_roundw
        case rel => exact ⟨k + 1, L ++ [(by_, ti)], A4, c4, by omega, by omega, by go_num, by rw [List.length_append]; rfl, by rw [List.length_append, List.length_singleton]; omega, hm4, hq4, by rw [dls_append, List.length_append]; exact hown4, M5⟩
        case measure => simp [intOf]; omega
    · have hx : decide (k < n) = false ∨ decide (k < n) = true ∧ decide ((k : Int) < 200) = false := by
        by_cases h1 : k < n
        · exact .inr ⟨by simpa using h1, by simp; omega⟩
        · exact .inl (by simpa using h1)
      clear hlt
      have HH := Lib.hid (And.intro hm (And.intro hq (And.intro hown hM)))
      clear hm hq hown hM
      by_cases hs0 : s < 1
      · have s1 : decide (s < 1) = true := by simpa using hs0
        rcases hx with hx | ⟨hx, hx2⟩
        all_goals
          go_wp2_with fail
          refine (alive22 _).mono ?_
          rintro e w3 ⟨rfl, hm3⟩
          obtain ⟨hm, _, _, hM⟩ := HH.out
          have c1 := mtrRate g1 s _ _ (hm.keep hm3 (fun h => h))
          rw [show rate L s = 0 from if_pos (by omega)] at c1
          have M3 := hM.trans hm3
          clear hm hM hm3
          go_wp2_with fail
          refine c1.mono ?_
          clear c1
          rintro e w4 ⟨rfl, hm4⟩
          have M4 := M3.trans hm4
          clear M3 hm4
          go_wp2_with fail
          go_ret
          exact ⟨rfl, M4.below (fun _ h => h.elim)⟩
      · have s1 : decide (s < 1) = false := by simpa using hs0
        by_cases hs2 : 1048576 < s
        · have s2 : decide (1048576 < s) = true := by simpa using hs2
          rcases hx with hx | ⟨hx, hx2⟩
          all_goals
            go_wp2_with fail
            refine (alive22 _).mono ?_
            rintro e w3 ⟨rfl, hm3⟩
            obtain ⟨hm, _, _, hM⟩ := HH.out
            have c1 := mtrRate g1 s _ _ (hm.keep hm3 (fun h => h))
            rw [show rate L s = 0 from if_pos (by omega)] at c1
            have M3 := hM.trans hm3
            clear hm hM hm3
            go_wp2_with fail
            refine c1.mono ?_
            clear c1
            rintro e w4 ⟨rfl, hm4⟩
            have M4 := M3.trans hm4
            clear M3 hm4
            go_wp2_with fail
            go_ret
            exact ⟨rfl, M4.below (fun _ h => h.elim)⟩
        · have s2 : decide (1048576 < s) = false := by simpa using hs2
          by_cases hL0 : L.length = 0
          · have l1 : ((L.length : Int) == 0) = true := beq_iff_eq.2 (by omega)
            have l2 : (L.length == 0) = true := beq_iff_eq.2 (by omega)
            rcases hx with hx | ⟨hx, hx2⟩
            all_goals
              go_wp2_with fail
              refine (alive22 _).mono ?_
              rintro e w3 ⟨rfl, hm3⟩
              obtain ⟨hm, _, _, hM⟩ := HH.out
              have c1 := mtrRate g1 s _ _ (hm.keep hm3 (fun h => h))
              rw [show rate L s = 0 from if_pos (by omega)] at c1
              have M3 := hM.trans hm3
              clear hm hM hm3
              go_wp2_with fail
              refine c1.mono ?_
              clear c1
              rintro e w4 ⟨rfl, hm4⟩
              have M4 := M3.trans hm4
              clear M3 hm4
              go_wp2_with fail
              go_ret
              exact ⟨rfl, M4.below (fun _ h => h.elim)⟩
          · have l1 : ((L.length : Int) == 0) = false := beq_eq_false_iff_ne.2 (by omega)
            have l2 : (L.length == 0) = false := beq_eq_false_iff_ne.2 (by omega)
            obtain ⟨j0, hj0, hj00, hj1, hj2⟩ := info_parts int_info
            obtain ⟨f, hf⟩ : ∃ f, f = first L := ⟨_, rfl⟩
            have hf4 : f ≤ L.length ∧ L.length ≤ f + 4 := by unfold first at hf; omega
            have hstart : (L.length : Int) - 4 < 0 ∧ f = 0 ∨ 0 ≤ (L.length : Int) - 4 ∧ f + 4 = L.length := by unfold first at hf; omega
            have HF := Lib.hid hf
            clear hf
            rcases hx with hx | ⟨hx, hx2⟩ <;> rcases hstart with ⟨st1, st2⟩ | ⟨st1, st2⟩
            all_goals
              have HST := Lib.hid st2
              clear st2
              go_wp2_with fail
              go_loopw [7, 10, 11, 12] (BetRel2 L s f g1 g2 A1 c1 w) (fun _ _ _ i _ => L.length - (intOf i).toNat)
              case atStart =>
                obtain ⟨hm, hq, hown, hM⟩ := HH.out
                exact ⟨0, f, none, 0, [], rfl, hf4.1, val_i (by have := HST.out; omega), rfl, World.ownsRow_nil _ _ _ _, rfl, rfl, hm, hq, hown, hM⟩
              case round =>
                obtain ⟨j, q, A2, c2, xs, hqj, hql, rfl, rfl, hox, rfl, rfl, hm, hq, hown, hM⟩ := hrel
                have HQ := Lib.hid hqj
                have hqb : q ≤ f + j ∧ f + j ≤ q := by omega
                clear hqj HH HST
                have hLok := hm.1
                have lb := lowTo_bd L s f hLok (by omega) j (by omega)
                have hb_ := highTo_bd L s f hLok (by omega) j (by omega)
                by_cases hqlt : q < L.length
                · obtain ⟨r, cap, hrv, _, _⟩ := hown.form (by omega)
                  injection hrv with hrv1 _ hrv3
                  subst hrv1
                  have hrn2 := row_ne hown hq (by decide)
                  have hcap : L.length ≤ c1 := by
                    rcases hown.2 with ⟨hv, h0⟩ | ⟨_, _, _, hv, _, _, h, _⟩
                    · omega
                    · injection hv with _ _ h3; omega
                  obtain ⟨rc1, rc2⟩ := dls_at L q hqlt
                  have hadd : ∀ j, (⟨r, 0, none⟩ : Addr).add j = ⟨r, j, none⟩ := fun j => by unfold Addr.add; split <;> simp_all
                  have e1 := hown.cells (g := r) rfl _ _ rc1
                  have e2 := hown.cells (g := r) rfl _ _ rc2
                  rw [hadd, Nat.mul_comm 2 q] at e1 e2
                  have hrl := World.block_lt_of_cell? wr _ e1
                  have hd := dlAt_ok hLok hqlt
                  have HD := Lib.hid hd
                  unfold dlOk at hd
                  simp only [decide_eq_true_eq] at hd
                  obtain ⟨d1, d2, d3, d4⟩ := hd
                  have hp := prod_bd (dlAt L q).1 s ⟨d1, d2⟩ (by omega)
                  have hqq := quo_bd (dlAt L q).1 s (dlAt L q).2 ⟨d1, d2⟩ (by omega) d3
                  have i1 : (0 : Int) ≤ (q : Int) := by omega
                  have i2 : (q : Int) < (L.length : Int) := by omega
                  have HX := Lib.hid hox
                  have HW := Lib.hid hown
                  have HSP : Hid (speed s (dlAt L q) = max ((dlAt L q).1 * s / (dlAt L q).2) 1) := rfl
                  have HTK : Hid ((L.drop f).take (j + 1) = (L.drop f).take j ++ [((dlAt L q).1, (dlAt L q).2)]) := by have := take_next L f j (by omega); rw [HQ.out] at this; exact this
                  have HLO : Hid (lowTo L s f (j + 1) = min (lowTo L s f j) (speed s (dlAt L q))) := by show min _ (speed s (dlAt L (f + j))) = _; rw [HQ.out]
                  have HHI : Hid (highTo L s f (j + 1) = max (highTo L s f j) (speed s (dlAt L q))) := by show max _ (speed s (dlAt L (f + j))) = _; rw [HQ.out]
                  clear hox hown hadd rc1 rc2 hrv3
                  generalize speed s (dlAt L q) = sp at *
                  generalize (dlAt L q).1 = by_ at *
                  generalize (dlAt L q).2 = ti at *
                  go_wp2_with fail
                  go_region_held3 (fun w' => w'.cell? ⟨r, q * 2, none⟩ = some (.int .i64 by_) ∧ w'.cell? ⟨r, q * 2 + 1, none⟩ = some (.int .i64 ti)) (first | exact ⟨e1, e2⟩ | exact ⟨h31, h32⟩) (first
                    | (go_at_call 9; refine (mtrAdd g2 _ _ _ _ HD.out hq.drew).mono ?_; rintro e w3 ⟨rfl, hq3, hd3⟩; have hz3 := hd3.size; have h31 := (World.cell?_of_block (hd3.block r (by simp; omega) hrn2)).trans e1; have h32 := (World.cell?_of_block (hd3.block r (by simp; omega) hrn2)).trans e2))
                  have hm3 := hm.drew.keep hd3 (fun e => hne e.symm)
                  have M3 := hM.drew.into hd3 (fun i e => .inr (by omega))
                  have ho3 := own_beside (own_quiet HW.out (Mod.refl _ _).drew) hq.drew hd3 (by decide)
                  have hx3 := own_beside (own_quiet HX.out (Mod.refl _ _).drew) hq.drew hd3 (by decide)
                  rw [← HTK.out] at hq3
                  have HX3 := Lib.hid hx3
                  have H3 := Lib.hid (And.intro hm3 (And.intro hq3 (And.intro ho3 M3)))
                  clear hm hq hM HW HX ho3 hx3 hd3 hz3 hm3 hq3 M3 e1 e2
                  go_wp2_with fail
                  go_quiet (fail)
                  rw [show (if by_ * s / ti < 1 then (1 : Int) else by_ * s / ti) = sp by rw [HSP.out]; split <;> omega]
                  have y1 : j + 1 ≤ maxLen := by unfold maxLen; omega
                  have y2 : (j + 1) * 8 ≤ 140737488355328 := by omega
                  have y3 : w.heap.size ≤ ((w3.drewN nq).alloc (.cells #[.int .i64 sp] 3)).heap.size := by have := H3.out.2.2.2.size; simp; omega
                  have HY := Lib.hid (And.intro y1 (And.intro y2 y3))
                  have ho4 : (w3.drewN nq).ownsRow w.heap.size 3 1 (.slice A2 j c2) j xs := own_quiet HX3.out ((Mod.refl _ _).drewN _)
                  have HX4 := Lib.hid ho4
                  clear y1 y2 y3 ho4 hp
                  go_wp2_with (at_builtin; have _t := HY; refine wpList_append_src _ rfl (.tmp 101) (.tmp 103) _ rfl w.heap.size 3 j0 _ 1 8 Try.underlying36 hj0 hj00 hj1 hj2 rfl (by omega) (.slice A2 j c2) j xs rfl (HX4.out.alloc _) (some ⟨w3.heap.size, 0, none⟩) 1 1 [.int .i64 sp] rfl (Src.new (w3.drewN nq) 3 [.int .i64 sp]) (fun h => by cases h) (fun u hu => by rw [List.mem_singleton.1 hu]; rfl) HY.out.1 HY.out.2.1 HY.out.2.2 ?_; intro v4 w4 hown4 hg4 hat4; clear HY _t; obtain ⟨A4, m4, c4, rfl⟩ := own_form hown4; obtain rfl : m4 = j + 1 := (Src.of_own hown4).1)
                  all_goals
                    have M4 : Mod (fun k => (Value.slice A2 j c2).ownBlock = some k) w3 w4 := (((Mod.refl _ _).drewN _).alloc _).grown hg4 (fun k hk => .inl hk)
                    obtain ⟨hm3, hq3, ho3, M3⟩ := H3.out
                    have n1 : ∀ (g : Nat) (L' : List Dl), MeterIs w3 g L' → ¬ (Value.slice A2 j c2).ownBlock = some g := fun g L' h e => by
                      obtain ⟨_, x, _, hb⟩ := h
                      exact own_ne_blk HX3.out hb (by decide) e
                    have hm4 := hm3.keep M4 (n1 _ _ hm3)
                    have hq4 := hq3.keep M4 (n1 _ _ hq3)
                    have ho4 : w4.ownsRow w.heap.size 32 2 (.slice (some ⟨r, 0, none⟩) L.length c1) L.length (dls L) := own_mod ho3 M4 (fun k hk e => by
                      obtain rfl : r = k := by simpa [Value.ownBlock] using hk
                      rcases ho3.2 with ⟨hv, _⟩ | ⟨g', _, cur, hv, _, hh, _⟩
                      · cases hv
                      · obtain rfl : r = g' := by injection hv with h1; injection h1 with h1; injection h1
                        exact own_ne_blk (cs := cur) HX3.out hh (by decide) e)
                    have M5 : Mod (fun _ => False) w w4 := M3.into M4 (fun i e => .inr (HX3.out.lt i e).1)
                    go_roundw
                    case rel => exact ⟨j + 1, q + 1, A4, c4, _, by have := HQ.out; omega, by omega, by go_num, rfl, hown4, val_i (by rw [HLO.out]; omega), val_i (by rw [HHI.out]; omega), hm4, hq4, ho4, M5⟩
                    case measure => simp [intOf]; omega
                · have hjl : j = L.length - f := by omega
                  have hj0' : 0 < j := by unfold first at HF; have := HF.out; omega
                  have HR : Hid (rate L s = (j : Int) * 1099511627776 / weighTo L s f j) := by
                    have e := HF.out
                    subst e
                    rw [hjl]
                    exact if_neg (by omega)
                  have hlow : lowTo L s f j ≤ rate L s := by rw [HR.out]; exact between_low L s f hLok (by omega) j (by omega) hj0'
                  have hhigh : highTo L s f j < 1048576 → rate L s ≤ highTo L s f j + highTo L s f j / 1000 + 1 := fun h => by rw [HR.out]; exact between_high L s f hLok (by omega) j (by omega) hj0' h
                  have HT : Hid (rate ((L.drop f).take j) s = rate L s) := by
                    rw [List.take_of_length_le (by simp; omega)]
                    rw [HF.out]
                    exact rate_last L s
                  have hj4 : j ≤ 4 := by omega
                  clear hjl hj0' HR
                  go_wp2_with fail
                  refine (mtrRate g1 s _ _ hm).mono ?_
                  rintro e w3 ⟨rfl, hm3⟩
                  have hq3 := hq.keep hm3 (fun h => h)
                  have M3 := hM.trans hm3
                  clear hm hq hM hm3 hown hox
                  by_cases hbig : 1048576 ≤ highTo L s f j
                  · have b1 : decide (1048576 ≤ highTo L s f j) = true := by simpa using hbig
                    clear hhigh hlow
                    go_wp2_with fail
                    refine (alive22 _).mono ?_
                    rintro e w4 ⟨rfl, hm4⟩
                    have hq4 := hq3.keep hm4 (fun h => h)
                    have M4 := M3.trans hm4
                    clear hq3 M3 hm4
                    go_wp2_with fail
                    have c2 := mtrRate g2 s _ _ hq4
                    rw [HT.out] at c2
                    refine c2.mono ?_
                    clear c2
                    rintro e w5 ⟨rfl, hm5⟩
                    have M5 := M4.trans hm5
                    clear hq4 M4 hm5
                    go_wp2_with fail
                    go_ret
                    exact ⟨rfl, M5.below (fun _ h => h.elim)⟩
                  · have b1 : decide (1048576 ≤ highTo L s f j) = false := by simpa using hbig
                    have hh := hhigh (by omega)
                    have b2 : decide (lowTo L s f j ≤ rate L s) = true := by simpa using hlow
                    have b3 : decide (rate L s ≤ highTo L s f j + highTo L s f j / 1000 + 1) = true := by simpa using hh
                    have b4 : decide ((j : Int) ≤ 4) = true := by simp; omega
                    clear hhigh
                    go_wp2_with fail
                    refine (alive22 _).mono ?_
                    rintro e w4 ⟨rfl, hm4⟩
                    have hq4 := hq3.keep hm4 (fun h => h)
                    have M4 := M3.trans hm4
                    clear hq3 M3 hm4
                    go_wp2_with fail
                    have c2 := mtrRate g2 s _ _ hq4
                    rw [HT.out] at c2
                    refine c2.mono ?_
                    clear c2
                    rintro e w5 ⟨rfl, hm5⟩
                    have M5 := M4.trans hm5
                    clear hq4 M4 hm5
                    go_wp2_with fail
                    go_ret
                    exact ⟨rfl, M5.below (fun _ h => h.elim)⟩
end Go.Proofs.Ytaflmnnnmbklfaa
