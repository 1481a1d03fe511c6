/-
  quant.each with quant.Value: quant.Fine.
-/
import Derived.Test.YteppnjgfebcmjaaGreatM2
namespace Go.Proofs.YteppnjgfebcmjaaGreat
open Go.RowKit

def fineAt (l : List Int) (q : Int) (i : Nat) : Int := l.getD i 0 * stepOf q ((i % sideOf l.length : Nat) : Int) ((i / sideOf l.length : Nat) : Int)
def fineL (l : List Int) (q : Int) : List Int := (List.range l.length).map (fineAt l q)
/-- What levels stand for. -/
def qFine (l : List Int) (q : Int) : Option (List Int) := if allB 67108864 l = true ∧ (0 ≤ q ∧ q ≤ 31) ∧ ∀ i < l.length, inB 67108864 (fineAt l q i) = true then some (fineL l q) else none
def pcL (l : List Int) (q : Int) (k : Nat) : List Int := (List.range l.length).map fun i => if i < k then fineAt l q i else 0
theorem pcL_zero (l : List Int) (q : Int) : pcL l q 0 = List.replicate l.length 0 := by
  unfold pcL
  apply List.ext_getElem
  · simp
  · intro i h1 h2; simp
theorem pcL_all (l : List Int) (q : Int) : pcL l q l.length = fineL l q := by
  unfold pcL fineL
  refine List.map_congr_left fun i hi => ?_
  rw [if_pos (List.mem_range.1 hi)]
theorem pcL_set (l : List Int) (q : Int) (k : Nat) : (pcL l q k).set k (fineAt l q k) = pcL l q (k + 1) := by
  unfold pcL
  apply List.ext_getElem
  · simp
  · intro i h1 h2
    rw [List.getElem_set]
    simp only [List.getElem_map, List.getElem_range]
    by_cases e : k = i
    · subst e; rw [if_pos rfl, if_pos (by omega)]
    · rw [if_neg e]
      by_cases e2 : i < k
      · rw [if_pos e2, if_pos (by omega)]
      · rw [if_neg e2, if_neg (by omega)]
theorem pcL_length (l : List Int) (q : Int) (k : Nat) : (pcL l q k).length = l.length := by simp [pcL]
theorem side_cases {n : Nat} (h : sideOf n ≠ 0) : (n = 16 ∧ sideOf n = 4) ∨ (n = 64 ∧ sideOf n = 8) := by
  unfold sideOf at h ⊢
  by_cases h1 : n = 16
  · left; simp [h1]
  · rw [if_neg h1] at h ⊢
    by_cases h2 : n = 64
    · right; simp [h2]
    · rw [if_neg h2] at h; exact absurd rfl h
theorem allB_parts {m : Int} {l : List Int} (h : allB m l = true) : sideOf l.length ≠ 0 ∧ ∀ j < l.length, inB m (l.getD j 0) = true := by
  unfold allB at h
  rw [Bool.and_eq_true, decide_eq_true_eq, List.all_eq_true] at h
  refine ⟨h.1, fun j hj => ?_⟩
  rw [List.getD_eq_getElem?_getD, List.getElem?_eq_getElem hj]
  exact h.2 _ (List.getElem_mem hj)

def FinePost (w : World) (l : List Int) (q : Int) (e : Ending) (w' : World) : Prop :=
  Mod (fun _ => False) w w' ∧ ((qFine l q = none ∧ e = .returned (.tuple #[.slice none 0 0, .int .i64 1])) ∨ ∃ v, qFine l q = some (fineL l q) ∧ e = .returned (.tuple #[v, .int .i64 0]) ∧ IntsOwn w' w.heap.size v (fineL l q))

theorem made_int (n : Nat) : (madeCells (Value.cells (.int .i64 0)) n).toList = i64s (List.replicate n 0) := by
  apply List.ext_getElem
  · simp [size_madeCells, i64s]
  · intro i h1 h2
    simp [madeCells, i64s, Value.cells, Nat.mod_one]
theorem i64s_set (l : List Int) (k : Nat) (v : Int) : i64s (l.set k v) = (i64s l).set k (.int .i64 v) := by simp [i64s, List.map_set]
theorem mul_bd (v st : Int) (v1 : -67108864 ≤ v) (v2 : v ≤ 67108864) (s1 : 1 ≤ st) (s2 : st ≤ 1008) : -67645734912 ≤ v * st ∧ v * st ≤ 67645734912 := by
  have a := Int.mul_le_mul_of_nonneg_right v2 (show 0 ≤ st by omega)
  have b := Int.mul_le_mul_of_nonneg_right v1 (show 0 ≤ st by omega)
  omega
def EachRel (w4 : World) (ob : Nat) (l : List Int) (q : Int) (i : Value) (wr : World) : Prop :=
  ∃ k : Nat, k ≤ l.length ∧ i = .int .i64 k ∧ (∀ j < k, inB 67108864 (fineAt l q j) = true) ∧ (0 < k → 0 ≤ q ∧ q ≤ 31) ∧ Blk wr ob 3 (i64s (pcL l q k)).toArray ∧ Mod (· = ob) w4 wr
theorem quiet_step_yes (w : World) (q x y : Int) (h : stepOk q x y = true) (n : Nat) : Calls Tryz.prog 127 #[.int .i64 q, .int .i64 x, .int .i64 y] (w.drewN n) fun e w' => e = .returned (.tuple #[.int .i64 (stepOf q x y), .int .i64 0]) ∧ w' = w.drewN n := (quantStep_yes _ q x y h).mono fun _ _ hh => ⟨hh.1, hh.2.symm⟩
theorem quiet_step_no (w : World) (q x y : Int) (h : stepOk q x y = false) (n : Nat) : Calls Tryz.prog 127 #[.int .i64 q, .int .i64 x, .int .i64 y] (w.drewN n) fun e w' => e = .returned (.tuple #[.int .i64 0, .int .i64 1]) ∧ w' = w.drewN n := (quantStep_no _ q x y h).mono fun _ _ hh => ⟨hh.1, hh.2.symm⟩

set_option maxRecDepth 100000 in
set_option maxHeartbeats 4000000 in
theorem quantEach (w : World) (A : Option Addr) (n c : Nat) (l : List Int) (q : Int) (hin : IntsIn w A n c l) (hn : n ≤ 1048576) :
    Calls Tryz.prog 80 #[.slice A n c, .int .i64 q, .func (.func 81) #[] #[]] w (FinePost w l q) := by
  obtain ⟨i0, hi0, hz0, hz1, hz2⟩ := info_parts int_info
  obtain rfl : l.length = n := hin.1
  have HIN := Lib.hid hin
  clear hin
  go_enter Tryz.func80, Tryz.ntmps80
  go_wp2_with fail
  refine (quantWithin _ 67108864).mono ?_
  rintro e w1 ⟨rfl, hb1, m1⟩
  obtain ⟨bb, hbb⟩ : ∃ bb, bb = w.heap.size := ⟨_, rfl⟩
  rw [← hbb] at hb1 ⊢
  have hbw : w.heap.size ≤ bb := by omega
  clear hbb
  go_wp2_with fail
  refine (quantAll _ A l.length c bb l 67108864 (HIN.out.quiet m1) hn (by omega) hb1).mono ?_
  rintro e w2 ⟨rfl, rfl⟩
  cases hall : allB 67108864 l with
  | false =>
    have HQ : Hid (qFine l q = none) := if_neg (fun h => by rw [hall] at h; cases h.1)
    clear hall hb1
    go_wp2_with fail
    go_ret2
    exact ⟨m1, .inl ⟨HQ.out, rfl⟩⟩
  | true =>
    obtain ⟨hsn, hins⟩ := allB_parts hall
    have hsc := side_cases hsn
    have HALL := Lib.hid (And.intro hall hins)
    clear hall hins
    go_wp2_with fail
    refine (quantSide _ l.length (by omega)).mono ?_
    rintro e w3 ⟨rfl, rfl⟩
    obtain ⟨s, hs⟩ : ∃ s, s = sideOf l.length := ⟨_, rfl⟩
    rw [← hs] at hsn hsc ⊢
    have HS := Lib.hid hs
    clear hs
    have hl0 : 16 ≤ l.length ∧ l.length ≤ 64 := by omega
    have hs8 : 4 ≤ s ∧ s ≤ 8 := by omega
    have hls : l.length ≤ 8 * s ∧ l.length ≤ s * s := by rcases hsc with ⟨e1, e2⟩ | ⟨e1, e2⟩ <;> rw [e1, e2] <;> decide
    clear hsc hsn
    have x1 : i0.bytes * l.length ≤ 281474976710656 := by rw [hz2]; omega
    have x2 : l.length ≤ maxLen := by unfold maxLen; omega
    have HX := Lib.hid (And.intro x1 x2)
    clear x1 x2
    go_upto_region 6 with (with_reducible refine wpList_make_full _ rfl (.tmp 24) (.tmp 24) _ rfl w1.heap.size 3 i0 (.int .i64 0) 1 Tryz.underlying48 hi0 hz0 hz1 _ _ _ _ l.length rfl rfl rfl rfl HX.out.1 HX.out.2 (Nat.le_refl _) ?_; intro w4 hown4 hg4; have HO := Lib.hid (And.intro hown4 hg4); clear hown4 hg4)
    have m4 : Mod (fun _ => False) w1 w4 := (Mod.refl _ _).grown HO.out.2 (fun k hk => by cases hk)
    obtain ⟨hob, _⟩ := own_whole HO.out.1
    rw [Nat.mul_one, made_int, ← pcL_zero l q] at hob
    obtain ⟨ob, hobe⟩ : ∃ ob, ob = w1.heap.size := ⟨_, rfl⟩
    rw [← hobe] at hob ⊢
    have hbl := hb1.lt
    have hbo : ¬ bb = ob := by omega
    have how : w.heap.size ≤ ob := by have := m1.size; omega
    have hb4 := hb1.keep m4 (fun h => h)
    have M4 := m1.trans m4
    have hin4 := HIN.out.quiet M4
    have hlen := HIN.out.2.2.2 (by omega)
    clear HO m1 m4 hb1 hobe
    obtain ⟨b, off, hA, _, hc⟩ := hin4.place (by omega)
    subst hA
    have hbw2 : b < w.heap.size := hlen _ rfl
    have HC := Lib.hid hc
    clear hc hin4 hlen
    go_wp2_with fail
    go_loopw [28] (EachRel w4 ob l q) (fun i _ => l.length - (intOf i).toNat)
    case atStart => exact ⟨0, by omega, rfl, (fun j hj => by omega), (fun h => by omega), hob, Mod.refl _ _⟩
    case round =>
      clear hob
      obtain ⟨k, hk, rfl, hpre, hqk, hob, hM⟩ := hrel
      have HPRE := Lib.hid (And.intro hpre hqk)
      clear hpre hqk
      by_cases hlt : k < l.length
      · have hck : wr.cell? ⟨b, off + k, none⟩ = some (.int .i64 (l.getD k 0)) := (World.cell?_of_block (hM.block b (World.block_lt_of_cell? _ _ (HC.out k hlt)) (by omega))).trans (HC.out k hlt)
        have hvin := HALL.out.2 k hlt
        have HFA : Hid (fineAt l q k = l.getD k 0 * stepOf q ((k % s : Nat) : Int) ((k / s : Nat) : Int)) := by show _ = _; unfold fineAt; rw [HS.out]
        generalize hvv : l.getD k 0 = v at *
        clear hvv
        unfold inB at hvin
        simp only [decide_eq_true_eq] at hvin
        obtain ⟨v1, v2⟩ := hvin
        have i1 : (0 : Int) ≤ (k : Int) := by omega
        have i2 : (k : Int) < (l.length : Int) := by omega
        obtain ⟨kx, hkx⟩ : ∃ kx, kx = k % s := ⟨_, rfl⟩
        obtain ⟨ky, hky⟩ : ∃ ky, ky = k / s := ⟨_, rfl⟩
        have hks : kx < s := by rw [hkx]; exact Nat.mod_lt _ (by omega)
        have hkd : ky < s := by rw [hky]; exact Nat.div_lt_of_lt_mul (by omega)
        have t1 : ((k : Int).tmod (s : Int)) = (kx : Int) := by rw [Int.tmod_eq_emod_of_nonneg (by omega), hkx]; exact (Int.natCast_emod k s).symm
        have t2 : ((k : Int).tdiv (s : Int)) = (ky : Int) := by rw [Int.tdiv_eq_ediv_of_nonneg (by omega), hky]; exact (Int.natCast_ediv k s).symm
        have t3 : ((k : Int) % (s : Int)) = (kx : Int) := by rw [hkx]; exact (Int.natCast_emod k s).symm
        have t4 : ((k : Int) / (s : Int)) = (ky : Int) := by rw [hky]; exact (Int.natCast_ediv k s).symm
        have hs0 : ((s : Int) == 0) = false := beq_eq_false_iff_ne.2 (by omega)
        rw [← hkx, ← hky] at HFA
        have HT := Lib.hid (And.intro t1 (And.intro t2 (And.intro t3 t4)))
        clear hkx hky t1 t2 t3 t4
        by_cases hq : 0 ≤ q ∧ q ≤ 31
        · have hok : stepOk q (kx : Int) (ky : Int) = true := by unfold stepOk; rw [decide_eq_true_eq]; omega
          go_upto_region 9 with (fail)
          obtain ⟨t1, t2, t3, t4⟩ := HT.out
          go_quiet ((go_at_call 127; exact Calls.quiet_of_same (quiet_step_yes _ q kx ky hok _)))
          clear t1 t2 t3 t4
          have hbd := step_bd q kx ky hok
          obtain ⟨_, st1, st2, _⟩ := hbd
          obtain ⟨st, hst⟩ : ∃ st, st = stepOf q kx ky := ⟨_, rfl⟩
          rw [← hst] at st1 st2 HFA ⊢
          clear hst hok HT hck
          have hpb := mul_bd v st v1 v2 st1 st2
          have hob2 := hob.drewN nq
          have hM2 := hM.drewN nq
          have hb5 := (hb4.keep hM hbo).drewN nq
          generalize wr.drewN nq = w5 at *
          clear hob hM
          go_wp2_with fail
          refine (quantValue _ v st (by omega) (by omega)).mono ?_
          rintro e w6 ⟨rfl, rfl⟩
          obtain ⟨pr, hpr⟩ : ∃ pr, pr = v * st := ⟨_, rfl⟩
          rw [← hpr] at hpb HFA ⊢
          clear hpr
          have hoc : w5.cell? ⟨ob, k, none⟩ = some (.int .i64 ((pcL l q k).getD k 0)) := by rw [hob2.cell k]; simp [i64s, pcL_length, hlt]
          have hof := hob2.frozen k
          have hob3 : Blk (w5.setCell ⟨ob, k, none⟩ (.int .i64 pr)) ob 3 (i64s (pcL l q (k + 1))).toArray := hob2.put (by rw [← pcL_set, HFA.out, i64s_set]; simp)
          have hM3 : Mod (· = ob) w4 (w5.setCell ⟨ob, k, none⟩ (.int .i64 pr)) := hM2.setCell (p := ⟨ob, k, none⟩) (.inl rfl) _
          have hb6 : Blk (w5.setCell ⟨ob, k, none⟩ (.int .i64 pr)) bb 3 #[.int .i64 67108864] := hb5.far hbo _
          have HB := Lib.hid (And.intro hob3 (And.intro hM3 hb6))
          clear hob2 hM2 hb5 hob3 hM3 hb6
          generalize (pcL l q k).getD k 0 = old at *
          cases hv : inB 67108864 pr with
          | true =>
            go_wp2_with fail
            refine (quantIn _ bb 67108864 pr (by omega) HB.out.2.2).mono ?_
            rintro e w7 ⟨rfl, rfl⟩
            rw [hv]
            have HV := Lib.hid hv
            clear hv hoc hof
            go_wp2_with fail
            go_roundw
            case rel =>
              refine ⟨k + 1, by omega, by go_num, fun j hj => ?_, fun _ => hq, HB.out.1, HB.out.2.1⟩
              by_cases e : j = k
              · subst e; rw [HFA.out]; exact HV.out
              · exact HPRE.out.1 j (by omega)
            case measure => simp [intOf]; omega
          | false =>
            have HQ : Hid (qFine l q = none) := if_neg (fun h => by have := h.2.2 k hlt; rw [HFA.out, hv] at this; cases this)
            go_wp2_with fail
            refine (quantIn _ bb 67108864 pr (by omega) HB.out.2.2).mono ?_
            rintro e w7 ⟨rfl, rfl⟩
            rw [hv]
            clear hv hoc hof
            go_wp2_with fail
            go_ret2
            exact ⟨M4.into HB.out.2.1 (fun i e => .inr (by omega)), .inl ⟨HQ.out, rfl⟩⟩
        · have hok : stepOk q (kx : Int) (ky : Int) = false := by unfold stepOk; rw [decide_eq_false_iff_not]; omega
          have HQ : Hid (qFine l q = none) := if_neg (fun h => hq h.2.1)
          go_upto_region 9 with (fail)
          obtain ⟨t1, t2, t3, t4⟩ := HT.out
          go_quiet ((go_at_call 127; exact Calls.quiet_of_same (quiet_step_no _ q kx ky hok _)))
          clear t1 t2 t3 t4
          go_wp2_with fail
          go_ret2
          exact ⟨(M4.into hM (fun i e => .inr (by omega))).drewN _, .inl ⟨HQ.out, rfl⟩⟩
      · obtain rfl : k = l.length := by omega
        have HQ : Hid (qFine l q = some (fineL l q)) := if_pos ⟨HALL.out.1, HPRE.out.2 (by omega), HPRE.out.1⟩
        have HB := Lib.hid (And.intro hob hM)
        clear hob hM
        go_wp2_with fail
        go_ret2
        refine ⟨M4.into HB.out.2 (fun i e => .inr (by omega)), .inr ⟨_, HQ.out, rfl, ?_⟩⟩
        have hob := HB.out.1
        rw [pcL_all] at hob
        have hfl : (fineL l q).length = l.length := by simp [fineL]
        unfold IntsOwn
        rw [hfl]
        exact ⟨by rw [i64s_length, hfl, Nat.mul_one], .inr ⟨ob, l.length, _, rfl, how, hob, Nat.le_refl _, HX.out.2, by simp [i64s_length, hfl], by rw [Nat.mul_one]; exact List.take_of_length_le (by simp [i64s_length, hfl])⟩⟩

set_option maxHeartbeats 1000000 in
theorem quantFine (w : World) (A : Option Addr) (n c : Nat) (l : List Int) (q : Int) (hin : IntsIn w A n c l) (hn : n ≤ 1048576) : Calls Tryz.prog 37 #[.slice A n c, .int .i64 q] w (FinePost w l q) := by
  go_enter Tryz.func37, Tryz.ntmps37
  go_wp2_with fail
  refine (quantEach _ A n c l q hin hn).mono ?_
  rintro e w1 ⟨hm, ⟨h1, rfl⟩ | ⟨v, h1, rfl, h2⟩⟩
  · have HQ := Lib.hid h1
    clear h1
    go_wp2_with fail
    go_ret2
    exact ⟨hm, .inl ⟨HQ.out, rfl⟩⟩
  · have HQ := Lib.hid (And.intro h1 h2)
    obtain ⟨A1, c1, hv⟩ := own_shape h2
    subst hv
    clear h1 h2
    go_wp2_with fail
    go_ret2
    exact ⟨hm, .inr ⟨_, HQ.out.1, rfl, HQ.out.2⟩⟩
end Go.Proofs.YteppnjgfebcmjaaGreat
