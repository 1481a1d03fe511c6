/-
  The reference's New of a book.
-/
import Derived.Test.YteppnjgfebcmjaaGreatM18
import Derived.Test.YteppnjgfebcmjaaGreatM10
import Derived.Test.YteppnjgfebcmjaaGreatM4
import Derived.Test.YteppnjgfebcmjaaGreatM11
namespace Go.Proofs.YteppnjgfebcmjaaGreat
open Go.RowKit

def fillM (m : Nat) : List Nat := List.replicate m 1024 ++ List.replicate (592 - m) 0
theorem fillM_length (m : Nat) (h : m ≤ 592) : (fillM m).length = 592 := by simp [fillM]; omega
theorem fillM_set (m : Nat) (h : m < 592) : (n64s (fillM m)).set m (.int .i64 ((1024 : Nat) : Int)) = n64s (fillM (m + 1)) := by
  apply List.ext_getElem
  · simp [n64s, fillM]; omega
  · intro i h1 h2
    have hi : i < 592 := by simp [n64s, fillM] at h2; omega
    rw [List.getElem_set]
    by_cases e : m = i
    · subst e
      simp [n64s, fillM]
    · rw [if_neg e]
      simp only [n64s, List.getElem_map, fillM, List.getElem_append, List.length_replicate, List.getElem_replicate]
      split <;> split <;> first | rfl | omega
theorem fillM_cell (m : Nat) (h : m < 592) : (n64s (fillM m)).toArray[m]? = some (.int .i64 0) := by
  have h1 : (fillM m)[m]? = some 0 := by
    unfold fillM
    rw [List.getElem?_append_right (by simp), List.length_replicate, Nat.sub_self, List.getElem?_replicate, if_pos (by omega)]
  simp [n64s, h1]
theorem fillM_le (m i : Nat) : (fillM m).getD i 0 ≤ 65535 := by
  rw [List.getD_eq_getElem?_getD]
  cases h : (fillM m)[i]? with
  | none => simp
  | some x =>
    have hm := List.mem_of_getElem? h
    unfold fillM at hm
    simp only [List.mem_append, List.mem_replicate] at hm
    simp only [Option.getD_some]
    omega
def FNewRel1 (w : World) (v : Value) (wr : World) : Prop := ∃ t : Nat, t ≤ 16 ∧ v = .int .i64 (t : Int) ∧ Blk wr w.heap.size 122 (n64s (fillM (t * 37))).toArray ∧ Mod (fun _ => False) w wr
def FNewRel2 (w : World) (t : Nat) (v : Value) (wr : World) : Prop := ∃ i : Nat, i ≤ 37 ∧ v = .int .i64 (i : Int) ∧ Blk wr w.heap.size 122 (n64s (fillM (t * 37 + i))).toArray ∧ Mod (fun _ => False) w wr
set_option maxRecDepth 100000 in
set_option maxHeartbeats 4000000 in
theorem fBookNew (w : World) : Calls Tryz.prog 31 #[] w fun e w' => ∃ b, e = .returned (.pointer (some ⟨b, 0, none⟩)) ∧ Blk w' b 122 (n64s (fillB 16)).toArray ∧ w.heap.size ≤ b ∧ Mod (fun _ => False) w w' := by
  have hz : Tryz.zeroCells122 = (n64s (fillM 0)).toArray := by kernel_rfl
  have HZ := Lib.hid hz
  clear hz
  have hb0 : Blk (w.alloc (.cells (n64s (fillM 0)).toArray 122)) w.heap.size 122 (n64s (fillM 0)).toArray := Blk.new _ _ _
  have m0 : Mod (fun _ => False) w (w.alloc (.cells (n64s (fillM 0)).toArray 122)) := (Mod.refl _ _).alloc _
  have HM := Lib.hid (And.intro hb0 m0)
  clear hb0 m0
  go_enter Tryz.func31, Tryz.ntmps31
  go_upto_region 2 with (fail)
  rw [HZ.out]
  generalize hw1 : w.alloc (.cells (n64s (fillM 0)).toArray 122) = w1 at *
  clear hw1
  go_wp2_with fail
  go_loopw [2, 3] (fun v _ wr => FNewRel1 w v wr) (fun i _ _ => 16 - (intOf i).toNat)
  case atStart => exact ⟨0, by omega, rfl, HM.out.1, HM.out.2⟩
  case round =>
    clear HM
    obtain ⟨t, ht, rfl, hb, hM⟩ := hrel
    have HB := Lib.hid (And.intro hb hM)
    clear hb hM
    by_cases hlt : t < 16
    · have d1 : decide ((t : Int) < 16) = true := decide_eq_true (by omega)
      go_wp2_with fail
      go_loopw [3] (FNewRel2 w t) (fun i _ => 37 - (intOf i).toNat)
      case atStart => exact ⟨0, by omega, rfl, HB.out.1, HB.out.2⟩
      case round =>
        clear HB
        rename World => w6
        obtain ⟨i, hi, rfl, hb, hM⟩ := hrel
        by_cases hli : i < 37
        · have d2 : decide ((i : Int) < 37) = true := decide_eq_true (by omega)
          have p0 : (0 : Int) ≤ (t : Int) := by omega
          have p1 : (t : Int) < 16 := by omega
          have p2 : (0 : Int) ≤ (i : Int) := by omega
          have p3 : (i : Int) < 37 := by omega
          have ck : w6.cell? ⟨w.heap.size, t * 37 + i, none⟩ = some (.int .i64 0) := (hb.cell _).trans (fillM_cell (t * 37 + i) (by omega))
          have fk := hb.frozen (t * 37 + i)
          have hl := hb.lt
          have HB := Lib.hid (And.intro hb hM)
          clear hb hM
          go_wp2_with fail
          go_roundw
          case rel => exact ⟨i + 1, by omega, by go_num, HB.out.1.put (by rw [← Nat.add_assoc]; simpa using fillM_set (t * 37 + i) (by omega)), HB.out.2.setCell (.inr (Nat.le_refl _)) _⟩
          case measure => simp [intOf]; omega
        · obtain rfl : i = 37 := by omega
          have HB := Lib.hid (And.intro hb hM)
          clear hb hM
          go_wp2_with fail
          go_roundw
          case rel => exact ⟨t + 1, by omega, by go_num, by rw [Nat.add_mul]; exact HB.out.1, HB.out.2⟩
          case measure => simp [intOf]; omega
    · obtain rfl : t = 16 := by omega
      go_wp2_with fail
      go_ret
      exact ⟨_, rfl, HB.out.1, Nat.le_refl _, HB.out.2⟩
end Go.Proofs.YteppnjgfebcmjaaGreat

/-
  make of a row of bytes or ints.
-/
namespace Go.Proofs.YteppnjgfebcmjaaGreat
open Go.RowKit

theorem madeU8 (n : Nat) : (madeCells (Value.cells (.int .u8 0)) n).toList = u8s (List.replicate n 0) := by
  apply List.ext_getElem
  · simp [size_madeCells, u8s, Value.cells]
  · intro i h1 h2
    simp [madeCells, u8s, Value.cells, Nat.mod_one]
theorem madeInt (n : Nat) : (madeCells (Value.cells (.int .i64 0)) n).toList = i64s (List.replicate n 0) := by
  apply List.ext_getElem
  · simp [size_madeCells, i64s, Value.cells]
  · intro i h1 h2
    simp [madeCells, i64s, Value.cells, Nat.mod_one]
theorem wpList_mk_u8 (w : World) {ops : Array Oper} {rest : List Oper} {o : Oper} {a : Act} {Q : Exit → Act → World → Prop} (hg : o.guard = none) (l c : Operand) (hop : o.op = Op.makeSlice 22 l c)
    (n : Nat) (hl : a.eval l = .int .i64 (n : Int)) (hc : a.eval c = .int .i64 (n : Int)) (hn : n ≤ 16777216)
    (hK : ∀ w', Blk w' w.heap.size 5 (u8s (List.replicate n 0)).toArray → Mod (fun _ => False) w w' → wpList Tryz.prog ops Q rest (a.put o.dst (.slice (some ⟨w.heap.size, 0, none⟩) n n)) w') : wpList Tryz.prog ops Q (o :: rest) a w := by
  obtain ⟨i0, hi0, hz0, hz1, hz2⟩ := info_parts u8_info
  refine wpList_make_full _ hg l c _ hop w.heap.size 5 i0 (.int .u8 0) 1 Tryz.underlying22 hi0 hz0 hz1 _ _ _ _ n hl hc rfl rfl (by rw [hz2]; omega) (by unfold maxLen; omega) (Nat.le_refl _) ?_
  intro w' h1 h2
  have h3 := (own_whole h1).1
  rw [Nat.mul_one, madeU8] at h3
  exact hK w' h3 ((Mod.refl _ _).grown h2 (fun k hk => by cases hk))
theorem wpList_mk_int (w : World) {ops : Array Oper} {rest : List Oper} {o : Oper} {a : Act} {Q : Exit → Act → World → Prop} (hg : o.guard = none) (l c : Operand) (hop : o.op = Op.makeSlice 48 l c)
    (n : Nat) (hl : a.eval l = .int .i64 (n : Int)) (hc : a.eval c = .int .i64 (n : Int)) (hn : n ≤ 16777216)
    (hK : ∀ w', Blk w' w.heap.size 3 (i64s (List.replicate n 0)).toArray → Mod (fun _ => False) w w' → wpList Tryz.prog ops Q rest (a.put o.dst (.slice (some ⟨w.heap.size, 0, none⟩) n n)) w') : wpList Tryz.prog ops Q (o :: rest) a w := by
  obtain ⟨i0, hi0, hz0, hz1, hz2⟩ := info_parts int_info
  refine wpList_make_full _ hg l c _ hop w.heap.size 3 i0 (.int .i64 0) 1 Tryz.underlying48 hi0 hz0 hz1 _ _ _ _ n hl hc rfl rfl (by rw [hz2]; omega) (by unfold maxLen; omega) (Nat.le_refl _) ?_
  intro w' h1 h2
  have h3 := (own_whole h1).1
  rw [Nat.mul_one, madeInt] at h3
  exact hK w' h3 ((Mod.refl _ _).grown h2 (fun k hk => by cases hk))
theorem wpList_mk_int0 (w : World) {ops : Array Oper} {rest : List Oper} {o : Oper} {a : Act} {Q : Exit → Act → World → Prop} (hg : o.guard = none) (l c : Operand) (hop : o.op = Op.makeSlice 48 l c)
    (n : Nat) (hl : a.eval l = .int .i64 0) (hc : a.eval c = .int .i64 (n : Int)) (hn : n ≤ 16777216)
    (hK : ∀ w', IntsOwn w' w.heap.size (.slice (some ⟨w.heap.size, 0, none⟩) 0 n) [] → Mod (fun _ => False) w w' → wpList Tryz.prog ops Q rest (a.put o.dst (.slice (some ⟨w.heap.size, 0, none⟩) 0 n)) w') : wpList Tryz.prog ops Q (o :: rest) a w := by
  obtain ⟨i0, hi0, hz0, hz1, hz2⟩ := info_parts int_info
  refine wpList_make_own _ hg l c _ hop w.heap.size 3 i0 (.int .i64 0) 1 Tryz.underlying48 hi0 hz0 hz1 _ _ _ n hl hc rfl (by rw [hz2]; omega) (by unfold maxLen; omega) (Nat.le_refl _) ?_
  intro w' h1 h2
  exact hK w' h1 ((Mod.refl _ _).grown h2 (fun k hk => by cases hk))
end Go.Proofs.YteppnjgfebcmjaaGreat

/-
  plane: sides, Right, nearest, At.
-/
namespace Go.Proofs.YteppnjgfebcmjaaGreat
open Go.RowKit

def sidesB (W H : Nat) : Bool := decide (1 ≤ W ∧ W ≤ 4096 ∧ 1 ≤ H ∧ H ≤ 4096)
set_option maxHeartbeats 1000000 in
theorem pSides (w : World) (W H : Nat) : Calls Tryz.prog 100 #[.int .i64 (W : Int), .int .i64 (H : Int)] w fun e w' => e = .returned (.bool (sidesB W H)) ∧ w = w' := by
  unfold sidesB
  by_cases h1 : 1 ≤ W
  · have d1 : decide (1 ≤ (W : Int)) = true := decide_eq_true (by omega)
    by_cases h2 : W ≤ 4096
    · have d2 : decide ((W : Int) ≤ 4096) = true := decide_eq_true (by omega)
      by_cases h3 : 1 ≤ H
      · have d3 : decide (1 ≤ (H : Int)) = true := decide_eq_true (by omega)
        by_cases h4 : H ≤ 4096
        · have d4 : decide ((H : Int) ≤ 4096) = true := decide_eq_true (by omega)
          rw [decide_eq_true (show 1 ≤ W ∧ W ≤ 4096 ∧ 1 ≤ H ∧ H ≤ 4096 from ⟨h1, h2, h3, h4⟩)]
          go_enter Tryz.func100, Tryz.ntmps100
          go_wp2_with fail
          go_ret
          exact ⟨rfl, rfl⟩
        · have d4 : decide ((H : Int) ≤ 4096) = false := decide_eq_false (by omega)
          rw [decide_eq_false (show ¬ (1 ≤ W ∧ W ≤ 4096 ∧ 1 ≤ H ∧ H ≤ 4096) by omega)]
          go_enter Tryz.func100, Tryz.ntmps100
          go_wp2_with fail
          go_ret
          exact ⟨rfl, rfl⟩
      · have d3 : decide (1 ≤ (H : Int)) = false := decide_eq_false (by omega)
        rw [decide_eq_false (show ¬ (1 ≤ W ∧ W ≤ 4096 ∧ 1 ≤ H ∧ H ≤ 4096) by omega)]
        go_enter Tryz.func100, Tryz.ntmps100
        go_wp2_with fail
        go_ret
        exact ⟨rfl, rfl⟩
    · have d2 : decide ((W : Int) ≤ 4096) = false := decide_eq_false (by omega)
      rw [decide_eq_false (show ¬ (1 ≤ W ∧ W ≤ 4096 ∧ 1 ≤ H ∧ H ≤ 4096) by omega)]
      go_enter Tryz.func100, Tryz.ntmps100
      go_wp2_with fail
      go_ret
      exact ⟨rfl, rfl⟩
  · have d1 : decide (1 ≤ (W : Int)) = false := decide_eq_false (by omega)
    rw [decide_eq_false (show ¬ (1 ≤ W ∧ W ≤ 4096 ∧ 1 ≤ H ∧ H ≤ 4096) by omega)]
    go_enter Tryz.func100, Tryz.ntmps100
    go_wp2_with fail
    go_ret
    exact ⟨rfl, rfl⟩
theorem pSides_yes (w : World) (W H : Nat) (h : sidesB W H = true) : Calls Tryz.prog 100 #[.int .i64 (W : Int), .int .i64 (H : Int)] w fun e w' => e = .returned (.bool true) ∧ w = w' := h ▸ pSides w W H

theorem area_le {W H : Nat} (h : sidesB W H = true) : W * H ≤ 16777216 ∧ 1 ≤ W ∧ W ≤ 4096 ∧ 1 ≤ H ∧ H ≤ 4096 ∧ 1 ≤ W * H := by
  unfold sidesB at h
  rw [decide_eq_true_eq] at h
  obtain ⟨h1, h2, h3, h4⟩ := h
  have := Nat.mul_le_mul h2 h4
  have := Nat.mul_le_mul h1 h3
  omega
set_option maxHeartbeats 1000000 in
/-- A right plane is right. -/
theorem pRight (w : World) (W H : Nat) (A : Option Addr) (c : Nat) (h : sidesB W H = true) : Calls Tryz.prog 45 #[.agg #[.int .i64 (W : Int), .int .i64 (H : Int), .slice A (W * H) c]] w fun e w' => e = .returned (.bool true) ∧ Mod (fun _ => False) w w' := by
  have ha := area_le h
  obtain ⟨n, hn⟩ : ∃ n, n = W * H := ⟨_, rfl⟩
  rw [← hn] at ha ⊢
  have e1 : wrap64 ((W : Int) * (H : Int)) = (n : Int) := by
    rw [show (W : Int) * (H : Int) = (n : Int) by rw [hn]; simp]
    exact IntWalk.wrap64_in _ ⟨by omega, by omega⟩
  have HE := Lib.hid e1
  clear hn e1
  go_enter Tryz.func45, Tryz.ntmps45
  go_wp2_with fail
  refine (pSides_yes _ W H h).mono ?_
  rintro e w1 ⟨rfl, rfl⟩
  have e1 := HE.out
  go_wp2_with fail
  go_ret
  exact ⟨rfl, (Mod.refl _ _).alloc _⟩
/-- The place of a side of m that is nearest to v. -/
def near (v : Int) (m : Nat) : Nat := if v < 0 then 0 else if (m : Int) - 1 < v then m - 1 else v.toNat
theorem near_lt (v : Int) (m : Nat) (h : 1 ≤ m) : near v m < m := by unfold near; split <;> (try split) <;> omega
theorem pNear (w : World) (v : Int) (m : Nat) (h : 1 ≤ m) : Calls Tryz.prog 190 #[.int .i64 v, .int .i64 0, .int .i64 ((m : Int) - 1)] w fun e w' => e = .returned (.int .i64 ((near v m : Nat) : Int)) ∧ w = w' := by
  unfold near
  by_cases h1 : v < 0
  · have h2 : ¬ (m : Int) - 1 < 0 := by omega
    have d1 : ¬ (0 : Int) < v := by omega
    rw [if_pos h1]
    have h3 : (0 : Int) < (m : Int) - 1 ∨ (m : Int) - 1 = 0 := by omega
    rcases h3 with h3 | h3
    · go_enter Tryz.func190, Tryz.ntmps190
      go_wp2_with fail
      all_goals (try go_ret)
      all_goals first | exact ⟨rfl, rfl⟩ | (exact ⟨congrArg (fun z => Ending.returned (.int .i64 z)) (by omega), rfl⟩) | omega
    · rw [h3]
      go_enter Tryz.func190, Tryz.ntmps190
      go_wp2_with fail
      all_goals (try go_ret)
      all_goals first | exact ⟨rfl, rfl⟩ | (exact ⟨congrArg (fun z => Ending.returned (.int .i64 z)) (by omega), rfl⟩) | omega
  · rw [if_neg h1]
    by_cases h2 : (m : Int) - 1 < v
    · rw [if_pos h2]
      go_enter Tryz.func190, Tryz.ntmps190
      go_wp2_with fail
      all_goals (try go_ret)
      all_goals first | exact ⟨rfl, rfl⟩ | (exact ⟨congrArg (fun z => Ending.returned (.int .i64 z)) (by omega), rfl⟩) | omega
    · rw [if_neg h2]
      go_enter Tryz.func190, Tryz.ntmps190
      go_wp2_with fail
      all_goals (try go_ret)
      all_goals first | exact ⟨rfl, rfl⟩ | (exact ⟨congrArg (fun z => Ending.returned (.int .i64 z)) (by omega), rfl⟩) | omega
end Go.Proofs.YteppnjgfebcmjaaGreat

/-
  plane.At.
-/
namespace Go.Proofs.YteppnjgfebcmjaaGreat
open Go.RowKit

def patL (W H : Nat) (pix : List UInt8) (x y : Int) : UInt8 := pix.getD (near y H * W + near x W) 0
theorem near_area (W H : Nat) (x y : Int) (h : sidesB W H = true) : near y H * W + near x W < W * H := by
  obtain ⟨_, h1, _, h3, _⟩ := area_le h
  have a := near_lt x W h1
  have b := near_lt y H h3
  have c : (near y H + 1) * W ≤ H * W := Nat.mul_le_mul_right W b
  rw [Nat.add_mul, Nat.mul_comm H W] at c
  omega
theorem quiet_near (w : World) (v : Int) (m : Nat) (h : 1 ≤ m) (n : Nat) : Calls Tryz.prog 190 #[.int .i64 v, .int .i64 0, .int .i64 ((m : Int) - 1)] (w.drewN n) fun e w' => e = .returned (.int .i64 ((near v m : Nat) : Int)) ∧ w' = w.drewN n := (pNear _ v m h).mono fun _ _ ⟨a, b⟩ => ⟨a, b.symm⟩

set_option maxRecDepth 100000 in
set_option maxHeartbeats 1000000 in
theorem pAt (w : World) (W H : Nat) (A : Option Addr) (c : Nat) (pix : List UInt8) (h : sidesB W H = true) (hin : BytesIn w A (W * H) c pix) (x y : Int) :
    Calls Tryz.prog 187 #[.agg #[.int .i64 (W : Int), .int .i64 (H : Int), .slice A (W * H) c], .int .i64 x, .int .i64 y] w fun e w' => e = .returned (.int .u8 ((patL W H pix x y).toNat : Int)) ∧ Mod (fun _ => False) w w' := by
  obtain ⟨ha, h1, h2, h3, h4, h5⟩ := area_le h
  have hna := near_area W H x y h
  have hb0 : Blk (w.alloc (.cells #[.int .i64 (W : Int), .int .i64 (H : Int), .slice A (W * H) c] 35)) w.heap.size 35 #[.int .i64 (W : Int), .int .i64 (H : Int), .slice A (W * H) c] := Blk.new _ _ _
  have m0 : Mod (fun _ => False) w (w.alloc (.cells #[.int .i64 (W : Int), .int .i64 (H : Int), .slice A (W * H) c] 35)) := (Mod.refl _ _).alloc _
  have R1 := pRight (w.alloc (.cells #[.int .i64 (W : Int), .int .i64 (H : Int), .slice A (W * H) c] 35)) W H A c h
  obtain ⟨b, off, hA, hb, hcell⟩ := hin.place (by omega)
  subst hA
  obtain ⟨n, hn⟩ : ∃ n, n = W * H := ⟨_, rfl⟩
  rw [← hn] at hb0 m0 R1 hcell hna ha h5 ⊢
  obtain ⟨k, hk⟩ : ∃ k, k = near y H * W + near x W := ⟨_, rfl⟩
  rw [← hk] at hna
  have hck := hcell k hna
  have HP : Hid ((patL W H pix x y).toNat = (pix.getD k 0).toNat) := by show _ = _; rw [hk]; rfl
  have s0 : (near y H : Int) * (W : Int) = ((near y H * W : Nat) : Int) := by simp
  have s1 : IntKind.i64.wrap ((near y H : Int) * (W : Int)) = (near y H : Int) * (W : Int) := by
    rw [s0]
    exact IntWalk.i64_in _ ⟨by omega, by omega⟩
  have s2 : IntKind.i64.wrap ((near y H : Int) * (W : Int) + (near x W : Int)) = (k : Int) := by
    rw [s0, show ((near y H * W : Nat) : Int) + (near x W : Int) = (k : Int) by omega]
    exact IntWalk.i64_in _ ⟨by omega, by omega⟩
  clear s0
  have s3 : IntKind.i64.wrap ((H : Int) - 1) = (H : Int) - 1 := IntWalk.i64_in _ ⟨by omega, by omega⟩
  have s4 : IntKind.i64.wrap ((W : Int) - 1) = (W : Int) - 1 := IntWalk.i64_in _ ⟨by omega, by omega⟩
  have HS := Lib.hid (And.intro s1 (And.intro s2 (And.intro s3 s4)))
  have HH := Lib.hid (And.intro hb0 (And.intro m0 (And.intro hck hn)))
  clear hcell hk s1 s2 s3 s4 hb0 m0 hck hn hin
  go_enter Tryz.func187, Tryz.ntmps187
  go_wp2_with fail
  refine R1.mono ?_
  clear R1
  rintro e w1 ⟨rfl, hm1⟩
  have hb1 := HH.out.1.keep hm1 (fun h => h)
  have c0 : w1.cell? ⟨w.heap.size, 0, none⟩ = some (.int .i64 (W : Int)) := hb1.cell 0
  have c1 : w1.cell? ⟨w.heap.size, 1, none⟩ = some (.int .i64 (H : Int)) := hb1.cell 1
  have c2 : w1.cell? ⟨w.heap.size, 2, none⟩ = some (.slice (some ⟨b, off, none⟩) n c) := hb1.cell 2
  have M1 := HH.out.2.1.trans hm1
  have k1 : w1.cell? ⟨b, off + k, none⟩ = some (.int .u8 ((pix.getD k 0).toNat : Int)) := (World.cell?_of_block (M1.block b hb (fun h => h))).trans HH.out.2.2.1
  have HM := Lib.hid M1
  clear hb1 hm1 M1
  have p1 : (0 : Int) ≤ (k : Int) := by omega
  have p2 : (k : Int) < (n : Int) := by omega
  generalize (pix.getD k 0).toNat = px at *
  go_upto_region 3 with (fail)
  obtain ⟨s1, s2, s3, s4⟩ := HS.out
  go_quiet ((go_at_call 190; exact Calls.quiet_of_same (quiet_near _ _ _ (by assumption) _)))
  clear s1 s2 s3 s4
  go_wp2_with fail
  go_ret
  exact ⟨by rw [HP.out]; rfl, HM.out.drewN _⟩
end Go.Proofs.YteppnjgfebcmjaaGreat

/-
  The reference's planes: side, Right, near, shifted, At.
-/
namespace Go.Proofs.YteppnjgfebcmjaaGreat
open Go.RowKit

set_option maxRecDepth 100000 in
theorem fPSide (w : World) (n : Nat) (h1 : 1 ≤ n) (h2 : n ≤ 4096) : Calls Tryz.prog 111 #[.int .i64 (n : Int)] w fun e w' => e = .returned (.bool true) ∧ w = w' := by
  have d1 : decide (1 ≤ (n : Int)) = true := decide_eq_true (by omega)
  have d2 : decide ((n : Int) ≤ 4096) = true := decide_eq_true (by omega)
  go_enter Tryz.func111, Tryz.ntmps111
  go_wp2_with fail
  go_ret
  exact ⟨rfl, rfl⟩
set_option maxRecDepth 100000 in
set_option maxHeartbeats 1000000 in
theorem fPRight (w : World) (W H : Nat) (A : Option Addr) (n c : Nat) (h : sidesB W H = true) (hn : n = W * H) : Calls Tryz.prog 120 #[.agg #[.int .i64 (W : Int), .int .i64 (H : Int), .slice A n c]] w fun e w' => e = .returned (.bool true) ∧ Mod (fun _ => False) w w' := by
  obtain ⟨ha, h1, h2, h3, h4, h5⟩ := area_le h
  rw [← hn] at ha h5
  have e1 : wrap64 ((W : Int) * (H : Int)) = (n : Int) := by
    rw [show (W : Int) * (H : Int) = (n : Int) by rw [hn]; simp]
    exact IntWalk.wrap64_in _ ⟨by omega, by omega⟩
  have HE := Lib.hid e1
  clear hn e1
  go_enter Tryz.func120, Tryz.ntmps120
  go_wp2_with fail
  refine (fPSide _ W h1 h2).mono ?_
  rintro e w1 ⟨rfl, rfl⟩
  go_wp2_with fail
  refine (fPSide _ H h3 h4).mono ?_
  rintro e w1 ⟨rfl, rfl⟩
  have e1 := HE.out
  go_wp2_with fail
  go_ret
  exact ⟨rfl, (Mod.refl _ _).alloc _⟩
set_option maxRecDepth 100000 in
theorem fNear (w : World) (v : Int) (m : Nat) (h : 1 ≤ m) (hm : m ≤ 4096) : Calls Tryz.prog 180 #[.int .i64 v, .int .i64 (m : Int)] w fun e w' => e = .returned (.int .i64 ((near v m : Nat) : Int)) ∧ w = w' := by
  unfold near
  by_cases h1 : v < 0
  · have d1 : decide (v < 0) = true := decide_eq_true h1
    rw [if_pos h1]
    clear h1
    go_enter Tryz.func180, Tryz.ntmps180
    go_wp2_with fail
    go_ret
    exact ⟨rfl, rfl⟩
  · rw [if_neg h1]
    have d1 : decide (v < 0) = false := decide_eq_false h1
    by_cases h2 : (m : Int) - 1 < v
    · rw [if_pos h2]
      have d2 : decide ((m : Int) ≤ v) = true := decide_eq_true (by omega)
      have e1 : Hid (((m - 1 : Nat) : Int) = (m : Int) - 1) := by show _ = _; omega
      clear h1 h2
      go_enter Tryz.func180, Tryz.ntmps180
      go_wp2_with fail
      go_ret
      exact ⟨by rw [e1.out]; rfl, rfl⟩
    · rw [if_neg h2]
      have d2 : decide ((m : Int) ≤ v) = false := decide_eq_false (by omega)
      have e1 : Hid (((v.toNat : Nat) : Int) = v) := by show _ = _; omega
      clear h1 h2
      go_enter Tryz.func180, Tryz.ntmps180
      go_wp2_with fail
      go_ret
      exact ⟨by rw [e1.out]; rfl, rfl⟩
theorem quiet_fNear (w : World) (v : Int) (m : Nat) (h : 1 ≤ m) (hm : m ≤ 4096) (n : Nat) : Calls Tryz.prog 180 #[.int .i64 v, .int .i64 (m : Int)] (w.drewN n) fun e w' => e = .returned (.int .i64 ((near v m : Nat) : Int)) ∧ w' = w.drewN n := (fNear _ v m h hm).mono fun _ _ ⟨a, b⟩ => ⟨a, b.symm⟩
set_option maxRecDepth 100000 in
theorem fShifted (w : World) (x i : Int) (hx : -1048576 ≤ x ∧ x ≤ 1048576) (hi : 0 ≤ i ∧ i ≤ 64) : Calls Tryz.prog 145 #[.int .i64 x, .int .i64 i] w fun e w' => e = .returned (.int .i64 (x + i)) ∧ w = w' := by
  obtain ⟨h1, h2⟩ := hx
  obtain ⟨h3, h4⟩ := hi
  have d1 : decide (4611686018427387904 < x) = false := decide_eq_false (by omega)
  go_enter Tryz.func145, Tryz.ntmps145
  go_wp2_with fail
  go_ret
  exact ⟨rfl, rfl⟩

set_option maxRecDepth 100000 in
set_option maxHeartbeats 1000000 in
theorem fAt (w : World) (W H : Nat) (A : Option Addr) (n c : Nat) (pix : List UInt8) (h : sidesB W H = true) (hn : n = W * H) (hin : BytesIn w A n c pix) (x y : Int) :
    Calls Tryz.prog 167 #[.agg #[.int .i64 (W : Int), .int .i64 (H : Int), .slice A n c], .int .i64 x, .int .i64 y] w fun e w' => e = .returned (.int .u8 ((patL W H pix x y).toNat : Int)) ∧ Mod (fun _ => False) w w' := by
  obtain ⟨ha, h1, h2, h3, h4, h5⟩ := area_le h
  have hna := near_area W H x y h
  have hb0 : Blk (w.alloc (.cells #[.int .i64 (W : Int), .int .i64 (H : Int), .slice A n c] 35)) w.heap.size 35 #[.int .i64 (W : Int), .int .i64 (H : Int), .slice A n c] := Blk.new _ _ _
  have m0 : Mod (fun _ => False) w (w.alloc (.cells #[.int .i64 (W : Int), .int .i64 (H : Int), .slice A n c] 35)) := (Mod.refl _ _).alloc _
  have R1 := fPRight (w.alloc (.cells #[.int .i64 (W : Int), .int .i64 (H : Int), .slice A n c] 35)) W H A n c h hn
  rw [← hn] at hna ha h5
  obtain ⟨b, off, hA, hb, hcell⟩ := hin.place (by omega)
  subst hA
  obtain ⟨k, hk⟩ : ∃ k, k = near y H * W + near x W := ⟨_, rfl⟩
  rw [← hk] at hna
  have hck := hcell k hna
  have HP : Hid ((patL W H pix x y).toNat = (pix.getD k 0).toNat) := by show _ = _; rw [hk]; rfl
  have s0 : (near y H : Int) * (W : Int) = ((near y H * W : Nat) : Int) := by simp
  have s1 : IntKind.i64.wrap ((near y H : Int) * (W : Int)) = (near y H : Int) * (W : Int) := by
    rw [s0]
    exact IntWalk.i64_in _ ⟨by omega, by omega⟩
  have s2 : IntKind.i64.wrap ((near y H : Int) * (W : Int) + (near x W : Int)) = (k : Int) := by
    rw [s0, show ((near y H * W : Nat) : Int) + (near x W : Int) = (k : Int) by omega]
    exact IntWalk.i64_in _ ⟨by omega, by omega⟩
  clear s0
  have HS := Lib.hid (And.intro s1 s2)
  have HH := Lib.hid (And.intro hb0 (And.intro m0 (And.intro hck hn)))
  clear hcell hk s1 s2 hb0 m0 hck hn hin
  go_enter Tryz.func167, Tryz.ntmps167
  go_wp2_with fail
  refine R1.mono ?_
  clear R1
  rintro e w1 ⟨rfl, hm1⟩
  have hb1 := HH.out.1.keep hm1 (fun h => h)
  have c0 : w1.cell? ⟨w.heap.size, 0, none⟩ = some (.int .i64 (W : Int)) := hb1.cell 0
  have c1 : w1.cell? ⟨w.heap.size, 1, none⟩ = some (.int .i64 (H : Int)) := hb1.cell 1
  have c2 : w1.cell? ⟨w.heap.size, 2, none⟩ = some (.slice (some ⟨b, off, none⟩) n c) := hb1.cell 2
  have M1 := HH.out.2.1.trans hm1
  have k1 : w1.cell? ⟨b, off + k, none⟩ = some (.int .u8 ((pix.getD k 0).toNat : Int)) := (World.cell?_of_block (M1.block b hb (fun h => h))).trans HH.out.2.2.1
  have HM := Lib.hid M1
  clear hb1 hm1 M1
  have p1 : (0 : Int) ≤ (k : Int) := by omega
  have p2 : (k : Int) < (n : Int) := by omega
  generalize (pix.getD k 0).toNat = px at *
  go_upto_region 4 with (fail)
  obtain ⟨s1, s2⟩ := HS.out
  go_quiet ((go_at_call 180; exact Calls.quiet_of_same (quiet_fNear _ _ _ (by assumption) (by assumption) _)))
  clear s1 s2
  go_wp2_with fail
  go_ret
  exact ⟨by rw [HP.out]; rfl, HM.out.drewN _⟩
end Go.Proofs.YteppnjgfebcmjaaGreat

/-
  motion: half, across, down.
-/
namespace Go.Proofs.YteppnjgfebcmjaaGreat
open Go.RowKit

/-- The first k of n numbers laid, noughts behind. -/
def fillL (f : Nat → UInt8) (n k : Nat) : List UInt8 := (List.range n).map fun i => if i < k then f i else 0
theorem fillL_length (f : Nat → UInt8) (n k : Nat) : (fillL f n k).length = n := by simp [fillL]
theorem fillL_zero (f : Nat → UInt8) (n : Nat) : fillL f n 0 = List.replicate n 0 := by
  unfold fillL
  refine List.ext_getElem (by simp) fun i h1 h2 => ?_
  simp
theorem fillL_all (f : Nat → UInt8) (n : Nat) : fillL f n n = (List.range n).map f := by
  unfold fillL
  refine List.map_congr_left fun i hi => if_pos (List.mem_range.1 hi)
theorem fillL_set (f : Nat → UInt8) (n k : Nat) : (fillL f n k).set k (f k) = fillL f n (k + 1) := by
  unfold fillL
  refine List.ext_getElem (by simp) fun i h1 h2 => ?_
  simp only [List.getElem_set, List.getElem_map, List.getElem_range]
  by_cases e : k = i
  · subst e; simp
  · rw [if_neg e]
    by_cases h : i < k
    · rw [if_pos h, if_pos (by omega)]
    · rw [if_neg h, if_neg (by omega)]

def halfI (a b c d e f : Int) : Int := (a - 5 * b + 20 * c + 20 * d - 5 * e + f + 16) / 32
def halfN (a b c d e f : Nat) : Nat := clipN (halfI a b c d e f)
theorem halfN_lt (a b c d e f : Nat) : halfN a b c d e f < 256 := clipN_lt _
set_option maxRecDepth 100000 in
set_option maxHeartbeats 1000000 in
theorem mHalf (w : World) (a b c d e f : Nat) (ha : a < 256) (hb : b < 256) (hc : c < 256) (hd : d < 256) (he : e < 256) (hf : f < 256) :
    Calls Tryz.prog 191 #[.agg #[.int .u8 (a : Int), .int .u8 (b : Int), .int .u8 (c : Int), .int .u8 (d : Int), .int .u8 (e : Int), .int .u8 (f : Int)]] w fun r w' => r = .returned (.int .u8 ((halfN a b c d e f : Nat) : Int)) ∧ Mod (fun _ => False) w w' := by
  go_enter Tryz.func191, Tryz.ntmps191
  go_wp2_with fail
  all_goals
    go_ret
    refine ⟨congrArg (fun z => Ending.returned (.int .u8 z)) ?_, (Mod.refl _ _).alloc _⟩
    unfold halfN clipN halfI
    (repeat' split) <;> omega

/-- A sample half a column right. -/
def acrN (W H : Nat) (pix : List UInt8) (x y : Int) : Nat :=
  halfN (patL W H pix (x - 2) y).toNat (patL W H pix (x - 2 + 1) y).toNat (patL W H pix (x - 2 + 2) y).toNat (patL W H pix (x - 2 + 3) y).toNat (patL W H pix (x - 2 + 4) y).toNat (patL W H pix (x - 2 + 5) y).toNat
def dwnN (W H : Nat) (pix : List UInt8) (x y : Int) : Nat :=
  halfN (patL W H pix x (y - 2)).toNat (patL W H pix x (y - 2 + 1)).toNat (patL W H pix x (y - 2 + 2)).toNat (patL W H pix x (y - 2 + 3)).toNat (patL W H pix x (y - 2 + 4)).toNat (patL W H pix x (y - 2 + 5)).toNat
theorem fill6 (f : Nat → UInt8) : (u8s (fillL f 6 6)).toArray = #[.int .u8 ((f 0).toNat : Int), .int .u8 ((f 1).toNat : Int), .int .u8 ((f 2).toNat : Int), .int .u8 ((f 3).toNat : Int), .int .u8 ((f 4).toNat : Int), .int .u8 ((f 5).toNat : Int)] := rfl
theorem fill6_0 (f : Nat → UInt8) : (u8s (fillL f 6 0)).toArray = #[.int .u8 0, .int .u8 0, .int .u8 0, .int .u8 0, .int .u8 0, .int .u8 0] := rfl
theorem fill_set (f : Nat → UInt8) (n k : Nat) : (u8s (fillL f n k)).toArray.setIfInBounds k (.int .u8 ((f k).toNat : Int)) = (u8s (fillL f n (k + 1))).toArray := by
  rw [← fillL_set]
  unfold u8s
  rw [List.map_set]
  simp

theorem fill_cell {w : World} {q n k : Nat} {t : TypeId} {f : Nat → UInt8} (hb : Blk w q t (u8s (fillL f n k)).toArray) (hk : k < n) : w.cell? ⟨q, k, none⟩ = some (.int .u8 0) := by
  rw [hb.cell, List.getElem?_toArray]
  unfold u8s fillL
  simp [hk]
theorem pAt' (w : World) (W H : Nat) (A : Option Addr) (n c : Nat) (pix : List UInt8) (h : sidesB W H = true) (hn : n = W * H) (hin : BytesIn w A (W * H) c pix) (x y : Int) :
    Calls Tryz.prog 187 #[.agg #[.int .i64 (W : Int), .int .i64 (H : Int), .slice A n c], .int .i64 x, .int .i64 y] w fun e w' => e = .returned (.int .u8 ((patL W H pix x y).toNat : Int)) ∧ Mod (fun _ => False) w w' := by
  subst hn
  exact pAt w W H A c pix h hin x y
def SixRel (w : World) (p q : Nat) (pv : Array Value) (f : Nat → UInt8) (i : Value) (wr : World) : Prop :=
  ∃ k : Nat, k ≤ 6 ∧ i = .int .i64 (k : Int) ∧ Sat (fun _ => False) w wr [⟨q, 230, (u8s (fillL f 6 k)).toArray⟩, ⟨p, 35, pv⟩] []

set_option maxRecDepth 100000 in
set_option maxHeartbeats 1000000 in
theorem mAcross (w : World) (W H : Nat) (A : Option Addr) (c : Nat) (pix : List UInt8) (h : sidesB W H = true) (hin : BytesIn w A (W * H) c pix) (x y : Int) (hx : -1073741824 ≤ x ∧ x ≤ 1073741824) :
    Calls Tryz.prog 188 #[.agg #[.int .i64 (W : Int), .int .i64 (H : Int), .slice A (W * H) c], .int .i64 x, .int .i64 y] w fun e w' => e = .returned (.int .u8 ((acrN W H pix x y : Nat) : Int)) ∧ Mod (fun _ => False) w w' := by
  obtain ⟨n, hn⟩ : ∃ n, n = W * H := ⟨_, rfl⟩
  have HI := Lib.hid (And.intro h (And.intro hin hn))
  rw [← hn]
  clear h hin hn
  have h0 := (Sat.nil (fun _ => False) w)
  obtain ⟨hx1, hx2⟩ := hx
  go_enter Tryz.func188, Tryz.ntmps188
  go_wp2_with fail
  obtain ⟨f, hf⟩ : ∃ f : Nat → UInt8, f = fun (i : Nat) => patL W H pix (x - 2 + (i : Int)) y := ⟨_, rfl⟩
  have HF := Lib.hid hf
  clear hf
  go_loopw [9] (SixRel w w.heap.size (w.heap.size + 1) #[.int .i64 (W : Int), .int .i64 (H : Int), .slice A n c] f) (fun i _ => 6 - (intOf i).toNat)
  case atStart => exact ⟨0, by omega, rfl, by rw [fill6_0]; exact (by repeat' (first | with_reducible exact h0 | with_reducible refine Sat.put ?_ ?_ | with_reducible refine Sat.alloc ?_ _ _ ?_ | with_reducible rfl | (show (World.heap _).size = _; simp; done) | with_reducible refine Sat.drewN ?_ _ | with_reducible refine Sat.drew ?_ | exact Upd.here rfl | exact Upd.there (Upd.here rfl) | exact Upd.there (Upd.there (Upd.here rfl)) | exact Upd.there (Upd.there (Upd.there (Upd.here rfl))) | exact Upd.there (Upd.there (Upd.there (Upd.there (Upd.here rfl))))))⟩
  case round =>
    obtain ⟨k, hk, rfl, HS⟩ := hrel
    obtain ⟨pc, pf⟩ := (HS.own_ 1 rfl).both
    obtain ⟨qc, qf⟩ := (HS.own_ 0 rfl).both
    have pl := (HS.own_ 1 rfl).lt
    have ql := (HS.own_ 0 rfl).lt
    have HH := Lib.hid HS
    clear HS
    by_cases hlt : k < 6
    · have d1 : decide ((k : Int) < 6) = true := decide_eq_true (by omega)
      have hfk : patL W H pix (x - 2 + (k : Int)) y = f k := by rw [HF.out]
      have HK := Lib.hid hfk
      clear hfk qc qf
      go_wp2_with fail
      refine (pAt' _ W H A n c pix HI.out.1 HI.out.2.2 (HI.out.2.1.quiet HH.out.mod) _ _).mono ?_
      rintro e w1 ⟨rfl, hm1⟩
      have HS1 := Sat.after hm1 HH.out
      clear hm1 pc pf pl ql
      have qf := (HS1.own_ 0 rfl).frozen
      have ql := (HS1.own_ 0 rfl).lt
      have q0 := fill_cell (HS1.own_ 0 rfl) hlt
      have HG := Lib.hid HS1
      clear HS1
      rw [HK.out]
      go_wp2_with fail
      go_roundw
      case rel => exact ⟨k + 1, by omega, by go_num, HG.out.put (Upd.here (fill_set f 6 k))⟩
      case measure => simp [intOf]; omega
    · obtain rfl : k = 6 := by omega
      have hb := HH.out.own_ 0 rfl
      rw [fill6] at hb
      have q0 : wr.cell? ⟨w.heap.size + 1, 0, none⟩ = some (.int .u8 ((f 0).toNat : Int)) := hb.cell 0
      have q1 : wr.cell? ⟨w.heap.size + 1, 1, none⟩ = some (.int .u8 ((f 1).toNat : Int)) := hb.cell 1
      have q2 : wr.cell? ⟨w.heap.size + 1, 2, none⟩ = some (.int .u8 ((f 2).toNat : Int)) := hb.cell 2
      have q3 : wr.cell? ⟨w.heap.size + 1, 3, none⟩ = some (.int .u8 ((f 3).toNat : Int)) := hb.cell 3
      have q4 : wr.cell? ⟨w.heap.size + 1, 4, none⟩ = some (.int .u8 ((f 4).toNat : Int)) := hb.cell 4
      have q5 : wr.cell? ⟨w.heap.size + 1, 5, none⟩ = some (.int .u8 ((f 5).toNat : Int)) := hb.cell 5
      clear hb pc pf pl qc qf
      go_wp2_with fail
      refine (mHalf _ _ _ _ _ _ _ (UInt8.toNat_lt _) (UInt8.toNat_lt _) (UInt8.toNat_lt _) (UInt8.toNat_lt _) (UInt8.toNat_lt _) (UInt8.toNat_lt _)).mono ?_
      rintro e w1 ⟨rfl, hm1⟩
      have hM := HH.out.mod.trans hm1
      clear hm1 ql q0 q1 q2 q3 q4 q5
      go_wp2_with fail
      go_ret
      exact ⟨by rw [HF.out]; simp [acrN], hM⟩
set_option maxRecDepth 100000 in
set_option maxHeartbeats 1000000 in
theorem mDown (w : World) (W H : Nat) (A : Option Addr) (c : Nat) (pix : List UInt8) (h : sidesB W H = true) (hin : BytesIn w A (W * H) c pix) (x y : Int) (hx : -1073741824 ≤ y ∧ y ≤ 1073741824) :
    Calls Tryz.prog 189 #[.agg #[.int .i64 (W : Int), .int .i64 (H : Int), .slice A (W * H) c], .int .i64 x, .int .i64 y] w fun e w' => e = .returned (.int .u8 ((dwnN W H pix x y : Nat) : Int)) ∧ Mod (fun _ => False) w w' := by
  obtain ⟨n, hn⟩ : ∃ n, n = W * H := ⟨_, rfl⟩
  have HI := Lib.hid (And.intro h (And.intro hin hn))
  rw [← hn]
  clear h hin hn
  have h0 := (Sat.nil (fun _ => False) w)
  obtain ⟨hx1, hx2⟩ := hx
  go_enter Tryz.func189, Tryz.ntmps189
  go_wp2_with fail
  obtain ⟨f, hf⟩ : ∃ f : Nat → UInt8, f = fun (i : Nat) => patL W H pix x (y - 2 + (i : Int)) := ⟨_, rfl⟩
  have HF := Lib.hid hf
  clear hf
  go_loopw [9] (SixRel w w.heap.size (w.heap.size + 1) #[.int .i64 (W : Int), .int .i64 (H : Int), .slice A n c] f) (fun i _ => 6 - (intOf i).toNat)
  case atStart => exact ⟨0, by omega, rfl, by rw [fill6_0]; exact (by repeat' (first | with_reducible exact h0 | with_reducible refine Sat.put ?_ ?_ | with_reducible refine Sat.alloc ?_ _ _ ?_ | with_reducible rfl | (show (World.heap _).size = _; simp; done) | with_reducible refine Sat.drewN ?_ _ | with_reducible refine Sat.drew ?_ | exact Upd.here rfl | exact Upd.there (Upd.here rfl) | exact Upd.there (Upd.there (Upd.here rfl)) | exact Upd.there (Upd.there (Upd.there (Upd.here rfl))) | exact Upd.there (Upd.there (Upd.there (Upd.there (Upd.here rfl))))))⟩
  case round =>
    obtain ⟨k, hk, rfl, HS⟩ := hrel
    obtain ⟨pc, pf⟩ := (HS.own_ 1 rfl).both
    obtain ⟨qc, qf⟩ := (HS.own_ 0 rfl).both
    have pl := (HS.own_ 1 rfl).lt
    have ql := (HS.own_ 0 rfl).lt
    have HH := Lib.hid HS
    clear HS
    by_cases hlt : k < 6
    · have d1 : decide ((k : Int) < 6) = true := decide_eq_true (by omega)
      have hfk : patL W H pix x (y - 2 + (k : Int)) = f k := by rw [HF.out]
      have HK := Lib.hid hfk
      clear hfk qc qf
      go_wp2_with fail
      refine (pAt' _ W H A n c pix HI.out.1 HI.out.2.2 (HI.out.2.1.quiet HH.out.mod) _ _).mono ?_
      rintro e w1 ⟨rfl, hm1⟩
      have HS1 := Sat.after hm1 HH.out
      clear hm1 pc pf pl ql
      have qf := (HS1.own_ 0 rfl).frozen
      have ql := (HS1.own_ 0 rfl).lt
      have q0 := fill_cell (HS1.own_ 0 rfl) hlt
      have HG := Lib.hid HS1
      clear HS1
      rw [HK.out]
      go_wp2_with fail
      go_roundw
      case rel => exact ⟨k + 1, by omega, by go_num, HG.out.put (Upd.here (fill_set f 6 k))⟩
      case measure => simp [intOf]; omega
    · obtain rfl : k = 6 := by omega
      have hb := HH.out.own_ 0 rfl
      rw [fill6] at hb
      have q0 : wr.cell? ⟨w.heap.size + 1, 0, none⟩ = some (.int .u8 ((f 0).toNat : Int)) := hb.cell 0
      have q1 : wr.cell? ⟨w.heap.size + 1, 1, none⟩ = some (.int .u8 ((f 1).toNat : Int)) := hb.cell 1
      have q2 : wr.cell? ⟨w.heap.size + 1, 2, none⟩ = some (.int .u8 ((f 2).toNat : Int)) := hb.cell 2
      have q3 : wr.cell? ⟨w.heap.size + 1, 3, none⟩ = some (.int .u8 ((f 3).toNat : Int)) := hb.cell 3
      have q4 : wr.cell? ⟨w.heap.size + 1, 4, none⟩ = some (.int .u8 ((f 4).toNat : Int)) := hb.cell 4
      have q5 : wr.cell? ⟨w.heap.size + 1, 5, none⟩ = some (.int .u8 ((f 5).toNat : Int)) := hb.cell 5
      clear hb pc pf pl qc qf
      go_wp2_with fail
      refine (mHalf _ _ _ _ _ _ _ (UInt8.toNat_lt _) (UInt8.toNat_lt _) (UInt8.toNat_lt _) (UInt8.toNat_lt _) (UInt8.toNat_lt _) (UInt8.toNat_lt _)).mono ?_
      rintro e w1 ⟨rfl, hm1⟩
      have hM := HH.out.mod.trans hm1
      clear hm1 ql q0 q1 q2 q3 q4 q5
      go_wp2_with fail
      go_ret
      exact ⟨by rw [HF.out]; simp [dwnN], hM⟩
end Go.Proofs.YteppnjgfebcmjaaGreat
