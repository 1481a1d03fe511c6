/-
  motion.Chroma, decoder.places.
-/
import Derived.Test.YteppnjgfebcmjaaGreatM28
import Derived.Test.YteppnjgfebcmjaaGreatM23
import Derived.Test.YteppnjgfebcmjaaGreatM2
namespace Go.Proofs.YteppnjgfebcmjaaGreat
open Go.RowKit

theorem mChroma (w : World) (vx vy : Int) (hx : -1048576 ≤ vx ∧ vx ≤ 1048576) (hy : -1048576 ≤ vy ∧ vy ≤ 1048576) : Calls Tryz.prog 161 #[.agg #[.int .i64 vx, .int .i64 vy]] w fun e w' => e = .returned (.agg #[.int .i64 (vx / 2), .int .i64 (vy / 2)]) ∧ Mod (fun _ => False) w w' := by
  obtain ⟨hx1, hx2⟩ := hx
  obtain ⟨hy1, hy2⟩ := hy
  go_enter Tryz.func161, Tryz.ntmps161
  go_wp2_with fail
  refine bodyPost_ret (v := .agg #[.int .i64 (vx / 2), .int .i64 (vy / 2)]) (by simp [results, Tryz.results161, go_sem]) rfl ⟨rfl, ?_⟩
  exact ((Mod.refl _ _).alloc _).alloc _

def plL (x y : Nat) : List Value :=
  [.int .i64 0, .int .i64 (x : Int), .int .i64 (y : Int), .int .i64 0, .int .i64 ((x : Int) + 8), .int .i64 (y : Int), .int .i64 0, .int .i64 (x : Int), .int .i64 ((y : Int) + 8), .int .i64 0, .int .i64 ((x : Int) + 8), .int .i64 ((y : Int) + 8),
   .int .i64 1, .int .i64 ((x : Int) / 2), .int .i64 ((y : Int) / 2), .int .i64 2, .int .i64 ((x : Int) / 2), .int .i64 ((y : Int) / 2)]
theorem plL_one (x y : Nat) : ∀ u ∈ plL x y, u.oneCell' = true := fun u hu => by
  simp only [plL, List.mem_cons, List.not_mem_nil, or_false] at hu
  rcases hu with rfl | rfl | rfl | rfl | rfl | rfl | rfl | rfl | rfl | rfl | rfl | rfl | rfl | rfl | rfl | rfl | rfl | rfl <;> rfl
set_option maxRecDepth 100000 in
set_option maxHeartbeats 1000000 in
theorem dPlaces (w : World) (x y : Nat) (hx : x ≤ 4096) (hy : y ≤ 4096) : Calls Tryz.prog 106 #[.int .i64 (x : Int), .int .i64 (y : Int)] w fun e w' => e = .returned (.agg (plL x y).toArray) ∧ Mod (fun _ => False) w w' := by
  go_enter Tryz.func106, Tryz.ntmps106
  go_wp2_with (refine wpList_store_part rfl 175 (.tmp 4) (.tmp 31) rfl w.heap.size 0 (plL x y) rfl rfl 175 _ (Blk.new _ _ _) (by kernel_rfl) (by simp [plL]) (plL_one _ _) ?_; intro w2 hb2 hm2; have HB2 := Lib.hid (And.intro hb2 hm2); clear hb2 hm2)
  have hb := HB2.out.1
  rw [splice_all (by simp [plL])] at hb
  exact bodyPost_ret (v := .agg (plL x y).toArray) (results_cell_row rfl _ _ w.heap.size 175 _ (0, 0) _ rfl hb Tryz.underlying175 rfl (by kernel_rfl)) rfl ⟨rfl, ((Mod.refl (fun _ => False) w).alloc _).into HB2.out.2 (fun i e => .inr (by omega))⟩
end Go.Proofs.YteppnjgfebcmjaaGreat

/-
  lift.Order of eight, lift.Unsort of 64.
-/
namespace Go.Proofs.YteppnjgfebcmjaaGreat
open Go.RowKit

def ordRow (s y : Nat) : List Int := ((List.range y).filter (fun y' => decide (y' ≤ s ∧ s < y' + 8))).map fun y' => ((y' * 8 + (s - y') : Nat) : Int)
def ordTo (s y : Nat) : List Int := (List.range s).flatMap (fun s' => ordRow s' 8) ++ ordRow s y
theorem ordTo_succ (s : Nat) : ordTo s 8 = ordTo (s + 1) 0 := by simp [ordTo, List.range_succ, ordRow]
theorem ordTo_yes (s y : Nat) (h : y ≤ s ∧ s < y + 8) : ordTo s (y + 1) = ordTo s y ++ [((y * 8 + (s - y) : Nat) : Int)] := by
  simp [ordTo, ordRow, List.range_succ, List.filter_append, h.1, h.2]
theorem ordTo_no (s y : Nat) (h : ¬ (y ≤ s ∧ s < y + 8)) : ordTo s (y + 1) = ordTo s y := by
  have : decide (y ≤ s ∧ s < y + 8) = false := decide_eq_false h
  simp only [ordTo, ordRow, List.range_succ, List.filter_append, List.filter_cons, this]
  simp
theorem ordRow_le (s y : Nat) : (ordRow s y).length ≤ y := by
  unfold ordRow
  rw [List.length_map]
  exact Nat.le_trans (List.length_filter_le _ _) (by simp)
theorem ordTo_le (s y : Nat) : (ordTo s y).length ≤ s * 8 + y := by
  unfold ordTo
  rw [List.length_append]
  have h : ∀ s, ((List.range s).flatMap (fun s' => ordRow s' 8)).length ≤ s * 8 := by
    intro s
    induction s with
    | zero => simp
    | succ s ih =>
      rw [List.range_succ, List.flatMap_append, List.length_append]
      have := ordRow_le s 8
      simp at *
      omega
  have := h s
  have := ordRow_le s y
  omega
/-- The places of a block of eight times eight. -/
def ord8 : List Int := ordTo 15 0
theorem ord8_facts : ord8.length = 64 ∧ (∀ i < 64, 0 ≤ ord8.getD i 0 ∧ ord8.getD i 0 < 64) := by decide +kernel

def OrdRel (w : World) (v3 v20 : Value) (wr : World) : Prop := ∃ s : Nat, s ≤ 15 ∧ v20 = .int .i64 (s : Int) ∧ IntsOwn wr w.heap.size v3 (ordTo s 0) ∧ Mod (fun _ => False) w wr
def OrdIn (w : World) (s : Nat) (v3 v24 : Value) (wr : World) : Prop := ∃ y : Nat, y ≤ 8 ∧ v24 = .int .i64 (y : Int) ∧ IntsOwn wr w.heap.size v3 (ordTo s y) ∧ Mod (fun _ => False) w wr

set_option maxRecDepth 100000 in
set_option maxHeartbeats 4000000 in
theorem lOrder (w : World) : Calls Tryz.prog 178 #[.int .i64 8] w fun e w' => ∃ b c, e = .returned (.slice (some ⟨b, 0, none⟩) 64 c) ∧ w.heap.size ≤ b ∧ IntsIn w' (some ⟨b, 0, none⟩) 64 c ord8 ∧ Mod (fun _ => False) w w' := by
  go_enter Tryz.func178, Tryz.ntmps178
  go_wp2_with (refine wpList_mk_int0 _ rfl (.const (.int .i64 0)) (.tmp 15) rfl 64 rfl rfl (by omega) ?_; intro w1 hown1 hm1; have HO := Lib.hid (And.intro hown1 hm1); clear hown1 hm1)
  go_loopw [3, 20] (OrdRel w) (fun _ i _ => 15 - (intOf i).toNat)
  case atStart => exact ⟨0, by omega, rfl, HO.out.1, HO.out.2⟩
  case round =>
    clear HO
    obtain ⟨s, hs, rfl, hown, hM⟩ := hrel
    by_cases hlt : s < 15
    · obtain ⟨wo, rfl⟩ : ∃ wo : World, wo = wr := ⟨_, rfl⟩
      have HB := Lib.hid (And.intro hown hM)
      clear hown hM
      have dx : decide ((s : Int) < 15) = true := decide_eq_true (by omega)
      go_wp2_with fail
      go_loopw [3, 24] (OrdIn w s) (fun _ i _ => 8 - (intOf i).toNat)
      case atStart => exact ⟨0, by omega, rfl, HB.out.1, HB.out.2⟩
      case round =>
        clear HB
        obtain ⟨y, hy, rfl, hown, hM⟩ := hrel
        by_cases hly : y < 8
        · have dy : decide ((y : Int) < 8) = true := decide_eq_true (by omega)
          obtain ⟨A3, c3, hv3⟩ := own_shape hown
          subst hv3
          have hle := ordTo_le s y
          generalize hlen : (ordTo s y).length = n3 at *
          have HB := Lib.hid (And.intro hown (And.intro hM (And.intro hM.size hlen)))
          clear hown hM hlen
          by_cases h1 : y ≤ s
          · have d1 : decide ((0 : Int) ≤ (s : Int) - (y : Int)) = true := decide_eq_true (by omega)
            have d1' : decide ((y : Int) ≤ (s : Int)) = true := decide_eq_true (by omega)
            by_cases h2 : s < y + 8
            · have d2 : decide ((s : Int) - (y : Int) < 8) = true := decide_eq_true (by omega)
              have HS := Lib.hid (ordTo_yes s y ⟨h1, h2⟩)
              have ev : (y : Int) * 8 + ((s : Int) - (y : Int)) = ((y * 8 + (s - y) : Nat) : Int) := by omega
              have HE := Lib.hid ev
              clear ev
              go_wp2_with (at_builtin; have _t := HB; refine wpList_app_int _ rfl (.tmp 37) (.tmp 43) rfl w.heap.size _ _ ((y : Int) * 8 + ((s : Int) - (y : Int))) rfl rfl HB.out.1 HB.out.2.2.1 (by rw [HB.out.2.2.2]; omega) ?_; intro v8 w8 hown8 hMa hMb hF; have HO := Lib.hid (And.intro hown8 (hMb w (fun _ => False) (Nat.le_refl _) HB.out.2.1)); clear hown8 hMa hMb hF)
              go_roundw
              case rel =>
                refine ⟨y + 1, by omega, by go_num, ?_, HO.out.2⟩
                rw [HS.out, ← HE.out]
                exact HO.out.1
              case measure => simp [intOf]; omega
            · have d2 : decide ((s : Int) - (y : Int) < 8) = false := decide_eq_false (by omega)
              have HS := Lib.hid (ordTo_no s y (fun h => h2 h.2))
              go_wp2_with fail
              go_roundw
              case rel =>
                refine ⟨y + 1, by omega, by go_num, ?_, HB.out.2.1⟩
                rw [HS.out]
                exact HB.out.1
              case measure => simp [intOf]; omega
          · have d1 : decide ((0 : Int) ≤ (s : Int) - (y : Int)) = false := decide_eq_false (by omega)
            have d1' : decide ((y : Int) ≤ (s : Int)) = false := decide_eq_false (by omega)
            have HS := Lib.hid (ordTo_no s y (fun h => h1 h.1))
            go_wp2_with fail
            go_roundw
            case rel =>
              refine ⟨y + 1, by omega, by go_num, ?_, HB.out.2.1⟩
              rw [HS.out]
              exact HB.out.1
            case measure => simp [intOf]; omega
        · obtain rfl : y = 8 := by omega
          have HB := Lib.hid (And.intro hown hM)
          clear hown hM
          go_wp2_with fail
          go_roundw
          case rel => exact ⟨s + 1, by omega, by go_num, by rw [← ordTo_succ]; exact HB.out.1, HB.out.2⟩
          case measure => simp [intOf]; omega
    · obtain rfl : s = 15 := by omega
      have HB := Lib.hid (And.intro hown hM)
      clear hown hM
      go_wp2_with fail
      go_ret
      obtain ⟨h9, hM9⟩ := HB.out
      have h9' : IntsOwn _ _ _ ord8 := h9
      obtain ⟨A9, c9, hv9⟩ := own_shape h9'
      subst hv9
      have hl := ord8_facts.1
      have hin := h9'.in_
      rw [hl] at hin
      rcases h9'.2 with ⟨hv, h0⟩ | ⟨g, cap, cur, hv, hB, _⟩
      · rw [hl] at h0; cases h0
      · injection hv with e1 e2 e3
        subst e1
        exact ⟨g, c9, by rw [hl]; rfl, hB, hin, hM9⟩
end Go.Proofs.YteppnjgfebcmjaaGreat

/-
  lift.Unsort of 64.
-/
namespace Go.Proofs.YteppnjgfebcmjaaGreat
open Go.RowKit

def unsTo (b : List Int) : Nat → List Int
  | 0 => List.replicate 64 0
  | k + 1 => (unsTo b k).set (ord8.getD k 0).toNat (b.getD k 0)
theorem unsTo_length (b : List Int) (k : Nat) : (unsTo b k).length = 64 := by
  induction k with
  | zero => simp [unsTo]
  | succ k ih => simp [unsTo, ih]
/-- The block whose numbers in order these are. -/
def unsortL (b : List Int) : List Int := unsTo b 64
def UnsRel (w : World) (ob : Nat) (b : List Int) (v18 : Value) (wr : World) : Prop := ∃ k : Nat, k ≤ 64 ∧ v18 = .int .i64 (k : Int) ∧ Blk wr ob 3 (i64s (unsTo b k)).toArray ∧ Mod (· = ob) w wr

set_option maxRecDepth 100000 in
set_option maxHeartbeats 4000000 in
theorem lUnsort (w : World) (A : Option Addr) (c : Nat) (l : List Int) (hin : IntsIn w A 64 c l) : Calls Tryz.prog 164 #[.slice A 64 c] w fun e w' => ∃ ob, e = .returned (.slice (some ⟨ob, 0, none⟩) 64 64) ∧ Blk w' ob 3 (i64s (unsortL l)).toArray ∧ w.heap.size ≤ ob ∧ Mod (fun _ => False) w w' := by
  obtain ⟨b, off, hA, hb, hcell⟩ := hin.place (by omega)
  subst hA
  have HC := Lib.hid hcell
  clear hcell hin
  go_enter Tryz.func164, Tryz.ntmps164
  go_wp2_with fail
  refine (liftSide _ 64 (by omega)).mono ?_
  rintro e w1 ⟨rfl, rfl⟩
  rw [show ((sideOf 64 : Nat) : Int) = 8 from rfl]
  go_wp2_with (refine wpList_mk_int _ rfl (.tmp 13) (.tmp 13) rfl 64 rfl rfl (by omega) ?_; intro w1 hb1 hm1; have HO := Lib.hid (And.intro hb1 hm1); clear hb1 hm1)
  refine (lOrder _).mono ?_
  rintro e w2 ⟨b2, c2, rfl, hbb2, hin2, hm2⟩
  obtain ⟨_, off2, hA2, hb2, hcell2⟩ := hin2.place (by omega)
  injection hA2 with hA2
  injection hA2 with hA2 hA3 _
  subst hA2 hA3
  have hob := HO.out.1.keep hm2 (fun h => h)
  have M2 := HO.out.2.trans hm2
  have HC2 := Lib.hid hcell2
  obtain ⟨ob, hobe⟩ : ∃ ob, ob = w.heap.size := ⟨_, rfl⟩
  rw [← hobe] at hob ⊢
  have hlo := HO.out.1.lt
  have hb2n : ¬ b2 = ob := by omega
  clear hlo hbb2
  have hbn : ¬ b = ob := by omega
  have how : w.heap.size ≤ ob := by omega
  have HH := Lib.hid (And.intro hob M2)
  clear hcell2 hin2 hm2 HO hob M2 hobe
  go_wp2_with fail
  go_loopw [18] (UnsRel w2 ob l) (fun i _ => 64 - (intOf i).toNat)
  case atStart => exact ⟨0, by omega, rfl, HH.out.1, Mod.refl _ _⟩
  case round =>
    obtain ⟨k, hk, rfl, hbk, hM⟩ := hrel
    by_cases hlt : k < 64
    · have dk : decide ((k : Int) < 64) = true := decide_eq_true (by omega)
      have p0 : (0 : Int) ≤ (k : Int) := by omega
      have p1 : (k : Int) < 64 := by omega
      have hMw : Mod (· = ob) w wr := (HH.out.2.mono (fun _ h => h.elim)).trans hM
      have k1 : wr.cell? ⟨b, off + k, none⟩ = some (.int .i64 (l.getD k 0)) := (World.cell?_of_block (hMw.block b hb hbn)).trans (HC.out k hlt)
      have k2 : wr.cell? ⟨b2, k, none⟩ = some (.int .i64 (ord8.getD k 0)) := (World.cell?_of_block (hM.block b2 hb2 hb2n)).trans (by have := HC2.out k hlt; rwa [Nat.zero_add] at this)
      have hpl := ord8_facts.2 k hlt
      obtain ⟨pl, hpe⟩ : ∃ pl : Nat, (pl : Int) = ord8.getD k 0 := ⟨(ord8.getD k 0).toNat, by omega⟩
      rw [← hpe] at k2 hpl
      have HS : Hid (unsTo l (k + 1) = (unsTo l k).set pl (l.getD k 0)) := by show _ = _; rw [unsTo, ← hpe]; simp
      clear hpe
      generalize l.getD k 0 = v at *
      have p2 : (0 : Int) ≤ (pl : Int) := by omega
      have p3 : (pl : Int) < 64 := by omega
      have k3 : wr.cell? ⟨ob, pl, none⟩ = some (.int .i64 ((unsTo l k).getD pl 0)) := by rw [hbk.cell]; simp [i64s, List.getD_eq_getElem?_getD, unsTo_length, show pl < 64 by omega]
      have f3 := hbk.frozen pl
      have HB := Lib.hid (And.intro hbk (And.intro hM hMw))
      have hl := hbk.lt
      clear hbk hM hMw hpl
      generalize (unsTo l k).getD pl 0 = old at *
      go_wp2_with fail
      go_roundw
      case rel =>
        refine ⟨k + 1, by omega, by go_num, ?_, HB.out.2.1.setCell (.inl rfl) _⟩
        rw [HS.out]
        exact HB.out.1.put (by simp [i64s, List.map_set])
      case measure => simp [intOf]; omega
    · obtain rfl : k = 64 := by omega
      have HB := Lib.hid (And.intro hbk hM)
      clear hbk hM
      go_wp2_with fail
      go_ret
      exact ⟨ob, rfl, HB.out.1, how, HH.out.2.into HB.out.2 (fun i e => .inr (by omega))⟩
end Go.Proofs.YteppnjgfebcmjaaGreat
