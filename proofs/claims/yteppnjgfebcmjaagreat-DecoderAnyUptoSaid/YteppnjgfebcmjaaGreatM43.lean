/-
  book.New.
-/
import Derived.Test.YteppnjgfebcmjaaGreatM31
import Derived.Test.YteppnjgfebcmjaaGreatM25
import Derived.Test.YteppnjgfebcmjaaGreatM42
import Derived.Test.YteppnjgfebcmjaaGreatM38
import Derived.Great.BuildSlice
import Derived.Deep.RegionHeld3
namespace Go.Proofs.YteppnjgfebcmjaaGreat
open Go.RowKit

def fillC (k : Nat) : List Nat := List.replicate k 1024 ++ List.replicate (37 - k) 0
theorem fillC_length (k : Nat) (h : k ≤ 37) : (fillC k).length = 37 := by simp [fillC]; omega
theorem fillC_set (k : Nat) (h : k < 37) : (u16s (fillC k)).set k (.int .u16 1024) = u16s (fillC (k + 1)) := by
  apply List.ext_getElem
  · simp [u16s, fillC]; omega
  · intro i h1 h2
    have hi : i < 37 := by simp [u16s, fillC] at h2; omega
    rw [List.getElem_set]
    by_cases e : k = i
    · subst e
      simp [u16s, fillC]
    · rw [if_neg e]
      simp only [u16s, List.getElem_map, fillC, List.getElem_append, List.length_replicate, List.getElem_replicate]
      split <;> split <;> first | rfl | omega
theorem fillC_cell (k : Nat) (h : k < 37) : (u16s (fillC k)).toArray[k]? = some (.int .u16 0) := by
  have h1 : (fillC k)[k]? = some 0 := by
    unfold fillC
    rw [List.getElem?_append_right (by simp), List.length_replicate, Nat.sub_self, List.getElem?_replicate, if_pos (by omega)]
  simp [u16s, h1]
def FillRel (w : World) (c o : Nat) (v : Value) (wr : World) : Prop :=
  ∃ k : Nat, k ≤ 37 - o ∧ v = .int .i64 (k : Int) ∧ Blk wr c 166 (u16s (fillC (o + k))).toArray ∧ Mod (fun _ => False) w wr
def Fill1 (w : World) (c : Nat) (v : Value) (wr : World) : Prop := ∃ k : Nat, k ≤ 20 ∧ v = .int .i64 (k : Int) ∧ Blk wr c 166 (u16s (fillC k)).toArray ∧ Mod (fun _ => False) w wr
def Fill2 (w : World) (c : Nat) (v : Value) (wr : World) : Prop := ∃ k : Nat, k ≤ 16 ∧ v = .int .i64 (k : Int) ∧ Blk wr c 166 (u16s (fillC (20 + k))).toArray ∧ Mod (fun _ => False) w wr
def fillB (k : Nat) : List Nat := List.replicate (k * 37) 1024 ++ List.replicate (592 - k * 37) 0
theorem fillB_length (k : Nat) (h : k ≤ 16) : (fillB k).length = 592 := by simp [fillB]; omega
theorem fillB_put (k : Nat) (h : k < 16) : splice (u16s (fillB k)) (k * 37) (u16s (fillC 37)) = u16s (fillB (k + 1)) := by
  have h1 : u16s (fillC 37) = List.replicate 37 (.int .u16 1024) := by simp [u16s, fillC]
  have h2 : ∀ k, u16s (fillB k) = List.replicate (k * 37) (.int .u16 1024) ++ List.replicate (592 - k * 37) (.int .u16 0) := fun k => by simp [u16s, fillB]
  rw [h1, h2, h2]
  unfold splice
  rw [List.take_append_of_le_length (by simp), List.take_of_length_le (by simp), List.drop_append, List.drop_eq_nil_of_le (by simp), List.nil_append, List.drop_replicate, ← List.append_assoc, List.replicate_append_replicate]
  congr 1
  · congr 1; omega
  · congr 1; simp; omega
def Fill3 (w : World) (c b : Nat) (v : Value) (wr : World) : Prop := ∃ k : Nat, k ≤ 16 ∧ v = .int .i64 (k : Int) ∧ Blk wr b 169 (u16s (fillB k)).toArray ∧ Blk wr c 166 (u16s (fillC 37)).toArray ∧ Mod (fun _ => False) w wr
theorem zero166 : (u16s (fillC 0)).toArray.size = 37 := by decide
theorem ch_one (l : List Nat) : ∀ v ∈ u16s l, v.oneCell' = true := fun v hv => by
  obtain ⟨x, _, rfl⟩ := List.mem_map.1 hv
  rfl

set_option maxRecDepth 100000 in
set_option maxHeartbeats 4000000 in
theorem bNew (w : World) : Calls Tryz.prog 62 #[] w fun e w' => ∃ b, e = .returned (.pointer (some ⟨b, 0, none⟩)) ∧ Blk w' b 169 (u16s (fillB 16)).toArray ∧ w.heap.size ≤ b ∧ Mod (fun _ => False) w w' := by
  have hz : Tryz.zeroCells169 = (u16s (fillB 0)).toArray := by kernel_rfl
  have HZ := Lib.hid hz
  clear hz
  have hb0 : Blk (w.alloc (.cells (u16s (fillC 0)).toArray 166)) w.heap.size 166 (u16s (fillC 0)).toArray := Blk.new _ _ _
  have m0 : Mod (fun _ => False) w (w.alloc (.cells (u16s (fillC 0)).toArray 166)) := (Mod.refl _ _).alloc _
  have HM := Lib.hid (And.intro hb0 m0)
  clear hb0 m0
  go_enter Tryz.func62, Tryz.ntmps62
  go_upto_region 2 with (fail)
  rw [show w.alloc (.cells #[.int .u16 0, .int .u16 0, .int .u16 0, .int .u16 0, .int .u16 0, .int .u16 0, .int .u16 0, .int .u16 0, .int .u16 0, .int .u16 0, .int .u16 0, .int .u16 0, .int .u16 0, .int .u16 0, .int .u16 0, .int .u16 0, .int .u16 0, .int .u16 0, .int .u16 0, .int .u16 0, .int .u16 0, .int .u16 0, .int .u16 0, .int .u16 0, .int .u16 0, .int .u16 0, .int .u16 0, .int .u16 0, .int .u16 0, .int .u16 0, .int .u16 0, .int .u16 0, .int .u16 0, .int .u16 0, .int .u16 0, .int .u16 0, .int .u16 0] 166) = w.alloc (.cells (u16s (fillC 0)).toArray 166) from rfl]
  generalize hw1 : w.alloc (.cells (u16s (fillC 0)).toArray 166) = w1 at *
  go_wp2_with fail
  go_loopw [6] (Fill1 w w.heap.size) (fun i _ => 20 - (intOf i).toNat)
  case atStart => exact ⟨0, by omega, rfl, HM.out.1, HM.out.2⟩
  case round =>
    obtain ⟨k, hk, rfl, hb, hM⟩ := hrel
    by_cases hlt : k < 20
    · have d1 : decide ((k : Int) < 20) = true := decide_eq_true (by omega)
      have p0 : (0 : Int) ≤ (k : Int) := by omega
      have p1 : (k : Int) < 20 := by omega
      have ck : wr.cell? ⟨w.heap.size, k, none⟩ = some (.int .u16 0) := (hb.cell k).trans (fillC_cell k (by omega))
      have fk := hb.frozen k
      have hl := hb.lt
      have HB := Lib.hid (And.intro hb hM)
      clear hb hM
      go_wp2_with fail
      go_roundw
      case rel => exact ⟨k + 1, by omega, by go_num, HB.out.1.put (by simpa using fillC_set k (by omega)), HB.out.2.setCell (.inr (Nat.le_refl _)) _⟩
      case measure => simp [intOf]; omega
    · obtain rfl : k = 20 := by omega
      have HB := Lib.hid (And.intro hb hM)
      clear hb hM
      go_wp2_with fail
      go_loopw [13] (Fill2 w w.heap.size) (fun i _ => 16 - (intOf i).toNat)
      case atStart => exact ⟨0, by omega, rfl, HB.out.1, HB.out.2⟩
      case round =>
        clear HB
        obtain ⟨k, hk, rfl, hb, hM⟩ := hrel
        by_cases hlt : k < 16
        · have d1 : decide ((k : Int) < 16) = true := decide_eq_true (by omega)
          have p0 : (0 : Int) ≤ (k : Int) := by omega
          have p1 : (k : Int) < 16 := by omega
          have ck : wr.cell? ⟨w.heap.size, 20 + k, none⟩ = some (.int .u16 0) := (hb.cell (20 + k)).trans (fillC_cell (20 + k) (by omega))
          have fk := hb.frozen (20 + k)
          have hl := hb.lt
          have HB := Lib.hid (And.intro hb hM)
          clear hb hM
          go_wp2_with fail
          go_roundw
          case rel => exact ⟨k + 1, by omega, by go_num, HB.out.1.put (by rw [← Nat.add_assoc]; simpa using fillC_set (20 + k) (by omega)), HB.out.2.setCell (.inr (Nat.le_refl _)) _⟩
          case measure => simp [intOf]; omega
        · obtain rfl : k = 16 := by omega
          have ck : wr.cell? ⟨w.heap.size, 36, none⟩ = some (.int .u16 0) := by rw [hb.cell]; rfl
          have fk := hb.frozen 36
          have hl := hb.lt
          have hb2 : Blk (wr.setCell ⟨w.heap.size, 36, none⟩ (.int .u16 1024)) w.heap.size 166 (u16s (fillC 37)).toArray := hb.put (by simpa using fillC_set 36 (by omega))
          have hM2 : Mod (fun _ => False) w (wr.setCell ⟨w.heap.size, 36, none⟩ (.int .u16 1024)) := hM.setCell (.inr (Nat.le_refl _)) _
          have HB := Lib.hid (And.intro hb2 hM2)
          clear hb hM hb2 hM2
          go_upto_region 13 with (fail)
          clear ck fk hl
          generalize wr.setCell ⟨w.heap.size, 36, none⟩ (.int .u16 1024) = w2 at *
          go_upto_region 14 with (fail)
          rw [HZ.out]
          have hb3 : Blk (w2.alloc (.cells (u16s (fillB 0)).toArray 169)) w2.heap.size 169 (u16s (fillB 0)).toArray := Blk.new _ _ _
          have hc3 := HB.out.1.alloc (.cells (u16s (fillB 0)).toArray 169)
          have hM3 := HB.out.2.alloc (.cells (u16s (fillB 0)).toArray 169)
          have hs2 := HB.out.2.size
          have hcl := HB.out.1.lt
          generalize hbk : w2.heap.size = bk at *
          generalize w2.alloc (.cells (u16s (fillB 0)).toArray 169) = w3 at *
          have HB3 := Lib.hid (And.intro hb3 (And.intro hc3 hM3))
          clear hb3 hc3 hM3 HB hbk
          obtain ⟨ch, hch⟩ : ∃ ch, ch = w.heap.size := ⟨_, rfl⟩
          rw [← hch] at HB3 hcl ⊢
          clear HM
          have HCH := Lib.hid hch
          clear hch
          go_wp2_with fail
          go_loopw [23] (Fill3 w ch bk) (fun i _ => 16 - (intOf i).toNat)
          case atStart => exact ⟨0, by omega, rfl, HB3.out.1, HB3.out.2.1, HB3.out.2.2⟩
          case round =>
            clear HB3
            obtain ⟨k, hk, rfl, hb, hc, hM⟩ := hrel
            by_cases hlt : k < 16
            · have d1 : decide ((k : Int) < 16) = true := decide_eq_true (by omega)
              have p0 : (0 : Int) ≤ (k : Int) := by omega
              have p1 : (k : Int) < 16 := by omega
              have HB := Lib.hid (And.intro hb (And.intro hc hM))
              clear hb hc hM
              go_upto_region 17 with (fail)
              refine wp_region_still_tail 6 (by kernel_rfl) (by kernel_rfl) ?_
              simp only [List.take_succ_cons, List.take_zero, List.drop_succ_cons, List.drop_zero]
              repeat (first | (refine wpStill_load_row rfl 166 (.tmp 1) rfl ch rfl 166 (u16s (fillC 37)).toArray _ HB.out.2.1 Tryz.underlying166 rfl (by kernel_rfl) ?_) | still_step)
              refine wpStill_nil ?_
              change wpList _ _ _ _ _ wr.drew
              refine wpList_store_part rfl 166 (.tmp 31) (.tmp 28) rfl bk (k * 37) (u16s (fillC 37)) rfl rfl 169 (u16s (fillB k)) HB.out.1 (by kernel_rfl) (by simp [u16s, fillC, fillB]; omega) (ch_one _) ?_
              intro w5 hb5 hm5
              rw [fillB_put k hlt] at hb5
              have hc5 := HB.out.2.1.keep (w := wr.drew) hm5 (by omega)
              have hM5 : Mod (fun _ => False) w w5 := (HB.out.2.2.drew).into hm5 (fun i e => .inr (by omega))
              have HB5 := Lib.hid (And.intro hb5 (And.intro hc5 hM5))
              clear hb5 hc5 hM5 hm5
              go_wp2_with fail
              go_roundw
              case rel => ((repeat apply Exists.intro); exact ⟨⟨k + 1, by omega, by go_num, HB5.out.1, HB5.out.2.1, HB5.out.2.2⟩, rfl⟩)
              case measure => simp [intOf]; omega
            · obtain rfl : k = 16 := by omega
              have HB := Lib.hid (And.intro hb hM)
              clear hb hc hM
              go_wp2_with fail
              go_ret
              exact ⟨bk, rfl, HB.out.1, hs2, HB.out.2⟩
end Go.Proofs.YteppnjgfebcmjaaGreat

/-
  decoder: a frame's squares, plain.
-/
namespace Go.Proofs.YteppnjgfebcmjaaGreat
open Go.RowKit

/-- The last n squares of the row at y. -/
def rowS (d : Dim) (ahd : Pix) (K : Bool) (Q : Int) (y : Nat) : Nat → Pix → St → Option (Pix × St)
  | 0, f, s => some (f, s)
  | n + 1, f, s => (squareS d ahd K Q (d.W - 16 * (n + 1)) y f s).bind fun a => rowS d ahd K Q y n a.1 a.2
/-- The last n rows of squares. -/
def rowsS (d : Dim) (ahd : Pix) (K : Bool) (Q : Int) : Nat → Pix → St → Option (Pix × St)
  | 0, f, s => some (f, s)
  | n + 1, f, s => (rowS d ahd K Q (d.H - 16 * (n + 1)) (d.W / 16) f s).bind fun a => rowsS d ahd K Q n a.1 a.2
/-- What a code stands for: a frame, not smooth yet. -/
def builtS (d : Dim) (ahd : Pix) (K : Bool) (Q : Int) (code : List UInt8) : Option Pix :=
  if code.length < 4 then none else
    (rowsS d ahd K Q (d.H / 16) (blankPix d 0) ⟨fillB 16, code.drop 4, be (code.take 4), 4294967295⟩).bind fun a => if a.2.code = [] ∧ a.2.rest = 0 then some a.1 else none
end Go.Proofs.YteppnjgfebcmjaaGreat

/-
  plane.Copy.
-/
namespace Go.Proofs.YteppnjgfebcmjaaGreat
open Go.RowKit

theorem fr_cells {w : World} {p : Nat} {a b c d e f g h i : Value} (hb : Blk w p 37 #[a, b, c, d, e, f, g, h, i]) : w.cell? ⟨p, 0, none⟩ = some a ∧ w.cell? ⟨p, 1, none⟩ = some b ∧ w.cell? ⟨p, 2, none⟩ = some c ∧ w.cell? ⟨p, 3, none⟩ = some d ∧ w.cell? ⟨p, 4, none⟩ = some e ∧ w.cell? ⟨p, 5, none⟩ = some f ∧ w.cell? ⟨p, 6, none⟩ = some g ∧ w.cell? ⟨p, 7, none⟩ = some h ∧ w.cell? ⟨p, 8, none⟩ = some i :=
  ⟨hb.cell 0, hb.cell 1, hb.cell 2, hb.cell 3, hb.cell 4, hb.cell 5, hb.cell 6, hb.cell 7, hb.cell 8⟩

set_option maxRecDepth 100000 in
set_option maxHeartbeats 4000000 in
theorem pCopy (w : World) (d : Dim) (hd : d.Ok) (gy gu gv : Nat) (f : Pix) (hf : FrameAt w d gy gu gv f) : Calls Tryz.prog 28 #[.agg (frameV d gy gu gv).toArray] w fun e w' => ∃ p, e = .returned p ∧ FrameMade w d f p w' ∧ Mod (fun _ => False) w w' := by
  unfold frameV
  have HD := Lib.hid (And.intro hd hf)
  clear hd hf
  have HS := ((((Sat.nil (fun _ => False) w).alloc 37 #[.int .i64 (d.W : Int), .int .i64 (d.H : Int), .slice (some ⟨gy, 0, none⟩) d.nY d.nY, .int .i64 (d.W2 : Int), .int .i64 (d.H2 : Int), .slice (some ⟨gu, 0, none⟩) d.nC d.nC, .int .i64 (d.W2 : Int), .int .i64 (d.H2 : Int), .slice (some ⟨gv, 0, none⟩) d.nC d.nC] rfl).alloc (g := w.heap.size + 1) 37 #[.int .i64 0, .int .i64 0, .slice none 0 0, .int .i64 0, .int .i64 0, .slice none 0 0, .int .i64 0, .int .i64 0, .slice none 0 0] (by simp))).drew
  have x0 := HS.own_ 1 rfl
  dsimp only at x0
  go_enter Tryz.func28, Tryz.ntmps28
  go_wp2_with fail
  obtain ⟨fb, hfb⟩ : ∃ fb, fb = w.heap.size := ⟨_, rfl⟩
  rw [← hfb] at x0 HS ⊢
  obtain ⟨res, hres⟩ : ∃ res, res = fb + 1 := ⟨_, rfl⟩
  rw [← hres] at HS ⊢
  have n1 : fb ≠ res := by omega
  clear hfb hres
  go_region_held3 (fun w' => w'.cell? ⟨fb, 0, none⟩ = some (.int .i64 (d.W : Int)) ∧ w'.cell? ⟨fb, 1, none⟩ = some (.int .i64 (d.H : Int)) ∧ w'.cell? ⟨fb, 2, none⟩ = some (.slice (some ⟨gy, 0, none⟩) d.nY d.nY) ∧ w'.cell? ⟨fb, 3, none⟩ = some (.int .i64 (d.W2 : Int)) ∧ w'.cell? ⟨fb, 4, none⟩ = some (.int .i64 (d.H2 : Int)) ∧ w'.cell? ⟨fb, 5, none⟩ = some (.slice (some ⟨gu, 0, none⟩) d.nC d.nC) ∧ w'.cell? ⟨fb, 6, none⟩ = some (.int .i64 (d.W2 : Int)) ∧ w'.cell? ⟨fb, 7, none⟩ = some (.int .i64 (d.H2 : Int)) ∧ w'.cell? ⟨fb, 8, none⟩ = some (.slice (some ⟨gv, 0, none⟩) d.nC d.nC)) (first | with_reducible exact fr_cells x0 | exact fr_cells (by repeat' (first | with_reducible exact x0 | with_reducible refine Blk.far ?_ n1 _))) (first | (go_at_call 67; (with_reducible refine (pOwn _ d.W d.H (some ⟨gy, 0, none⟩) d.nY d.nY f.Y HD.out.1.nyle (blkIn (HD.out.2.quiet HS.mod).by_ HD.out.2.ly HD.out.1.nyle)).mono ?_); rintro e w2 ⟨g1, rfl, hb1, hg1, hm1⟩; have HS := Sat.grew hm1 HS hb1 hg1; have x0 := x0.keep hm1 (fun h => h); clear hb1 hg1 hm1) | (go_at_call 67; (with_reducible refine (pOwn _ d.W2 d.H2 (some ⟨gu, 0, none⟩) d.nC d.nC f.U HD.out.1.ncle (blkIn (HD.out.2.quiet HS.mod).bu HD.out.2.lu HD.out.1.ncle)).mono ?_); rintro e w3 ⟨g2, rfl, hb1, hg1, hm1⟩; have HS := Sat.grew hm1 HS hb1 hg1; have x0 := x0.keep hm1 (fun h => h); clear hb1 hg1 hm1) | (go_at_call 67; (with_reducible refine (pOwn _ d.W2 d.H2 (some ⟨gv, 0, none⟩) d.nC d.nC f.V HD.out.1.ncle (blkIn (HD.out.2.quiet HS.mod).bv HD.out.2.lv HD.out.1.ncle)).mono ?_); rintro e w4 ⟨g3, rfl, hb1, hg1, hm1⟩; have HS := Sat.grew hm1 HS hb1 hg1; have x0 := x0.keep hm1 (fun h => h); clear hb1 hg1 hm1; obtain ⟨rc, rf⟩ := (HS.own_ 3 rfl).both))
  have HE := (((((((((HS).put (g := res) (i := 0) (u := .int .i64 (d.W : Int)) (.there (.there (.there (.here rfl))))).put (g := res) (i := 1) (u := .int .i64 (d.H : Int)) (.there (.there (.there (.here rfl))))).put (g := res) (i := 2) (u := .slice (some ⟨g1, 0, none⟩) d.nY d.nY) (.there (.there (.there (.here rfl))))).put (g := res) (i := 3) (u := .int .i64 (d.W2 : Int)) (.there (.there (.there (.here rfl))))).put (g := res) (i := 4) (u := .int .i64 (d.H2 : Int)) (.there (.there (.there (.here rfl))))).put (g := res) (i := 5) (u := .slice (some ⟨g2, 0, none⟩) d.nC d.nC) (.there (.there (.there (.here rfl))))).put (g := res) (i := 6) (u := .int .i64 (d.W2 : Int)) (.there (.there (.there (.here rfl))))).put (g := res) (i := 7) (u := .int .i64 (d.H2 : Int)) (.there (.there (.there (.here rfl))))).put (g := res) (i := 8) (u := .slice (some ⟨g3, 0, none⟩) d.nC d.nC) (.there (.there (.there (.here rfl))))
  clear x0
  have h1 := HE.own_ 2 rfl
  have h2 := HE.own_ 1 rfl
  have h3 := HE.own_ 0 rfl
  dsimp only at h1 h2 h3
  have l1 : w.heap.size ≤ g1 := HE.low 2 rfl
  have l2 : w.heap.size ≤ g2 := HE.low 1 rfl
  have l3 : w.heap.size ≤ g3 := HE.low 0 rfl
  have a12 : g2 ≠ g1 := HE.apart 1 2 rfl rfl (by omega)
  have a13 : g3 ≠ g1 := HE.apart 0 2 rfl rfl (by omega)
  have a23 : g3 ≠ g2 := HE.apart 0 1 rfl rfl (by omega)
  have HM := HE.mod
  clear HE HS
  go_wp2_with fail
  refine bodyPost_ret (v := .agg (frameV d g1 g2 g3).toArray) (by simp [results, Tryz.results28, go_sem, rc, frameV]) rfl ⟨_, rfl, ⟨g1, g2, g3, rfl, ?_, l1, l2, l3⟩, HM⟩
  exact ⟨h1, h2, h3, HD.out.2.ly, HD.out.2.lu, HD.out.2.lv, a12.symm, a13.symm, a23.symm⟩
end Go.Proofs.YteppnjgfebcmjaaGreat
