/-
  lift: the columns of a block taken back.
-/
import Derived.Test.YteppnjgfebcmjaaGreatM3
namespace Go.Proofs.YteppnjgfebcmjaaGreat
open Go.RowKit

def back8 (l : List Int) : List Int := upL 4 (upL 2 (upL 1 l))
theorem back8_length (l : List Int) : (back8 l).length = l.length := by simp [back8, upL, upK_length]
theorem back8_within {M : Int} {l : List Int} (h : Within M l) : Within (27 * M + 13) (back8 l) := by
  have w1 := up_within _ 1 l h 1
  have w2 := up_within _ 2 _ w1 2
  have w3 := up_within _ 4 _ w2 4
  intro i
  have := w3 i
  simp only [back8, upL]
  omega

theorem doBack (w : World) (g nb : Nat) (l : List Int) (hl : l.length = 8) (hM : Within 1099511627776 l) (hb : Blk w g 196 (i64s l).toArray) (hn : Blk w nb 3 #[.int .i64 8]) :
    Calls Tryz.prog 84 #[.pointer (some ⟨g, 0, none⟩), .pointer (some ⟨nb, 0, none⟩)] w fun e w' => e = .returned (.tuple #[]) ∧ Blk w' g 196 (i64s (back8 l)).toArray ∧ Mod (· = g) w w' := by
  obtain ⟨hc, hf⟩ := hn.both
  have HB := Lib.hid hb
  clear hb hn
  go_enter Tryz.func84, Tryz.ntmps84
  go_wp2_with fail
  refine (lineBack _ g l hl hM HB.out).mono ?_
  rintro e w1 ⟨rfl, hb1, hm1⟩
  have HF := Lib.hid (And.intro hb1 hm1)
  clear hb1 hm1
  go_wp2_with fail
  go_end0
  exact ⟨rfl, HF.out⟩

/-- A column of a block of eight times eight. -/
def colOf (x : Nat) (L : List Int) : List Int := (List.range 8).map fun y => L.getD (y * 8 + x) 0
theorem colOf_length (x : Nat) (L : List Int) : (colOf x L).length = 8 := by simp [colOf]
theorem colOf_getD (x : Nat) (L : List Int) (y : Nat) (hy : y < 8) : (colOf x L).getD y 0 = L.getD (y * 8 + x) 0 := by
  simp [colOf, List.getD_eq_getElem?_getD, hy]
theorem colOf_within {M : Int} {L : List Int} (h : Within M L) (h0 : 0 ≤ M) (x : Nat) : Within M (colOf x L) := by
  intro y
  by_cases hy : y < 8
  · rw [colOf_getD x L y hy]; exact h _
  · have : (colOf x L).getD y 0 = 0 := by rw [List.getD_eq_getElem?_getD, List.getElem?_eq_none (by rw [colOf_length]; omega)]; rfl
    rw [this]; omega
def fillK (c : List Int) : Nat → List Int
  | 0 => [0, 0, 0, 0, 0, 0, 0, 0]
  | y + 1 => (fillK c y).set y (c.getD y 0)
theorem fillK_length (c : List Int) (y : Nat) : (fillK c y).length = 8 := by
  induction y with
  | zero => rfl
  | succ y ih => simp [fillK, ih]
theorem eight (c : List Int) (h : c.length = 8) : c = [c.getD 0 0, c.getD 1 0, c.getD 2 0, c.getD 3 0, c.getD 4 0, c.getD 5 0, c.getD 6 0, c.getD 7 0] := by
  match c, h with
  | [_, _, _, _, _, _, _, _], _ => rfl
theorem fillK_all (c : List Int) (h : c.length = 8) : fillK c 8 = c := by
  rw [eight c h]; rfl
def colK (x : Nat) (c L : List Int) : Nat → List Int
  | 0 => L
  | y + 1 => (colK x c L y).set (y * 8 + x) (c.getD y 0)
theorem colK_length (x : Nat) (c L : List Int) (y : Nat) : (colK x c L y).length = L.length := by
  induction y with
  | zero => rfl
  | succ y ih => simp [colK, ih]
def colsK (L : List Int) : Nat → List Int
  | 0 => L
  | x + 1 => colK x (back8 (colOf x (colsK L x))) (colsK L x) 8
theorem colsK_length (L : List Int) (x : Nat) : (colsK L x).length = L.length := by
  induction x with
  | zero => rfl
  | succ x ih => simp [colsK, colK_length, ih]
theorem colK_getD (x : Nat) (c L : List Int) (hL : L.length = 64) (hx : x < 8) (n y x' : Nat) (hn : n ≤ 8) (hx' : x' < 8) (hy : y < 8) :
    (colK x c L n).getD (y * 8 + x') 0 = if x' = x ∧ y < n then c.getD y 0 else L.getD (y * 8 + x') 0 := by
  induction n with
  | zero => simp [colK]
  | succ n ih =>
    rw [colK, getD_set, colK_length, ih (by omega)]
    by_cases e : n * 8 + x = y * 8 + x'
    · obtain ⟨rfl, rfl⟩ : n = y ∧ x = x' := by omega
      rw [if_pos ⟨rfl, by omega⟩, if_pos ⟨rfl, by omega⟩]
    · rw [if_neg (fun h => e h.1)]
      by_cases e2 : x' = x ∧ y < n
      · rw [if_pos e2, if_pos ⟨e2.1, by omega⟩]
      · rw [if_neg e2, if_neg (fun h => e2 ⟨h.1, by omega⟩)]
theorem colsK_getD (L : List Int) (hL : L.length = 64) (n y x : Nat) (hn : n ≤ 8) (hx : x < 8) (hy : y < 8) :
    (colsK L n).getD (y * 8 + x) 0 = if x < n then (back8 (colOf x L)).getD y 0 else L.getD (y * 8 + x) 0 := by
  induction n generalizing x y with
  | zero => simp [colsK]
  | succ n ih =>
    rw [colsK, colK_getD n _ _ (by rw [colsK_length]; exact hL) (by omega) 8 y x (by omega) hx hy, ih y x (by omega) hx hy]
    by_cases e : x = n
    · subst e
      rw [if_pos ⟨rfl, hy⟩, if_pos (by omega)]
      congr 2
      unfold colOf
      apply List.map_congr_left
      intro a ha
      rw [ih a x (by omega) hx (by simpa using ha), if_neg (by omega)]
    · rw [if_neg (fun h => e h.1)]
      by_cases e2 : x < n
      · rw [if_pos e2, if_pos (by omega)]
      · rw [if_neg e2, if_neg (by omega)]
theorem within_of {M : Int} {L : List Int} (hL : L.length = 64) (h : ∀ y < 8, ∀ x < 8, -M ≤ L.getD (y * 8 + x) 0 ∧ L.getD (y * 8 + x) 0 ≤ M) (h0 : 0 ≤ M) : Within M L := by
  intro i
  by_cases hi : i < 64
  · have := h (i / 8) (by omega) (i % 8) (by omega)
    rwa [show i / 8 * 8 + i % 8 = i by omega] at this
  · have : L.getD i 0 = 0 := by rw [List.getD_eq_getElem?_getD, List.getElem?_eq_none (by omega)]; rfl
    rw [this]; omega
theorem colsK_within {M : Int} {L : List Int} (hL : L.length = 64) (h : Within M L) (h0 : 0 ≤ M) (n : Nat) (hn : n ≤ 8) : Within (27 * M + 13) (colsK L n) := by
  refine within_of (by rw [colsK_length]; exact hL) (fun y hy x hx => ?_) (by omega)
  rw [colsK_getD L hL n y x hn hx hy]
  split
  · exact back8_within (colOf_within h h0 x) y
  · have := h (y * 8 + x); omega

theorem row_cell {w : World} {r : Nat} {t : TypeId} {L : List Int} {tl : List Value} (hb : Blk w r t (i64s L ++ tl).toArray) (i : Nat) (hi : i < L.length) : w.cell? ⟨r, i, none⟩ = some (.int .i64 (L.getD i 0)) := by
  rw [hb.cell, List.getElem?_toArray, List.getElem?_append_left (by rw [i64s_length]; exact hi)]
  exact getD_i64s L i hi
theorem row_set {w : World} {r : Nat} {t : TypeId} {L : List Int} {tl : List Value} (hb : Blk w r t (i64s L ++ tl).toArray) (i : Nat) (hi : i < L.length) (x : Int) : Blk (w.setCell ⟨r, i, none⟩ (.int .i64 x)) r t (i64s (L.set i x) ++ tl).toArray := by
  have := hb.set_ i (.int .i64 x)
  have e : (i64s L ++ tl).toArray.setIfInBounds i (.int .i64 x) = (i64s (L.set i x) ++ tl).toArray := by
    simp only [List.setIfInBounds_toArray, i64s, List.map_set]
    rw [List.set_append_left _ _ (by simpa using hi)]
  rwa [e] at this

def colsRel (w : World) (r nb : Nat) (L : List Int) (tl : List Value) (v : Value) (wr : World) : Prop :=
  ∃ x : Nat, x ≤ 8 ∧ v = .int .i64 (x : Int) ∧ Blk wr r 3 (i64s (colsK L x) ++ tl).toArray ∧ Blk wr nb 3 #[.int .i64 8] ∧ Mod (· = r) w wr
def fillRel (w : World) (r nb g : Nat) (c L : List Int) (tl : List Value) (v : Value) (wi : World) : Prop :=
  ∃ y : Nat, y ≤ 8 ∧ v = .int .i64 (y : Int) ∧ Blk wi g 196 (i64s (fillK c y)).toArray ∧ Blk wi r 3 (i64s L ++ tl).toArray ∧ Blk wi nb 3 #[.int .i64 8] ∧ Mod (· = r) w wi
def putRel (w : World) (r nb g x : Nat) (c L : List Int) (tl : List Value) (v : Value) (wi : World) : Prop :=
  ∃ y : Nat, y ≤ 8 ∧ v = .int .i64 (y : Int) ∧ Blk wi g 196 (i64s c).toArray ∧ Blk wi r 3 (i64s (colK x c L y) ++ tl).toArray ∧ Blk wi nb 3 #[.int .i64 8] ∧ Mod (· = r) w wi

set_option maxRecDepth 100000 in
set_option maxHeartbeats 2000000 in
theorem liftCols (w : World) (r nb cap : Nat) (L : List Int) (tl : List Value) (hL : L.length = 64) (hM : Within 34359738368 L) (hne : r ≠ nb) (hb : Blk w r 3 (i64s L ++ tl).toArray) (hn : Blk w nb 3 #[.int .i64 8]) :
    Calls Tryz.prog 86 #[.slice (some ⟨r, 0, none⟩) 64 cap, .int .i64 8, .func (.func 84) #[] #[.pointer (some ⟨nb, 0, none⟩)]] w fun e w' => e = .returned (.tuple #[]) ∧ Blk w' r 3 (i64s (colsK L 8) ++ tl).toArray ∧ Blk w' nb 3 #[.int .i64 8] ∧ Mod (· = r) w w' := by
  have HB := Lib.hid (And.intro hb hn)
  have hrl := hb.lt
  have hnl := hn.lt
  clear hb hn
  go_enter Tryz.func86, Tryz.ntmps86
  go_wp2_with fail
  go_loopw [11] (colsRel w r nb L tl) (fun x _ => 8 - (intOf x).toNat)
  case atStart => exact ⟨0, by omega, rfl, HB.out.1, HB.out.2, Mod.refl _ _⟩
  case round =>
    revert hrel
    generalize wr = wr0
    intro hrel
    obtain ⟨x, hx, rfl, hb, hn, hm⟩ := hrel
    by_cases hlt : x < 8
    · have HW := Lib.hid (And.intro hb (And.intro hn hm))
      have hsz := hm.size
      clear hb hn hm
      go_upto_region 4 with (fail)
      have HI : Hid (Blk (wr0.alloc (.cells #[.int .i64 0, .int .i64 0, .int .i64 0, .int .i64 0, .int .i64 0, .int .i64 0, .int .i64 0, .int .i64 0] 196)) wr0.heap.size 196 (i64s (fillK (colOf x (colsK L x)) 0)).toArray ∧ Blk (wr0.alloc (.cells #[.int .i64 0, .int .i64 0, .int .i64 0, .int .i64 0, .int .i64 0, .int .i64 0, .int .i64 0, .int .i64 0] 196)) r 3 (i64s (colsK L x) ++ tl).toArray ∧ Blk (wr0.alloc (.cells #[.int .i64 0, .int .i64 0, .int .i64 0, .int .i64 0, .int .i64 0, .int .i64 0, .int .i64 0, .int .i64 0] 196)) nb 3 #[.int .i64 8] ∧ Mod (· = r) w (wr0.alloc (.cells #[.int .i64 0, .int .i64 0, .int .i64 0, .int .i64 0, .int .i64 0, .int .i64 0, .int .i64 0, .int .i64 0] 196))) := ⟨Blk.new _ _ _, HW.out.1.alloc _, HW.out.2.1.alloc _, HW.out.2.2.alloc _⟩
      generalize wr0.alloc (.cells #[.int .i64 0, .int .i64 0, .int .i64 0, .int .i64 0, .int .i64 0, .int .i64 0, .int .i64 0, .int .i64 0] 196) = w1 at *
      have hlx : (colsK L x).length = 64 := by rw [colsK_length]; exact hL
      have HWI : Hid (Within 1099511627776 (colOf x (colsK L x))) := fun i => by
        have := colOf_within (colsK_within hL hM (by omega) x (by omega)) (by omega) x i
        omega
      generalize hL' : colsK L x = L' at *
      have HL' := Lib.hid hL'
      clear hL' HW
      go_wp2_with fail
      go_loopw [15] (fillRel w r nb wr0.heap.size (colOf x L') L' tl) (fun y _ => 8 - (intOf y).toNat)
      case atStart => exact ⟨0, by omega, rfl, HI.out⟩
      case round =>
        obtain ⟨y, hy, rfl, bg, br, bn, hm⟩ := hrel
        by_cases hly : y < 8
        · have c1 := row_cell br (y * 8 + x) (by omega)
          have c2 := bg.cell y
          rw [List.getElem?_toArray, getD_i64s _ _ (by rw [fillK_length]; omega)] at c2
          have c3 := bg.frozen
          generalize hv : L'.getD (y * 8 + x) 0 = v at *
          have HV := Lib.hid hv
          have HK := Lib.hid (And.intro bg (And.intro br (And.intro bn hm)))
          clear bg br bn hm hv
          have j1 : (0 : Int) ≤ (y : Int) * 8 + (x : Int) := by omega
          have j2 : (y : Int) * 8 + (x : Int) < 64 := by omega
          go_wp2_with fail
          refine ⟨⟨y + 1, by omega, by go_num, ?_, HK.out.2.1.far (p := ⟨wr0.heap.size, y, none⟩) (by show ¬ r = wr0.heap.size; omega) _, HK.out.2.2.1.far (p := ⟨wr0.heap.size, y, none⟩) (by show ¬ nb = wr0.heap.size; omega) _, HK.out.2.2.2.setCell (.inr hsz) _⟩, by simp [intOf]; omega⟩
          have hb' := HK.out.1.set_ y (.int .i64 v)
          rw [set_i64s] at hb'
          rw [fillK, colOf_getD _ _ _ hly, HV.out]
          exact hb'
        · obtain rfl : y = 8 := by omega
          rw [fillK_all _ (colOf_length _ _)] at bg
          have hnb2 : ¬ nb = wr0.heap.size := by omega
          have hrb2 : ¬ r = wr0.heap.size := by omega
          have HK := Lib.hid (And.intro bg (And.intro br (And.intro bn hm)))
          clear bg br bn hm
          go_wp2_with fail
          refine (doBack _ wr0.heap.size nb _ (colOf_length _ _) HWI.out HK.out.1 HK.out.2.2.1).mono ?_
          rintro e w2 ⟨rfl, hb2, hm2⟩
          have br2 := HK.out.2.1.keep hm2 hrb2
          have bn2 := HK.out.2.2.1.keep hm2 hnb2
          have hmf := HK.out.2.2.2.then_ hm2 (fun k hk e => by omega)
          have HK2 := Lib.hid (And.intro hb2 (And.intro br2 (And.intro bn2 hmf)))
          have hc8 : (back8 (colOf x L')).length = 8 := by rw [back8_length, colOf_length]
          generalize hcc : back8 (colOf x L') = cc at *
          have HCC := Lib.hid hcc
          clear hb2 hm2 br2 bn2 hmf HK hcc
          go_wp2_with fail
          go_loopw [32] (putRel w r nb wr0.heap.size x cc L' tl) (fun y _ => 8 - (intOf y).toNat)
          case atStart => exact ⟨0, by omega, rfl, HK2.out.1, HK2.out.2⟩
          case round =>
            obtain ⟨y, hy, rfl, bg, br, bn, hm⟩ := hrel
            by_cases hly : y < 8
            · have hlk : (colK x cc L' y).length = 64 := by rw [colK_length]; exact hlx
              have c1 := row_cell br (y * 8 + x) (by omega)
              have c2 := bg.cell y
              rw [List.getElem?_toArray, getD_i64s _ _ (by omega)] at c2
              have c3 := br.frozen
              generalize hv : cc.getD y 0 = v at *
              have HV := Lib.hid hv
              have HK := Lib.hid (And.intro bg (And.intro br (And.intro bn hm)))
              clear bg br bn hm hv
              have j1 : (0 : Int) ≤ (y : Int) * 8 + (x : Int) := by omega
              have j2 : (y : Int) * 8 + (x : Int) < 64 := by omega
              go_wp2_with fail
              refine ⟨⟨y + 1, by omega, by go_num, HK.out.1.far (p := ⟨r, y * 8 + x, none⟩) (by show ¬ wr0.heap.size = r; omega) _, ?_, HK.out.2.2.1.far (p := ⟨r, y * 8 + x, none⟩) (by show ¬ nb = r; omega) _, HK.out.2.2.2.setCell (.inl rfl) _⟩, by simp [intOf]; omega⟩
              rw [colK, HV.out]
              exact row_set HK.out.2.1 (y * 8 + x) (by omega) v
            · obtain rfl : y = 8 := by omega
              have HK := Lib.hid (And.intro br (And.intro bn hm))
              clear bg br bn hm
              go_wp2_with fail
              refine ⟨⟨x + 1, by omega, by go_num, ?_, HK.out.2⟩, by simp [intOf]; omega⟩
              rw [colsK, HL'.out, HCC.out]
              exact HK.out.1
    · obtain rfl : x = 8 := by omega
      have HF := Lib.hid (And.intro hb (And.intro hn hm))
      clear hb hn hm
      go_wp2_with fail
      go_end0
      exact ⟨rfl, HF.out⟩
end Go.Proofs.YteppnjgfebcmjaaGreat
