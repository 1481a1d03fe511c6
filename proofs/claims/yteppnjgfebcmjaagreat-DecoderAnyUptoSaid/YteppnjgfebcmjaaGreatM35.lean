/-
  deblock: apart, clip, known, Line.
-/
import Derived.Test.YteppnjgfebcmjaaGreatM24
import Derived.Test.YteppnjgfebcmjaaGreatM19
namespace Go.Proofs.YteppnjgfebcmjaaGreat
open Go.RowKit

def apartN (a b : Nat) : Nat := max a b - min a b
theorem dApart (w : World) (a b : Nat) (ha : a < 256) (hb : b < 256) : Calls Tryz.prog 138 #[.int .u8 (a : Int), .int .u8 (b : Int)] w fun e w' => e = .returned (.int .i64 ((apartN a b : Nat) : Int)) ∧ w = w' := by
  unfold apartN
  by_cases h : a ≤ b
  · go_enter Tryz.func138, Tryz.ntmps138
    go_wp2_with fail
    all_goals (try go_ret)
    all_goals first | exact ⟨congrArg (fun z => Ending.returned (.int .i64 z)) (by omega), rfl⟩ | omega
  · go_enter Tryz.func138, Tryz.ntmps138
    go_wp2_with fail
    all_goals (try go_ret)
    all_goals first | exact ⟨congrArg (fun z => Ending.returned (.int .i64 z)) (by omega), rfl⟩ | omega
theorem dClip (w : World) (v : Int) (hv : -9223372036854775808 ≤ v ∧ v ≤ 9223372036854775807) : Calls Tryz.prog 139 #[.int .i64 v] w fun e w' => e = .returned (.int .u8 ((clipN v : Nat) : Int)) ∧ w = w' := by
  unfold clipN
  go_enter Tryz.func139, Tryz.ntmps139
  go_wp2_with fail
  all_goals
    go_ret
    refine ⟨congrArg (fun z => Ending.returned (.int .u8 z)) ?_, rfl⟩
    (repeat' split) <;> omega
theorem dKnown (w : World) (q : Nat) (hq : q ≤ 31) : Calls Tryz.prog 65 #[.int .i64 (q : Int)] w fun e w' => e = .returned (.bool true) ∧ w = w' := by
  have d1 : decide ((q : Int) ≤ 31) = true := decide_eq_true (by omega)
  have d2 : decide (0 ≤ (q : Int)) = true := decide_eq_true (by omega)
  go_enter Tryz.func65, Tryz.ntmps65
  go_wp2_with fail
  go_ret
  exact ⟨rfl, rfl⟩

theorem ret2_u8 {a b a' b' : Nat} (h : a = a') (k : b = b') : Ending.returned (.tuple #[.int .u8 (a : Int), .int .u8 (b : Int)]) = .returned (.tuple #[.int .u8 (a' : Int), .int .u8 (b' : Int)]) := by rw [h, k]
def lineM (a b c d s : Int) : Int := min (max ((4 * (c - b) + a - d + 4) / 8) (-s)) s
def lineN (a b c d q : Nat) : Nat × Nat :=
  if 4 * (q / 2) ≤ apartN b c ∨ 2 * (q / 2) ≤ apartN a b ∨ 2 * (q / 2) ≤ apartN c d then (b, c)
  else (clipN ((b : Int) + lineM a b c d ((q / 2 : Nat) : Int)), clipN ((c : Int) - lineM a b c d ((q / 2 : Nat) : Int)))

set_option maxRecDepth 100000 in
set_option maxHeartbeats 2000000 in
theorem dLine (w : World) (a b c d q : Nat) (ha : a < 256) (hb : b < 256) (hc : c < 256) (hd : d < 256) (hq : q ≤ 31) :
    Calls Tryz.prog 109 #[.int .u8 (a : Int), .int .u8 (b : Int), .int .u8 (c : Int), .int .u8 (d : Int), .int .i64 (q : Int)] w
      fun e w' => e = .returned (.tuple #[.int .u8 (((lineN a b c d q).1 : Nat) : Int), .int .u8 (((lineN a b c d q).2 : Nat) : Int)]) ∧ w = w' := by
  by_cases h1 : 4 * (q / 2) ≤ apartN b c
  · have HR := Lib.hid (show lineN a b c d q = (b, c) from if_pos (.inl h1))
    have d1 : decide (4 * ((q : Int) / 2) ≤ (apartN b c : Int)) = true := decide_eq_true (by omega)
    clear h1
    go_enter Tryz.func109, Tryz.ntmps109
    go_wp2_with fail
    refine (dKnown _ q hq).mono ?_
    rintro e w1 ⟨rfl, rfl⟩
    go_wp2_with fail
    refine (dApart _ b c hb hc).mono ?_
    rintro e w1 ⟨rfl, rfl⟩
    go_wp2_with fail
    go_ret2
    exact ⟨by rw [HR.out]; rfl, rfl⟩
  · have d1 : decide (4 * ((q : Int) / 2) ≤ (apartN b c : Int)) = false := decide_eq_false (by omega)
    by_cases h2 : 2 * (q / 2) ≤ apartN a b
    · have HR := Lib.hid (show lineN a b c d q = (b, c) from if_pos (.inr (.inl h2)))
      have d2 : decide (2 * ((q : Int) / 2) ≤ (apartN a b : Int)) = true := decide_eq_true (by omega)
      clear h1 h2
      go_enter Tryz.func109, Tryz.ntmps109
      go_wp2_with fail
      refine (dKnown _ q hq).mono ?_
      rintro e w1 ⟨rfl, rfl⟩
      go_wp2_with fail
      refine (dApart _ b c hb hc).mono ?_
      rintro e w1 ⟨rfl, rfl⟩
      go_wp2_with fail
      refine (dApart _ a b ha hb).mono ?_
      rintro e w1 ⟨rfl, rfl⟩
      go_wp2_with fail
      go_ret2
      exact ⟨by rw [HR.out]; rfl, rfl⟩
    · have d2 : decide (2 * ((q : Int) / 2) ≤ (apartN a b : Int)) = false := decide_eq_false (by omega)
      by_cases h3 : 2 * (q / 2) ≤ apartN c d
      · have HR := Lib.hid (show lineN a b c d q = (b, c) from if_pos (.inr (.inr h3)))
        have d3 : decide (2 * ((q : Int) / 2) ≤ (apartN c d : Int)) = true := decide_eq_true (by omega)
        clear h1 h2 h3
        go_enter Tryz.func109, Tryz.ntmps109
        go_wp2_with fail
        refine (dKnown _ q hq).mono ?_
        rintro e w1 ⟨rfl, rfl⟩
        go_wp2_with fail
        refine (dApart _ b c hb hc).mono ?_
        rintro e w1 ⟨rfl, rfl⟩
        go_wp2_with fail
        refine (dApart _ a b ha hb).mono ?_
        rintro e w1 ⟨rfl, rfl⟩
        go_wp2_with fail
        refine (dApart _ c d hc hd).mono ?_
        rintro e w1 ⟨rfl, rfl⟩
        go_wp2_with fail
        go_ret2
        exact ⟨by rw [HR.out]; rfl, rfl⟩
      · have HR := Lib.hid (show lineN a b c d q = _ from if_neg (by omega))
        have d3 : decide (2 * ((q : Int) / 2) ≤ (apartN c d : Int)) = false := decide_eq_false (by omega)
        clear h1 h2 h3
        go_enter Tryz.func109, Tryz.ntmps109
        go_wp2_with fail
        refine (dKnown _ q hq).mono ?_
        rintro e w1 ⟨rfl, rfl⟩
        go_wp2_with fail
        refine (dApart _ b c hb hc).mono ?_
        rintro e w1 ⟨rfl, rfl⟩
        go_wp2_with fail
        refine (dApart _ a b ha hb).mono ?_
        rintro e w1 ⟨rfl, rfl⟩
        go_wp2_with fail
        refine (dApart _ c d hc hd).mono ?_
        rintro e w1 ⟨rfl, rfl⟩
        go_wp2_with fail
        all_goals
          clear d1 d2 d3
          refine (dClip _ _ ⟨by omega, by omega⟩).mono ?_
          rintro e w1 ⟨rfl, rfl⟩
          go_wp2_with fail
          refine (dClip _ _ ⟨by omega, by omega⟩).mono ?_
          rintro e w1 ⟨rfl, rfl⟩
          go_wp2_with fail
          go_ret2
          refine ⟨ret2_u8 ?_ ?_, rfl⟩
          · rw [HR.out]
            exact congrArg clipN (by unfold lineM; omega)
          · rw [HR.out]
            exact congrArg clipN (by unfold lineM; omega)
end Go.Proofs.YteppnjgfebcmjaaGreat

/-
  deblock: the closure that smooths a line.
-/
namespace Go.Proofs.YteppnjgfebcmjaaGreat
open Go.RowKit

/-- A row with a line at a place made smooth. -/
def smo (q : Nat) (L : List UInt8) (p s : Nat) : List UInt8 :=
  (L.set (p - s) (UInt8.ofNat (lineN (L.getD (p - 2 * s) 0).toNat (L.getD (p - s) 0).toNat (L.getD p 0).toNat (L.getD (p + s) 0).toNat q).1)).set p
    (UInt8.ofNat (lineN (L.getD (p - 2 * s) 0).toNat (L.getD (p - s) 0).toNat (L.getD p 0).toNat (L.getD (p + s) 0).toNat q).2)
theorem smo_length (q : Nat) (L : List UInt8) (p s : Nat) : (smo q L p s).length = L.length := by simp [smo]
theorem lineN_lt (a b c d q : Nat) (hb : b < 256) (hc : c < 256) : (lineN a b c d q).1 < 256 ∧ (lineN a b c d q).2 < 256 := by
  unfold lineN
  split
  · exact ⟨hb, hc⟩
  · exact ⟨clipN_lt _, clipN_lt _⟩
theorem u8_cell {w : World} {g : Nat} {t : TypeId} {L : List UInt8} (hb : Blk w g t (u8s L).toArray) {i : Nat} (hi : i < L.length) : w.cell? ⟨g, i, none⟩ = some (.int .u8 ((L.getD i 0).toNat : Int)) := by
  rw [hb.cell, List.getElem?_toArray]
  simp [u8s, hi]
theorem u8_set (L : List UInt8) (k v : Nat) (hv : v < 256) : (u8s L).toArray.setIfInBounds k (.int .u8 (v : Int)) = (u8s (L.set k (UInt8.ofNat v))).toArray := by
  rw [u8s_set L k v hv]
  simp

set_option maxRecDepth 100000 in
set_option maxHeartbeats 2000000 in
theorem dSmooth (w : World) (bp bq g n q p s : Nat) (L : List UInt8) (hL : L.length = n) (hq : q ≤ 31) (hs : 1 ≤ s) (h1 : 2 * s ≤ p) (h2 : p + s < n) (hn : n ≤ 16777216)
    (hbp : Blk w bp 22 #[.slice (some ⟨g, 0, none⟩) n n]) (hbq : Blk w bq 3 #[.int .i64 (q : Int)]) (hb : Blk w g 5 (u8s L).toArray) :
    Calls Tryz.prog 108 #[.int .i64 (p : Int), .int .i64 (s : Int), .pointer (some ⟨bp, 0, none⟩), .pointer (some ⟨bq, 0, none⟩)] w fun e w' => e = .returned (.tuple #[]) ∧ Blk w' g 5 (u8s (smo q L p s)).toArray ∧ Mod (· = g) w w' := by
  obtain ⟨p1, hp1⟩ : ∃ p1, p1 = p - s := ⟨_, rfl⟩
  obtain ⟨p0, hp0⟩ : ∃ p0, p0 = p - 2 * s := ⟨_, rfl⟩
  obtain ⟨p3, hp3⟩ : ∃ p3, p3 = p + s := ⟨_, rfl⟩
  have hR : smo q L p s = (L.set p1 (UInt8.ofNat (lineN (L.getD p0 0).toNat (L.getD p1 0).toNat (L.getD p 0).toNat (L.getD p3 0).toNat q).1)).set p
    (UInt8.ofNat (lineN (L.getD p0 0).toNat (L.getD p1 0).toNat (L.getD p 0).toNat (L.getD p3 0).toNat q).2) := by rw [hp1, hp0, hp3]; rfl
  have k0 := u8_cell hb (i := p0) (by omega)
  have k1 := u8_cell hb (i := p1) (by omega)
  have k2 := u8_cell hb (i := p) (by omega)
  have k3 := u8_cell hb (i := p3) (by omega)
  have hlt := lineN_lt (L.getD p0 0).toNat (L.getD p1 0).toNat (L.getD p 0).toNat (L.getD p3 0).toNat q (UInt8.toNat_lt _) (UInt8.toNat_lt _)
  have x0 : (L.getD p0 0).toNat < 256 := UInt8.toNat_lt _
  have x1 : (L.getD p1 0).toNat < 256 := UInt8.toNat_lt _
  have x2 : (L.getD p 0).toNat < 256 := UInt8.toNat_lt _
  have x3 : (L.getD p3 0).toNat < 256 := UInt8.toNat_lt _
  obtain ⟨v0, hv0⟩ : ∃ v, v = (L.getD p0 0).toNat := ⟨_, rfl⟩
  obtain ⟨v1, hv1⟩ : ∃ v, v = (L.getD p1 0).toNat := ⟨_, rfl⟩
  obtain ⟨v2, hv2⟩ : ∃ v, v = (L.getD p 0).toNat := ⟨_, rfl⟩
  obtain ⟨v3, hv3⟩ : ∃ v, v = (L.getD p3 0).toNat := ⟨_, rfl⟩
  rw [← hv0, ← hv1, ← hv2, ← hv3] at hR hlt
  rw [← hv0] at k0 x0
  rw [← hv1] at k1 x1
  rw [← hv2] at k2 x2
  rw [← hv3] at k3 x3
  have y0 : w.cell? ⟨bp, 0, none⟩ = some (.slice (some ⟨g, 0, none⟩) n n) := hbp.cell 0
  have y1 : w.cell? ⟨bq, 0, none⟩ = some (.int .i64 (q : Int)) := hbq.cell 0
  have e1 : IntKind.i64.wrap ((p : Int) - (s : Int)) = (p1 : Int) := by rw [IntWalk.i64_in _ ⟨by omega, by omega⟩]; omega
  have e2 : IntKind.i64.wrap (2 * (s : Int)) = 2 * (s : Int) := IntWalk.i64_in _ ⟨by omega, by omega⟩
  have e3 : IntKind.i64.wrap ((p : Int) - 2 * (s : Int)) = (p0 : Int) := by rw [IntWalk.i64_in _ ⟨by omega, by omega⟩]; omega
  have e4 : IntKind.i64.wrap ((p : Int) + (s : Int)) = (p3 : Int) := by rw [IntWalk.i64_in _ ⟨by omega, by omega⟩]; omega
  have i0 : (0 : Int) ≤ (p0 : Int) := by omega
  have i1 : (0 : Int) ≤ (p1 : Int) := by omega
  have i2 : (0 : Int) ≤ (p : Int) := by omega
  have i3 : (0 : Int) ≤ (p3 : Int) := by omega
  have j0 : (p0 : Int) < (n : Int) := by omega
  have j1 : (p1 : Int) < (n : Int) := by omega
  have j2 : (p : Int) < (n : Int) := by omega
  have j3 : (p3 : Int) < (n : Int) := by omega
  have hne : p1 ≠ p := by omega
  have fz := hb.frozen
  have gl := hb.lt
  have HE := Lib.hid (And.intro e1 (And.intro e2 (And.intro e3 e4)))
  have HH := Lib.hid (And.intro hR (And.intro hb (And.intro hlt hL)))
  clear hR hb hlt hL hbp hbq hp0 hp1 hp3 hv0 hv1 hv2 hv3 e1 e2 e3 e4 h1 h2
  go_enter Tryz.func108, Tryz.ntmps108
  go_wp2_with fail
  have e1 := HE.out.1
  go_quiet (fail)
  clear e1
  go_upto_region 1 with (fail)
  obtain ⟨e1, e2, e3, e4⟩ := HE.out
  refine wp_region_plan [27, 29] [1, 25] [0, 2, 3, 4, 5, 6, 7, 8, 9, 10, 11, 12, 13, 14, 15, 16, 17, 18, 19, 20, 21, 22, 23, 24, 26, 1, 25, 27, 28, 29] (by kernel_rfl) (by kernel_rfl) (fun _ _ _ d _ h => by cases d <;> exact h) ?_
  iterate 21 (refine plan_still rfl rfl (fun K hK => ?_); go_simp; refine hK _ ?_; clear hK K)
  (refine plan_still rfl rfl (fun K hK => ?_); go_simp; refine ⟨_, (dLine _ v0 v1 v2 v3 q x0 x1 x2 x3 hq).mono (fun _ _ ⟨h1, h2⟩ => ⟨h1, h2.symm⟩), hK _ ?_⟩; clear hK K)
  iterate 3 (refine plan_still rfl rfl (fun K hK => ?_); go_simp; refine hK _ ?_; clear hK K)
  iterate 2 (refine plan_pure rfl rfl rfl (fun _ => rfl) ?_)
  refine plan_loud rfl rfl (fun K hK => ?_); go_simp; refine hK _ _ ?_; clear hK K
  refine plan_still rfl rfl (fun K hK => ?_); go_simp; refine hK _ ?_; clear hK K
  refine plan_loud rfl rfl (fun K hK => ?_); go_simp; refine hK _ _ ?_; clear hK K
  refine plan_done ?_
  clear e1 e2 e3 e4
  go_wp2_with fail
  go_end0
  refine ⟨rfl, ?_, ?_⟩
  · obtain ⟨hR, hb, hlt, hL⟩ := HH.out
    rw [hR]
    have h1 := ((hb.drewN (nq + 1)).put (i := p1) (u8_set L p1 _ hlt.1)).put (i := p) (u8_set (L.set p1 (UInt8.ofNat (lineN v0 v1 v2 v3 q).1)) p _ hlt.2)
    exact h1
  · exact (((Mod.refl (· = g) w).drewN _).setCell (p := ⟨g, p1, none⟩) (.inl rfl) _).setCell (p := ⟨g, p, none⟩) (.inl rfl) _
end Go.Proofs.YteppnjgfebcmjaaGreat
