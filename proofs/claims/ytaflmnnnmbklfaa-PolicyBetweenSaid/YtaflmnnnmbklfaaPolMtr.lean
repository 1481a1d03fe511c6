/-
  Contracts of policy.Meter's methods.
-/
import Derived.Test.YtaflmnnnmbklfaaBase
import Derived.Test.YtaflmnnnmbklfaaPolMeterPlain
import Derived.BigRegion
namespace Go.Proofs.Ytaflmnnnmbklfaa
open Go.RowKit

theorem ret_i {k : IntKind} {a b : Int} (h : a = b) : Ending.returned (.int k a) = .returned (.int k b) := by rw [h]
theorem val_i {a b : Int} (h : a = b) : Value.int .i64 a = .int .i64 b := by rw [h]

/-- The cells of a meter. -/
def mtr (x : Nat → Dl) (count next : Int) : Array Value :=
  #[.int .i64 (x 0).1, .int .i64 (x 0).2, .int .i64 (x 1).1, .int .i64 (x 1).2, .int .i64 (x 2).1, .int .i64 (x 2).2, .int .i64 (x 3).1, .int .i64 (x 3).2, .int .i64 count, .int .i64 next]

/-- Block g is a meter behind the downloads L. -/
def MeterIs (w : World) (g : Nat) (L : List Dl) : Prop :=
  AllOk L ∧ ∃ x, Ring x L ∧ Blk w g 57 (mtr x ((min L.length 4 : Nat) : Int) ((L.length % 4 : Nat) : Int))

theorem MeterIs.lt {w : World} {g : Nat} {L : List Dl} (h : MeterIs w g L) : g < w.heap.size := by
  obtain ⟨_, x, _, hb⟩ := h
  exact hb.lt
theorem MeterIs.keep {S : Nat → Prop} {w w' : World} {g : Nat} {L : List Dl} (h : MeterIs w g L) (hm : Mod S w w') (hg : ¬ S g) : MeterIs w' g L := by
  obtain ⟨h1, x, h2, hb⟩ := h
  exact ⟨h1, x, h2, hb.keep hm hg⟩

theorem newMeter (w : World) : Calls Try.prog 8 #[] w fun e w' => e = .returned (.pointer (some ⟨w.heap.size, 0, none⟩)) ∧ MeterIs w' w.heap.size [] ∧ Mod (fun _ => False) w w' ∧ w'.heap.size = w.heap.size + 1 := by
  go_enter Try.func8, Try.ntmps8
  go_wp2
  go_ret
  exact ⟨rfl, ⟨(fun d hd => by cases hd), fun _ => (0, 0), ⟨fun _ j hj => by simp at hj, fun h => by simp at h⟩, Blk.new _ _ _⟩, (Mod.refl _ _).alloc _, by simp⟩

set_option maxHeartbeats 400000 in
theorem mtrAdd_nil (b t : Int) (w : World) : Calls Try.prog 9 #[.pointer none, .int .i64 b, .int .i64 t] w fun e w' => e = .returned (.int .i64 1) ∧ w = w' := by
  go_enter Try.func9, Try.ntmps9
  go_wp2
  all_goals (go_ret; exact ⟨rfl, rfl⟩)

set_option maxHeartbeats 400000 in
theorem mtrAdd_no (p : Addr) (b t : Int) (w : World) (h : dlOk b t = false) : Calls Try.prog 9 #[.pointer (some p), .int .i64 b, .int .i64 t] w fun e w' => e = .returned (.int .i64 1) ∧ w = w' := by
  have h' : b < 0 ∨ 1048576 < b ∨ t < 1 ∨ 1048576 < t := by
    unfold dlOk at h
    simp only [decide_eq_false_iff_not] at h
    omega
  clear h
  go_enter Try.func9, Try.ntmps9
  go_wp2
  all_goals first
    | (go_ret; exact ⟨rfl, rfl⟩)
    | (exfalso; omega)

/-- What the meter's Add leaves of its cells. -/
def AddLeft (g : Nat) (x : Nat → Dl) (k : Nat) (d : Dl) (count : Int) (w : World) (e : Ending) (w' : World) : Prop :=
  e = .returned (.int .i64 0) ∧ Blk w' g 57 (mtr (fun j => if j = k then d else x j) (min (count + 1) 4) (((k + 1) % 4 : Nat) : Int)) ∧ Mod (· = g) w w'

set_option maxHeartbeats 400000 in
theorem mtrAdd0 (g : Nat) (b t count : Int) (x : Nat → Dl) (w : World) (h : dlOk b t = true) (hc0 : 0 ≤ count) (hc4 : count ≤ 4) (hb : Blk w g 57 (mtr x count 0)) :
    Calls Try.prog 9 #[.pointer (some ⟨g, 0, none⟩), .int .i64 b, .int .i64 t] w (AddLeft g x 0 (b, t) count w) := by
  unfold dlOk at h
  simp only [decide_eq_true_eq] at h
  obtain ⟨h1, h2, h3, h4⟩ := h
  obtain ⟨hc, hf⟩ := hb.both
  unfold mtr at hc
  by_cases hc3 : count ≤ 3
  · have e : min (count + 1) 4 = count + 1 := by omega
    unfold AddLeft
    rw [e]; clear e
    go_enter Try.func9, Try.ntmps9
    go_wp2
    go_region
    go_wp2
    all_goals first
      | (go_ret; exact ⟨rfl, (by repeat' (first | with_reducible exact hb | with_reducible apply Blk.put | with_reducible apply Blk.drewN | with_reducible apply Blk.drew | rfl)), (by repeat' (first | with_reducible exact Mod.refl _ _ | with_reducible refine Mod.drewN ?_ _ | with_reducible refine Mod.drew ?_ | with_reducible refine Mod.setCell ?_ ?_ _ | exact Or.inl rfl))⟩)
      | (exfalso; omega)
  · have e : min (count + 1) 4 = 4 := by omega
    unfold AddLeft
    rw [e]; clear e
    go_enter Try.func9, Try.ntmps9
    go_wp2
    go_region
    go_wp2
    all_goals first
      | (go_ret; exact ⟨rfl, (by repeat' (first | with_reducible exact hb | with_reducible apply Blk.put | with_reducible apply Blk.drewN | with_reducible apply Blk.drew | rfl)), (by repeat' (first | with_reducible exact Mod.refl _ _ | with_reducible refine Mod.drewN ?_ _ | with_reducible refine Mod.drew ?_ | with_reducible refine Mod.setCell ?_ ?_ _ | exact Or.inl rfl))⟩)
      | (exfalso; omega)

set_option maxHeartbeats 400000 in
theorem mtrAdd1 (g : Nat) (b t count : Int) (x : Nat → Dl) (w : World) (h : dlOk b t = true) (hc0 : 0 ≤ count) (hc4 : count ≤ 4) (hb : Blk w g 57 (mtr x count 1)) :
    Calls Try.prog 9 #[.pointer (some ⟨g, 0, none⟩), .int .i64 b, .int .i64 t] w (AddLeft g x 1 (b, t) count w) := by
  unfold dlOk at h
  simp only [decide_eq_true_eq] at h
  obtain ⟨h1, h2, h3, h4⟩ := h
  obtain ⟨hc, hf⟩ := hb.both
  unfold mtr at hc
  by_cases hc3 : count ≤ 3
  · have e : min (count + 1) 4 = count + 1 := by omega
    unfold AddLeft
    rw [e]; clear e
    go_enter Try.func9, Try.ntmps9
    go_wp2
    go_region
    go_wp2
    all_goals first
      | (go_ret; exact ⟨rfl, (by repeat' (first | with_reducible exact hb | with_reducible apply Blk.put | with_reducible apply Blk.drewN | with_reducible apply Blk.drew | rfl)), (by repeat' (first | with_reducible exact Mod.refl _ _ | with_reducible refine Mod.drewN ?_ _ | with_reducible refine Mod.drew ?_ | with_reducible refine Mod.setCell ?_ ?_ _ | exact Or.inl rfl))⟩)
      | (exfalso; omega)
  · have e : min (count + 1) 4 = 4 := by omega
    unfold AddLeft
    rw [e]; clear e
    go_enter Try.func9, Try.ntmps9
    go_wp2
    go_region
    go_wp2
    all_goals first
      | (go_ret; exact ⟨rfl, (by repeat' (first | with_reducible exact hb | with_reducible apply Blk.put | with_reducible apply Blk.drewN | with_reducible apply Blk.drew | rfl)), (by repeat' (first | with_reducible exact Mod.refl _ _ | with_reducible refine Mod.drewN ?_ _ | with_reducible refine Mod.drew ?_ | with_reducible refine Mod.setCell ?_ ?_ _ | exact Or.inl rfl))⟩)
      | (exfalso; omega)

set_option maxHeartbeats 400000 in
theorem mtrAdd2 (g : Nat) (b t count : Int) (x : Nat → Dl) (w : World) (h : dlOk b t = true) (hc0 : 0 ≤ count) (hc4 : count ≤ 4) (hb : Blk w g 57 (mtr x count 2)) :
    Calls Try.prog 9 #[.pointer (some ⟨g, 0, none⟩), .int .i64 b, .int .i64 t] w (AddLeft g x 2 (b, t) count w) := by
  unfold dlOk at h
  simp only [decide_eq_true_eq] at h
  obtain ⟨h1, h2, h3, h4⟩ := h
  obtain ⟨hc, hf⟩ := hb.both
  unfold mtr at hc
  by_cases hc3 : count ≤ 3
  · have e : min (count + 1) 4 = count + 1 := by omega
    unfold AddLeft
    rw [e]; clear e
    go_enter Try.func9, Try.ntmps9
    go_wp2
    go_region
    go_wp2
    all_goals first
      | (go_ret; exact ⟨rfl, (by repeat' (first | with_reducible exact hb | with_reducible apply Blk.put | with_reducible apply Blk.drewN | with_reducible apply Blk.drew | rfl)), (by repeat' (first | with_reducible exact Mod.refl _ _ | with_reducible refine Mod.drewN ?_ _ | with_reducible refine Mod.drew ?_ | with_reducible refine Mod.setCell ?_ ?_ _ | exact Or.inl rfl))⟩)
      | (exfalso; omega)
  · have e : min (count + 1) 4 = 4 := by omega
    unfold AddLeft
    rw [e]; clear e
    go_enter Try.func9, Try.ntmps9
    go_wp2
    go_region
    go_wp2
    all_goals first
      | (go_ret; exact ⟨rfl, (by repeat' (first | with_reducible exact hb | with_reducible apply Blk.put | with_reducible apply Blk.drewN | with_reducible apply Blk.drew | rfl)), (by repeat' (first | with_reducible exact Mod.refl _ _ | with_reducible refine Mod.drewN ?_ _ | with_reducible refine Mod.drew ?_ | with_reducible refine Mod.setCell ?_ ?_ _ | exact Or.inl rfl))⟩)
      | (exfalso; omega)

set_option maxHeartbeats 400000 in
theorem mtrAdd3 (g : Nat) (b t count : Int) (x : Nat → Dl) (w : World) (h : dlOk b t = true) (hc0 : 0 ≤ count) (hc4 : count ≤ 4) (hb : Blk w g 57 (mtr x count 3)) :
    Calls Try.prog 9 #[.pointer (some ⟨g, 0, none⟩), .int .i64 b, .int .i64 t] w (AddLeft g x 3 (b, t) count w) := by
  unfold dlOk at h
  simp only [decide_eq_true_eq] at h
  obtain ⟨h1, h2, h3, h4⟩ := h
  obtain ⟨hc, hf⟩ := hb.both
  unfold mtr at hc
  by_cases hc3 : count ≤ 3
  · have e : min (count + 1) 4 = count + 1 := by omega
    unfold AddLeft
    rw [e]; clear e
    go_enter Try.func9, Try.ntmps9
    go_wp2
    go_region
    go_wp2
    all_goals first
      | (go_ret; exact ⟨rfl, (by repeat' (first | with_reducible exact hb | with_reducible apply Blk.put | with_reducible apply Blk.drewN | with_reducible apply Blk.drew | rfl)), (by repeat' (first | with_reducible exact Mod.refl _ _ | with_reducible refine Mod.drewN ?_ _ | with_reducible refine Mod.drew ?_ | with_reducible refine Mod.setCell ?_ ?_ _ | exact Or.inl rfl))⟩)
      | (exfalso; omega)
  · have e : min (count + 1) 4 = 4 := by omega
    unfold AddLeft
    rw [e]; clear e
    go_enter Try.func9, Try.ntmps9
    go_wp2
    go_region
    go_wp2
    all_goals first
      | (go_ret; exact ⟨rfl, (by repeat' (first | with_reducible exact hb | with_reducible apply Blk.put | with_reducible apply Blk.drewN | with_reducible apply Blk.drew | rfl)), (by repeat' (first | with_reducible exact Mod.refl _ _ | with_reducible refine Mod.drewN ?_ _ | with_reducible refine Mod.drew ?_ | with_reducible refine Mod.setCell ?_ ?_ _ | exact Or.inl rfl))⟩)
      | (exfalso; omega)

theorem mtrAdd (g : Nat) (b t : Int) (L : List Dl) (w : World) (h : dlOk b t = true) (hm : MeterIs w g L) :
    Calls Try.prog 9 #[.pointer (some ⟨g, 0, none⟩), .int .i64 b, .int .i64 t] w fun e w' => e = .returned (.int .i64 0) ∧ MeterIs w' g (L ++ [(b, t)]) ∧ Mod (· = g) w w' := by
  obtain ⟨hL, x, hr, hb⟩ := hm
  have hL' : AllOk (L ++ [(b, t)]) := fun d hd => by
    rcases List.mem_append.1 hd with hd | hd
    · exact hL d hd
    · rw [List.mem_singleton.1 hd]; exact h
  have hr' := hr.add (b, t)
  have fin : ∀ (k : Nat) (e : Ending) (w' : World), L.length % 4 = k → AddLeft g x k (b, t) ((min L.length 4 : Nat) : Int) w e w' → e = .returned (.int .i64 0) ∧ MeterIs w' g (L ++ [(b, t)]) ∧ Mod (· = g) w w' := by
    intro k e w' hk ⟨he, hb', hmod⟩
    refine ⟨he, ⟨hL', _, hr', ?_⟩, hmod⟩
    rw [List.length_append, List.length_singleton, hk]
    have e1 : ((min (L.length + 1) 4 : Nat) : Int) = min (((min L.length 4 : Nat) : Int) + 1) 4 := by omega
    have e2 : (L.length + 1) % 4 = (k + 1) % 4 := by omega
    rw [e1, e2]
    exact hb'
  have c0 : (0 : Int) ≤ ((min L.length 4 : Nat) : Int) := by omega
  have c4 : ((min L.length 4 : Nat) : Int) ≤ 4 := by omega
  have hk : L.length % 4 = 0 ∨ L.length % 4 = 1 ∨ L.length % 4 = 2 ∨ L.length % 4 = 3 := by omega
  rcases hk with e | e | e | e <;> rw [e] at hb
  · exact (mtrAdd0 g b t _ x w h c0 c4 hb).mono fun e1 w1 h1 => fin 0 e1 w1 e h1
  · exact (mtrAdd1 g b t _ x w h c0 c4 hb).mono fun e1 w1 h1 => fin 1 e1 w1 e h1
  · exact (mtrAdd2 g b t _ x w h c0 c4 hb).mono fun e1 w1 h1 => fin 2 e1 w1 e h1
  · exact (mtrAdd3 g b t _ x w h c0 c4 hb).mono fun e1 w1 h1 => fin 3 e1 w1 e h1
end Go.Proofs.Ytaflmnnnmbklfaa
