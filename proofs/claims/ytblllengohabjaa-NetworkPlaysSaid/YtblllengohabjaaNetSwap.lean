/-
  network.queue.Swap.
-/
import Derived.Test.YtblllengohabjaaNetQueue
namespace Go.Proofs.Ytblllengohabjaa
open Go.RowKit

theorem QRow.drew {w : World} {B : Nat} {v : Value} {ps : List Pk} (h : QRow w B v ps) : QRow w.drew B v ps := own_mod h ((Mod.refl (fun _ => False) _).drew) (fun _ _ h => h)
theorem QRow.drewN {w : World} {B : Nat} {v : Value} {ps : List Pk} (h : QRow w B v ps) (n : Nat) : QRow (w.drewN n) B v ps := own_mod h ((Mod.refl (fun _ => False) _).drewN n) (fun _ _ h => h)
/-- What Swap leaves. -/
def SwapPost (w : World) (B r n c : Nat) (ps : List Pk) (e : Ending) (w' : World) : Prop :=
  e = .returned (.tuple #[]) ∧ QRow w' B (.slice (some ⟨r, 0, none⟩) n c) ps ∧ Mod (· = r) w w'

set_option maxHeartbeats 1000000 in
theorem qSwap_ne (w : World) (B r c : Nat) (ps : List Pk) (h : QRow w B (.slice (some ⟨r, 0, none⟩) ps.length c) ps) (hs : ∀ p ∈ ps, ∃ A n c, p.data = .slice A n c) (i j : Nat) (hi : i < ps.length) (hj : j < ps.length) (hij : i ≠ j) (hn : ps.length ≤ 1000) :
    Calls Try.prog 46 #[.slice (some ⟨r, 0, none⟩) ps.length c, .int .i64 i, .int .i64 j] w (SwapPost w B r ps.length c (swapL ps i j)) := by
  obtain ⟨r', hr, _, hc, _, _, hcell, hf⟩ := h.place (by omega)
  obtain rfl : r = r' := by injection hr with hr; injection hr
  obtain ⟨a1, a2, a3⟩ := hcell i hi
  obtain ⟨b1, b2, b3⟩ := hcell j hj
  have i1 : (0 : Int) ≤ (i : Int) := by omega
  have i2 : (i : Int) < (ps.length : Int) := by omega
  have j1 : (0 : Int) ≤ (j : Int) := by omega
  have j2 : (j : Int) < (ps.length : Int) := by omega
  obtain ⟨A1, n1, c1, e1⟩ := hs (pkAt ps i) (by rw [pkAt_get _ _ hi]; exact List.getElem_mem hi)
  obtain ⟨A2, n2, c2, e2⟩ := hs (pkAt ps j) (by rw [pkAt_get _ _ hj]; exact List.getElem_mem hj)
  rw [e1] at a3
  rw [e2] at b3
  have H := Lib.hid (And.intro h (And.intro e1 e2))
  clear hcell h hs e1 e2
  go_enter Try.func46, Try.ntmps46
  go_wp2
  go_region
  obtain ⟨h, e1, e2⟩ := H.out
  go_end0
  refine ⟨rfl, ?_, (by repeat' (first | with_reducible exact Mod.refl _ _ | with_reducible refine Mod.drewN ?_ _ | with_reducible refine Mod.drew ?_ | with_reducible refine Mod.setCell ?_ ?_ _ | exact Or.inl rfl))⟩
  have h1 := (h.store i (pkAt ps j)).store j (pkAt ps i)
  rw [e1, e2] at h1
  have h2 := h1.drew
  unfold QRow at h2 ⊢
  rw [length_swapL] at ⊢
  simpa [swapL] using h2

set_option maxHeartbeats 1000000 in
theorem qSwap_eq (w : World) (B r c : Nat) (ps : List Pk) (h : QRow w B (.slice (some ⟨r, 0, none⟩) ps.length c) ps) (hs : ∀ p ∈ ps, ∃ A n c, p.data = .slice A n c) (i : Nat) (hi : i < ps.length) (hn : ps.length ≤ 1000) :
    Calls Try.prog 46 #[.slice (some ⟨r, 0, none⟩) ps.length c, .int .i64 i, .int .i64 i] w (SwapPost w B r ps.length c (swapL ps i i)) := by
  obtain ⟨r', hr, _, hc, _, _, hcell, hf⟩ := h.place (by omega)
  obtain rfl : r = r' := by injection hr with hr; injection hr
  obtain ⟨a1, a2, a3⟩ := hcell i hi
  have i1 : (0 : Int) ≤ (i : Int) := by omega
  have i2 : (i : Int) < (ps.length : Int) := by omega
  obtain ⟨A1, n1, c1, e1⟩ := hs (pkAt ps i) (by rw [pkAt_get _ _ hi]; exact List.getElem_mem hi)
  rw [e1] at a3
  have H := Lib.hid (And.intro h e1)
  clear hcell h hs e1
  go_enter Try.func46, Try.ntmps46
  go_wp2
  go_region
  obtain ⟨h, e1⟩ := H.out
  go_end0
  refine ⟨rfl, ?_, (by repeat' (first | with_reducible exact Mod.refl _ _ | with_reducible refine Mod.drewN ?_ _ | with_reducible refine Mod.drew ?_ | with_reducible refine Mod.setCell ?_ ?_ _ | exact Or.inl rfl))⟩
  have h1 := (h.store i (pkAt ps i)).store i (pkAt ps i)
  rw [e1] at h1
  have h2 := h1.drew
  unfold QRow at h2 ⊢
  rw [length_swapL] at ⊢
  simpa [swapL] using h2

theorem swap_data {ps : List Pk} (hs : ∀ p ∈ ps, ∃ A n c, p.data = .slice A n c) (i j : Nat) (hi : i < ps.length) (hj : j < ps.length) : ∀ p ∈ swapL ps i j, ∃ A n c, p.data = .slice A n c :=
  fun p hp => hs p ((perm_swapL ps i j hi hj).mem_iff.1 hp)

theorem qSwap (w : World) (B r c : Nat) (ps : List Pk) (h : QRow w B (.slice (some ⟨r, 0, none⟩) ps.length c) ps) (hs : ∀ p ∈ ps, ∃ A n c, p.data = .slice A n c) (i j : Nat) (hi : i < ps.length) (hj : j < ps.length) (hn : ps.length ≤ 1000) :
    Calls Try.prog 46 #[.slice (some ⟨r, 0, none⟩) ps.length c, .int .i64 i, .int .i64 j] w (SwapPost w B r ps.length c (swapL ps i j)) := by
  by_cases hij : i = j
  · subst hij; exact qSwap_eq w B r c ps h hs i hi hn
  · exact qSwap_ne w B r c ps h hs i j hi hj hij hn
end Go.Proofs.Ytblllengohabjaa
