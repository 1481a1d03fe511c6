/-
  Lines in plain Lean: a right manifest's text has so many lines; the first and the last rendition changing places.
-/
import Derived.Test.YtkobngipbhjfjaaDoorMfBackP
import Derived.Test.YtkobngipbhjfjaaDoorMfAlign
namespace Go.Proofs.YtkobngipbhjfjaaDoor

theorem count_line {fs : List Str} (h : ∀ f ∈ fs, Fld f) : (lineL fs).count 10 = 1 := by
  unfold lineL
  rw [List.count_append, List.count_eq_zero_of_not_mem (fun hm => by
    obtain ⟨f, hf, hc⟩ := mem_join (by decide) hm
    exact (h f hf).2 hc)]
  rfl
theorem count_lines : ∀ {ls : List (List Str)}, (∀ fs ∈ ls, fs ≠ [] ∧ ∀ f ∈ fs, Fld f) → (ls.flatMap lineL).count 10 = ls.length
  | [], _ => rfl
  | fs :: r, h => by
    rw [List.flatMap_cons, List.count_append, count_line (h fs (by simp)).2, count_lines (fun x hx => h x (by simp [hx])), List.length_cons]
    omega
def wantL (ls : List Ls) : Nat := 3 + (ls.map fun l => 2 + l.pieces.length).sum
theorem count_text {m : Mf} (h : rightB m = true) : (writeL m).count 10 = wantL m.rends := by
  unfold writeL
  rw [count_lines (lines_fld h)]
  unfold linesM wantL
  simp only [List.length_cons, List.length_append, List.length_nil, List.length_flatMap]
  have e : (m.rends.map fun l => (linesR l).length) = m.rends.map fun l => 2 + l.pieces.length := List.map_congr_left fun l _ => by
    unfold linesR
    simp
    omega
  rw [e]
  omega
theorem want_snoc {ls : List Ls} {k : Nat} {l : Ls} (h : ls[k]? = some l) : wantL (ls.take (k + 1)) = wantL (ls.take k) + 2 + l.pieces.length := by
  unfold wantL
  rw [take_snoc h, List.map_append, List.sum_append]
  simp
  omega
theorem want_le {ls : List Ls} (h : ls.all listedB = true) : ∀ k, wantL (ls.take k) ≤ 3 + 1026 * k := by
  intro k
  induction k with
  | zero => simp [wantL]
  | succ k ih =>
    by_cases hk : k < ls.length
    · have hl := List.getElem?_eq_getElem hk
      rw [want_snoc hl]
      obtain ⟨_, _, _, _, _, _, _, _, h9, _⟩ := listed_parts (List.all_eq_true.1 h _ (List.getElem_mem hk))
      omega
    · rw [List.take_of_length_le (by omega)]
      rw [List.take_of_length_le (by omega)] at ih
      omega
/-- The first and the last one changing places. -/
def swapL (ls : List Ls) (f z : Ls) : List Ls := (ls.set 0 z).set (ls.length - 1) f
theorem swap_perm {ls : List Ls} {f z : Ls} (hf : ls[0]? = some f) (hz : ls[ls.length - 1]? = some z) : (swapL ls f z).Perm ls := by
  unfold swapL
  cases ls with
  | nil => simp at hf
  | cons a r =>
    simp only [List.getElem?_cons_zero, Option.some.injEq] at hf
    subst hf
    rcases List.eq_nil_or_concat r with h0 | ⟨mid, y, h0⟩
    · subst h0
      simp at hz
      subst hz
      simp
    · rw [List.concat_eq_append] at h0
      subst h0
      have hl : (a :: (mid ++ [y])).length - 1 = mid.length + 1 := by simp
      rw [hl] at hz ⊢
      simp at hz
      subst hz
      simp only [List.set_cons_zero, List.set_cons_succ]
      rw [List.set_append_right _ _ (Nat.le_refl _), Nat.sub_self]
      simp only [List.set_cons_zero]
      exact ((List.perm_append_comm (l₁ := mid) (l₂ := [a])).cons _).trans ((List.Perm.swap _ _ _).trans ((List.perm_append_comm (l₁ := [y]) (l₂ := mid)).cons _))
theorem right_perm {a b : Mf} (hs : a.scale = b.scale) (ht : a.tick = b.tick) (hp : a.rends.Perm b.rends) (h : rightB b = true) : rightB a = true := by
  unfold rightB at h ⊢
  simp only [Bool.and_eq_true, decide_eq_true_eq] at h ⊢
  obtain ⟨⟨⟨h1, h2⟩, h3⟩, h4⟩ := h
  refine ⟨⟨⟨?_, ?_⟩, ?_⟩, ?_⟩
  · rw [hs, ht, hp.length_eq]
    exact h1
  · rw [List.all_eq_true] at h2 ⊢
    exact fun x hx => h2 x (hp.mem_iff.1 hx)
  · exact ((hp.map _).nodup_iff).2 h3
  · unfold pathsL at h4 ⊢
    exact ((hp.flatMap_right _).nodup_iff).2 h4
theorem write_perm {a b : Mf} (hs : a.scale = b.scale) (ht : a.tick = b.tick) (hp : a.rends.Perm b.rends) : (writeL a).length = (writeL b).length := by
  unfold writeL linesM
  rw [hs, ht]
  exact ((((((hp.flatMap_right linesR).append_right _).cons _).cons _).flatMap_right lineL)).length_eq
theorem align_iff {ls : List Ls} : alignB ls = true ↔ ∀ l ∈ ls, ∀ l' ∈ ls, framesOf l.pieces = framesOf l'.pieces := by
  cases ls with
  | nil => simp [alignB]
  | cons x r =>
    unfold alignB
    simp only [List.all_eq_true, decide_eq_true_eq]
    exact ⟨fun h l hl l' hl' => (h l hl).trans (h l' hl').symm, fun h l hl => h l hl x (by simp)⟩
theorem align_perm {a b : Mf} (hs : a.scale = b.scale) (ht : a.tick = b.tick) (hp : a.rends.Perm b.rends) (h : rightB b = true) : alignO a = alignO b := by
  have ha := right_perm hs ht hp h
  have e : alignB a.rends = alignB b.rends := by
    rw [Bool.eq_iff_iff, align_iff, align_iff]
    exact ⟨fun g l hl l' hl' => g l (hp.mem_iff.2 hl) l' (hp.mem_iff.2 hl'), fun g l hl l' hl' => g l (hp.mem_iff.1 hl) l' (hp.mem_iff.1 hl')⟩
  unfold alignO
  rw [if_pos ha, if_pos h, e]
/-- The text is the same just if there is one rendition. -/
theorem swap_text {m : Mf} {f z : Ls} (h : rightB m = true) (hf : m.rends[0]? = some f) (hz : m.rends[m.rends.length - 1]? = some z) : (writeL ⟨m.scale, m.tick, swapL m.rends f z⟩ = writeL m) ↔ m.rends.length - 1 = 0 := by
  have hp := swap_perm hf hz
  have ha : rightB ⟨m.scale, m.tick, swapL m.rends f z⟩ = true := right_perm (b := m) rfl rfl hp h
  constructor
  · intro e
    have h1 := parse_write numP_spells ha
    rw [e, parse_write numP_spells h] at h1
    have h2 := congrArg Mf.rends (Option.some.inj h1)
    have h3 : m.rends = swapL m.rends f z := h2
    rcases Nat.eq_zero_or_pos (m.rends.length - 1) with h0 | h0
    · exact h0
    · exfalso
      have h4 : (swapL m.rends f z)[0]? = some z := by
        unfold swapL
        rw [List.getElem?_set_ne (by omega), List.getElem?_set_self (by omega)]
      rw [← h3, hf] at h4
      have hfz := Option.some.inj h4
      unfold rightB at h
      simp only [Bool.and_eq_true, decide_eq_true_eq] at h
      have hnd := h.1.2
      have g0 : (m.rends.map Ls.name)[0]? = some f.name := by rw [List.getElem?_map, hf]; rfl
      have g1 : (m.rends.map Ls.name)[m.rends.length - 1]? = some f.name := by rw [List.getElem?_map, hz, hfz]; rfl
      have := (List.getElem?_inj (by simp; omega) hnd).1 (g0.trans g1.symm)
      omega
  · intro e
    have : f = z := by
      rw [e] at hz
      rw [hf] at hz
      exact Option.some.inj hz
    subst this
    have : swapL m.rends f f = m.rends := by
      unfold swapL
      rw [e]
      cases hr : m.rends with
      | nil => rfl
      | cons a r =>
        rw [hr] at hf
        simp at hf
        subst hf
        simp
    rw [this]
end Go.Proofs.YtkobngipbhjfjaaDoor
