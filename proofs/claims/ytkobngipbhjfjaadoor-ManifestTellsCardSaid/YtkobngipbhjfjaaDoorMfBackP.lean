/-
  A text with a line less, a line more, or a blank ahead is no manifest's. No program in sight.
-/
import Derived.Test.YtkobngipbhjfjaaDoorMfText
namespace Go.Proofs.YtkobngipbhjfjaaDoor

theorem parse_parts {num : Str → Option Int} {s : Str} {m : Mf} (h : parseO num s = some m) : rightB m = true ∧ writeL m = s := by
  unfold parseO at h
  obtain ⟨m', _, e⟩ := Option.bind_eq_some_iff.1 h
  split at e
  · rename_i hr
    injection e with e
    subst e
    exact hr
  · cases e
/-- A text's lines, each cut at its blanks. -/
def fieldsOf (s : Str) : List (List Str) := ((cutL 10 s).map (cutL 32)).dropLast
theorem fields_lines {ls : List (List Str)} (h : ∀ fs ∈ ls, fs ≠ [] ∧ ∀ f ∈ fs, Fld f) : fieldsOf (ls.flatMap lineL) = ls := by
  unfold fieldsOf
  rw [cutL_lines (fun fs hfs hm => by
    obtain ⟨f, hfm, hc⟩ := mem_join (by decide) hm
    exact ((h fs hfs).2 f hfm).2 hc), List.map_append, List.map_cons, List.map_nil, List.dropLast_concat, List.map_map]
  rw [List.map_congr_left (g := id) (fun fs hfs => ?_), List.map_id]
  exact cutL_join (h fs hfs).1 (fun f hf => ((h fs hfs).2 f hf).1)
theorem lines_body (m : Mf) : linesM m = ([kKinora, kOne] :: [kScale, dec m.scale, kTick, dec m.tick] :: m.rends.flatMap linesR) ++ [[kEnd]] := by
  unfold linesM
  simp
theorem lineR_last {l : Ls} (h : 1 ≤ l.pieces.length) : ∃ ls p, linesR l = ls ++ [linesP p] := by
  obtain ⟨a, p, hp⟩ : ∃ a p, l.pieces = a ++ [p] := by
    rcases List.eq_nil_or_concat l.pieces with h0 | ⟨a, b, h0⟩
    · rw [h0] at h
      simp at h
    · exact ⟨a, b, by rw [h0, List.concat_eq_append]⟩
  refine ⟨[kRend, l.name, dec l.w, dec l.h, dec l.bw] :: [kInit, dec l.init.sz, l.init.path] :: a.map linesP, p, ?_⟩
  unfold linesR
  rw [hp]
  simp
/-- Ahead of its end a right manifest's text has a piece's line. -/
theorem body_last {m : Mf} (h : rightB m = true) : ∃ ls p, ([kKinora, kOne] :: [kScale, dec m.scale, kTick, dec m.tick] :: m.rends.flatMap linesR) = ls ++ [linesP p] := by
  obtain ⟨_, ⟨h1, _⟩, hl⟩ := right_bounds h
  obtain ⟨a, l, ha⟩ : ∃ a l, m.rends = a ++ [l] := by
    rcases List.eq_nil_or_concat m.rends with h0 | ⟨a, b, h0⟩
    · rw [h0] at h1
      simp at h1
    · exact ⟨a, b, by rw [h0, List.concat_eq_append]⟩
  have hp := (listed_parts (hl l (by rw [ha]; simp))).2.2.2.2.2.2.2.1
  obtain ⟨ls, p, e⟩ := lineR_last hp
  refine ⟨[kKinora, kOne] :: [kScale, dec m.scale, kTick, dec m.tick] :: (a.flatMap linesR ++ ls), p, ?_⟩
  rw [ha, List.flatMap_append, List.flatMap_singleton, e]
  simp
theorem linesP_ne (p : Pc) : linesP p ≠ [kEnd] := by
  unfold linesP
  intro h
  have := congrArg List.length h
  simp at this
theorem write_split (m : Mf) : writeL m = ([kKinora, kOne] :: [kScale, dec m.scale, kTick, dec m.tick] :: m.rends.flatMap linesR).flatMap lineL ++ [101, 110, 100, 10] := by
  unfold writeL
  rw [lines_body, List.flatMap_append]
  rfl
theorem less_none {num : Str → Option Int} {m : Mf} (h : rightB m = true) : parseO num ((writeL m).take ((writeL m).length - 4)) = none := by
  cases hq : parseO num ((writeL m).take ((writeL m).length - 4)) with
  | none => rfl
  | some m' =>
    obtain ⟨h1, h2⟩ := parse_parts hq
    have ht : (writeL m).take ((writeL m).length - 4) = ([kKinora, kOne] :: [kScale, dec m.scale, kTick, dec m.tick] :: m.rends.flatMap linesR).flatMap lineL := by
      rw [write_split, List.length_append]
      show List.take (_ + 4 - 4) _ = _
      rw [Nat.add_sub_cancel, List.take_left]
    rw [ht] at h2
    have hf := lines_fld h
    rw [lines_body] at hf
    have e1 := fields_lines (lines_fld h1)
    have e2 := fields_lines (fun fs hfs => hf fs (List.mem_append_left _ hfs))
    unfold writeL at h2
    rw [h2, e2] at e1
    obtain ⟨ls, p, e3⟩ := body_last h
    rw [e3, lines_body m'] at e1
    exact absurd (List.append_inj_right' e1 rfl |> fun e => by injection e) (linesP_ne p)
theorem more_none {num : Str → Option Int} {m : Mf} (h : rightB m = true) : parseO num (writeL m ++ [101, 110, 100, 10]) = none := by
  cases hq : parseO num (writeL m ++ [101, 110, 100, 10]) with
  | none => rfl
  | some m' =>
    obtain ⟨h1, h2⟩ := parse_parts hq
    have hf := lines_fld h
    have hend : ∀ fs ∈ [[kEnd]], fs ≠ [] ∧ ∀ f ∈ fs, Fld f := by
      intro fs hfs
      rw [List.mem_singleton] at hfs
      subst hfs
      exact ⟨by simp, by unfold Fld; decide⟩
    have e1 := fields_lines (lines_fld h1)
    have e2 := fields_lines (ls := linesM m ++ [[kEnd]]) (fun fs hfs => by
      rcases List.mem_append.1 hfs with hfs | hfs
      · exact hf fs hfs
      · exact hend fs hfs)
    rw [List.flatMap_append] at e2
    unfold writeL at h2
    rw [h2] at e1
    have e3 : linesM m' = linesM m ++ [[kEnd]] := e1.symm.trans e2
    obtain ⟨ls, p, e4⟩ := body_last h1
    rw [lines_body m', e4, lines_body m] at e3
    have e5 := List.append_inj_left' e3 rfl
    exact absurd (List.append_inj_right' e5 rfl |> fun e => by injection e) (linesP_ne p)
theorem blank_none {num : Str → Option Int} (s : Str) : parseO num (32 :: s) = none := by
  cases hq : parseO num (32 :: s) with
  | none => rfl
  | some m' =>
    obtain ⟨_, h2⟩ := parse_parts hq
    rw [writeL_eq] at h2
    unfold headL lineL at h2
    simp only [joinSp, kKinora, List.cons_append] at h2
    injection h2 with h2
    cases h2
theorem write_len {m : Mf} (h : rightB m = true) : 5 ≤ (writeL m).length ∧ (writeL m).length ≤ 640000 := by
  have h1 := headL_len h
  have h2 := rends_len h m.rends.length
  rw [List.take_length] at h2
  rw [writeL_eq, List.length_append, List.length_append]
  have h3 : (lineL [kEnd]).length = 4 := rfl
  have h4 : 5 ≤ (headL m).length := by
    unfold headL lineL
    simp only [joinSp, kKinora, List.cons_append, List.length_append, List.length_cons, List.length_nil]
    omega
  omega
end Go.Proofs.YtkobngipbhjfjaaDoor
