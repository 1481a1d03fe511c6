/-
  The network's packets beside the reference's list.
-/
import Derived.Test.YtblllengohabjaaNetRefN
namespace Go.Proofs.Ytblllengohabjaa
open Go.RowKit

def sideX (i : Int) (X : List (RP × Pk)) : List Pk := (X.filter (fun x => x.1.side == i)).map Prod.snd
theorem sideX_append (i : Int) (X Y : List (RP × Pk)) : sideX i (X ++ Y) = sideX i X ++ sideX i Y := by simp [sideX]
theorem mem_sideX {i : Int} {X : List (RP × Pk)} {p : Pk} : p ∈ sideX i X ↔ ∃ x ∈ X, x.1.side = i ∧ x.2 = p := by
  unfold sideX
  simp only [List.mem_map, List.mem_filter, beq_iff_eq]
  constructor
  · rintro ⟨x, ⟨h1, h2⟩, h3⟩; exact ⟨x, h1, h2, h3⟩
  · rintro ⟨x, h1, h2, h3⟩; exact ⟨x, ⟨h1, h2⟩, h3⟩

structure CplX (X : List (RP × Pk)) (L : List RP) (P0 P1 : List Pk) (s : Int) : Prop where
  fst : X.map Prod.fst = L
  each : ∀ x ∈ X, x.1.due = x.2.due ∧ x.1.bytes = x.2.bytes ∧ (x.1.side = 0 ∨ x.1.side = 1) ∧ x.2.num < s
  p0 : P0.Perm (sideX 0 X)
  p1 : P1.Perm (sideX 1 X)
  up : X.Pairwise (fun x y => x.2.num < y.2.num)
def Cpl (L : List RP) (P0 P1 : List Pk) (s : Int) : Prop := ∃ X, CplX X L P0 P1 s

theorem Cpl.nil (s : Int) : Cpl [] [] [] s := ⟨[], rfl, (fun x hx => by cases hx), List.Perm.refl _, List.Perm.refl _, List.Pairwise.nil⟩

theorem sideX_len (X : List (RP × Pk)) (h : ∀ x ∈ X, x.1.side = 0 ∨ x.1.side = 1) : (sideX 0 X).length + (sideX 1 X).length = X.length := by
  induction X with
  | nil => rfl
  | cons x X ih =>
    have ih := ih (fun y hy => h y (List.mem_cons_of_mem _ hy))
    have hx := h x List.mem_cons_self
    unfold sideX at ih ⊢
    rcases hx with e | e
    · have e2 : (x.1.side == 0) = true := beq_iff_eq.2 e
      have e3 : (x.1.side == 1) = false := beq_eq_false_iff_ne.2 (by omega)
      simp only [List.filter_cons, e2, e3, List.map_cons, List.length_cons, if_true, Bool.false_eq_true, if_false]
      omega
    · have e2 : (x.1.side == 0) = false := beq_eq_false_iff_ne.2 (by omega)
      have e3 : (x.1.side == 1) = true := beq_iff_eq.2 e
      simp only [List.filter_cons, e2, e3, List.map_cons, List.length_cons, if_true, Bool.false_eq_true, if_false]
      omega
theorem Cpl.len {L : List RP} {P0 P1 : List Pk} {s : Int} (h : Cpl L P0 P1 s) : L.length = P0.length + P1.length := by
  obtain ⟨X, h1, h2, h3, h4, _⟩ := h
  rw [h3.length_eq, h4.length_eq, sideX_len X (fun x hx => (h2 x hx).2.2.1), ← h1, List.length_map]

theorem Cpl.add0 {L : List RP} {P0 P1 : List Pk} {s : Int} (h : Cpl L P0 P1 s) (r : RP) (p : Pk) (hs : r.side = 0) (hd : r.due = p.due) (hb : r.bytes = p.bytes) (hn : p.num = s) : Cpl (L ++ [r]) (P0 ++ [p]) P1 (s + 1) := by
  obtain ⟨X, h1, h2, h3, h4, h5⟩ := h
  refine ⟨X ++ [(r, p)], by simp [h1], fun x hx => ?_, ?_, ?_, ?_⟩
  · rcases List.mem_append.1 hx with hx | hx
    · have := h2 x hx; exact ⟨this.1, this.2.1, this.2.2.1, by omega⟩
    · rw [List.mem_singleton.1 hx]; exact ⟨hd, hb, .inl hs, by show p.num < s + 1; omega⟩
  · rw [sideX_append]
    have : sideX 0 [(r, p)] = [p] := by simp [sideX, hs]
    rw [this]
    exact h3.append_right _
  · rw [sideX_append]
    have : sideX 1 [(r, p)] = [] := by simp [sideX, hs]
    rw [this, List.append_nil]
    exact h4
  · rw [List.pairwise_append]
    refine ⟨h5, List.pairwise_singleton _ _, fun x hx y hy => ?_⟩
    rw [List.mem_singleton.1 hy]
    have := (h2 x hx).2.2.2
    show x.2.num < p.num
    omega
theorem Cpl.add1 {L : List RP} {P0 P1 : List Pk} {s : Int} (h : Cpl L P0 P1 s) (r : RP) (p : Pk) (hs : r.side = 1) (hd : r.due = p.due) (hb : r.bytes = p.bytes) (hn : p.num = s) : Cpl (L ++ [r]) P0 (P1 ++ [p]) (s + 1) := by
  obtain ⟨X, h1, h2, h3, h4, h5⟩ := h
  refine ⟨X ++ [(r, p)], by simp [h1], fun x hx => ?_, ?_, ?_, ?_⟩
  · rcases List.mem_append.1 hx with hx | hx
    · have := h2 x hx; exact ⟨this.1, this.2.1, this.2.2.1, by omega⟩
    · rw [List.mem_singleton.1 hx]; exact ⟨hd, hb, .inr hs, by show p.num < s + 1; omega⟩
  · rw [sideX_append]
    have : sideX 0 [(r, p)] = [] := by simp [sideX, hs]
    rw [this, List.append_nil]
    exact h3
  · rw [sideX_append]
    have : sideX 1 [(r, p)] = [p] := by simp [sideX, hs]
    rw [this]
    exact h4.append_right _
  · rw [List.pairwise_append]
    refine ⟨h5, List.pairwise_singleton _ _, fun x hx y hy => ?_⟩
    rw [List.mem_singleton.1 hy]
    have := (h2 x hx).2.2.2
    show x.2.num < p.num
    omega

theorem rnewsOf_one {ns : List RP} {a b : Int} {c : List UInt8} (h : rnewsOf ns = [(a, b, c)]) : ∃ p, ns = [p] ∧ p.side = a ∧ p.due = b ∧ p.bytes = c := by
  unfold rnewsOf at h
  match ns, h with
  | [p], h =>
    simp only [List.map_cons, List.map_nil, List.cons.injEq, Prod.mk.injEq, and_true] at h
    exact ⟨p, rfl, h.1, h.2.1, h.2.2⟩
theorem rnews_length (t side kind delay num : Int) (l : List UInt8) : (rnews t side kind delay num l).length = if kind = 1 then 0 else if kind = 2 then 2 else 1 := by
  unfold rnews
  split
  · rfl
  · split <;> rfl
theorem Cpl.send {L ls : List RP} {P0 P1 ns : List Pk} {s t kind delay num : Int} {l : List UInt8} {sd : Nat} (h : Cpl L P0 P1 s) (hsd : sd = 0 ∨ sd = 1) (hl : rnewsOf ls = rnews t sd kind delay num l) (hn : newsOf ns = sendNews t s kind delay num l) :
    Cpl (L ++ ls) (put0 sd P0 (sel sd P0 P1 ++ ns)) (put1 sd P1 (sel sd P0 P1 ++ ns)) (s + ((sendNews t s kind delay num l).length : Int)) := by
  unfold rnews at hl
  unfold sendNews at hn ⊢
  by_cases h1 : kind = 1
  · rw [if_pos h1] at hl hn ⊢
    obtain rfl : ls = [] := List.map_eq_nil_iff.1 hl
    obtain rfl : ns = [] := List.map_eq_nil_iff.1 hn
    have e0 : put0 sd P0 (sel sd P0 P1 ++ []) = P0 := by rw [List.append_nil]; rcases hsd with rfl | rfl <;> rfl
    have e1 : put1 sd P1 (sel sd P0 P1 ++ []) = P1 := by rw [List.append_nil]; rcases hsd with rfl | rfl <;> rfl
    rw [e0, e1, List.append_nil]
    simpa using h
  · rw [if_neg h1] at hl hn ⊢
    by_cases h2 : kind = 2
    · rw [if_pos h2] at hl hn ⊢
      obtain ⟨r, r', rfl⟩ : ∃ r r', ls = [r, r'] := by
        have := congrArg List.length hl
        unfold rnewsOf at this
        rw [List.length_map] at this
        match ls, this with
        | [p, q], _ => exact ⟨p, q, rfl⟩
      obtain ⟨p, p', rfl⟩ : ∃ r r', ns = [r, r'] := by
        have := congrArg List.length hn
        unfold newsOf at this
        rw [List.length_map] at this
        match ns, this with
        | [p, q], _ => exact ⟨p, q, rfl⟩
      simp only [rnewsOf, newsOf, List.map_cons, List.map_nil, List.cons.injEq, Prod.mk.injEq, and_true] at hl hn
      obtain ⟨⟨a1, a2, a3⟩, b1, b2, b3⟩ := hl
      obtain ⟨⟨c1, c2, c3⟩, d1, d2, d3⟩ := hn
      rcases hsd with rfl | rfl
      · have := (h.add0 r p a1 (by omega) (by rw [a3, c3]) c2).add0 r' p' b1 (by omega) (by rw [b3, d3]) (by omega)
        rw [List.append_assoc, List.append_assoc] at this
        have e : s + 1 + 1 = s + 2 := by omega
        rw [e] at this
        exact this
      · have := (h.add1 r p a1 (by omega) (by rw [a3, c3]) c2).add1 r' p' b1 (by omega) (by rw [b3, d3]) (by omega)
        rw [List.append_assoc, List.append_assoc] at this
        have e : s + 1 + 1 = s + 2 := by omega
        rw [e] at this
        exact this
    · rw [if_neg h2] at hl hn ⊢
      obtain ⟨r, rfl, a1, a2, a3⟩ := rnewsOf_one hl
      obtain ⟨p, rfl, c1, c2, c3⟩ := newsOf_one hn
      rcases hsd with rfl | rfl
      · exact h.add0 r p a1 (by omega) (by rw [a3, c3]) c2
      · exact h.add1 r p a1 (by omega) (by rw [a3, c3]) c2

theorem CplX.at_ {X : List (RP × Pk)} {L : List RP} {P0 P1 : List Pk} {s : Int} (h : CplX X L P0 P1 s) {j : Nat} {x : RP × Pk} (hx : X[j]? = some x) : rpAt L j = x.1 := by
  unfold rpAt
  rw [← h.fst, List.getD_eq_getElem?_getD, List.getElem?_map, hx]
  rfl
theorem CplX.sel_ {X : List (RP × Pk)} {L : List RP} {P0 P1 : List Pk} {s : Int} (h : CplX X L P0 P1 s) {sd : Nat} (hsd : sd = 0 ∨ sd = 1) : (sel sd P0 P1).Perm (sideX sd X) := by
  rcases hsd with rfl | rfl
  · exact h.p0
  · exact h.p1
theorem CplX.len {X : List (RP × Pk)} {L : List RP} {P0 P1 : List Pk} {s : Int} (h : CplX X L P0 P1 s) : L.length = X.length := by rw [← h.fst, List.length_map]

theorem Cpl.side_ok {L : List RP} {P0 P1 : List Pk} {s t side : Int} {b : Nat} (h : Cpl L P0 P1 s) (hb : BestTo L t side L.length b) : side = 0 ∨ side = 1 := by
  obtain ⟨X, h⟩ := h
  have hl := h.len
  obtain ⟨x, hx⟩ : ∃ x, X[b]? = some x := ⟨_, List.getElem?_eq_getElem (show b < X.length by have := hb.1; omega)⟩
  have e := h.at_ hx
  have := (h.each x (List.mem_of_getElem? hx)).2.2.1
  have hm := hb.2.1.1
  rw [e] at hm
  rw [← hm]
  exact this
theorem Cpl.no_some {L : List RP} {P0 P1 : List Pk} {s t : Int} {sd b : Nat} (h : Cpl L P0 P1 s) (hsd : sd = 0 ∨ sd = 1) (hall : ∀ p ∈ sel sd P0 P1, t < p.due) (hb : BestTo L t sd L.length b) : False := by
  obtain ⟨X, h⟩ := h
  have hl := h.len
  obtain ⟨x, hx⟩ : ∃ x, X[b]? = some x := ⟨_, List.getElem?_eq_getElem (show b < X.length by have := hb.1; omega)⟩
  have e := h.at_ hx
  obtain ⟨m1, m2⟩ := hb.2.1
  rw [e] at m1 m2
  have hm := List.mem_of_getElem? hx
  have := hall x.2 ((h.sel_ hsd).mem_iff.2 (mem_sideX.2 ⟨x, hm, m1, rfl⟩))
  have := (h.each x hm).1
  omega
theorem Cpl.some_no {L : List RP} {P0 P1 : List Pk} {s t : Int} {sd : Nat} {p : Pk} (h : Cpl L P0 P1 s) (hsd : sd = 0 ∨ sd = 1) (hp : p ∈ sel sd P0 P1) (hd : p.due ≤ t) (hb : NoneTo L t sd L.length) : False := by
  obtain ⟨X, h⟩ := h
  obtain ⟨x, hx, h1, rfl⟩ := mem_sideX.1 ((h.sel_ hsd).mem_iff.1 hp)
  obtain ⟨j, hj, hxj⟩ := List.getElem_of_mem hx
  have hxj' : X[j]? = some x := by rw [List.getElem?_eq_getElem hj, hxj]
  have e := h.at_ hxj'
  refine hb j (by rw [h.len]; exact hj) ?_
  rw [e]
  exact ⟨h1, by rw [(h.each x hx).1]; exact hd⟩
theorem Cpl.both {L : List RP} {P0 P1 P' : List Pk} {s t : Int} {sd b : Nat} {p : Pk} (h : Cpl L P0 P1 s) (hsd : sd = 0 ∨ sd = 1) (hpm : (sel sd P0 P1).Perm (p :: P')) (hmin : ∀ q ∈ sel sd P0 P1, plt q p = false) (hd : p.due ≤ t) (hb : BestTo L t sd L.length b) :
    (rpAt L b).bytes = p.bytes ∧ Cpl (L.take b ++ L.drop (b + 1)) (put0 sd P0 P') (put1 sd P1 P') s := by
  obtain ⟨X, h⟩ := h
  have hl := h.len
  obtain ⟨hbl, ⟨m1, m2⟩, b3, b4⟩ := hb
  have hbx : b < X.length := by omega
  obtain ⟨x, hx⟩ : ∃ x, X[b]? = some x := ⟨_, List.getElem?_eq_getElem hbx⟩
  have e := h.at_ hx
  have hxm := List.mem_of_getElem? hx
  rw [e] at m1 m2 b3 b4
  have hxs : x.2 ∈ sel sd P0 P1 := (h.sel_ hsd).mem_iff.2 (mem_sideX.2 ⟨x, hxm, m1, rfl⟩)
  have hxp := hmin _ hxs
  have hxd := (h.each x hxm).1
  obtain ⟨y, hy, hy1, hyp⟩ := mem_sideX.1 ((h.sel_ hsd).mem_iff.1 (hpm.mem_iff.2 List.mem_cons_self))
  obtain ⟨j, hj, hyj⟩ := List.getElem_of_mem hy
  have hyj' : X[j]? = some y := by rw [List.getElem?_eq_getElem hj, hyj]
  have ey := h.at_ hyj'
  have hyd := (h.each y hy).1
  have hmy : mat t sd (rpAt L j) := by rw [ey]; exact ⟨hy1, by rw [hyd, hyp]; exact hd⟩
  have hjb : j = b := by
    rcases Nat.lt_trichotomy j b with hlt | heq | hgt
    · exfalso
      have h6 := b3 j hlt hmy
      rw [ey] at h6
      have : plt x.2 p = true := (plt_iff _ _).2 (.inl (by rw [← hxd, ← hyp, ← hyd]; exact h6))
      rw [hxp] at this
      cases this
    · exact heq
    · exfalso
      have h6 := b4 j (by omega) (by rw [hl]; exact hj) hmy
      rw [ey] at h6
      have hnum : x.2.num < y.2.num := by
        have := List.pairwise_iff_getElem.1 h.up b j hbx hj hgt
        rw [List.getElem?_eq_getElem hbx] at hx
        injection hx with hx
        rw [hx, hyj] at this
        exact this
      have : plt x.2 p = true := (plt_iff _ _).2 (by rw [← hxd, ← hyp, ← hyd]; omega)
      rw [hxp] at this
      cases this
  subst hjb
  have hxy : x = y := by rw [hx] at hyj'; injection hyj'
  subst hxy
  have hsplit : X = X.take j ++ x :: X.drop (j + 1) := by
    have := (List.take_append_drop j X).symm
    rw [List.drop_eq_getElem_cons hbx] at this
    rwa [hyj] at this
  refine ⟨by rw [e, (h.each x hxm).2.1, hyp], X.take j ++ X.drop (j + 1), ?_, fun z hz => ?_, ?_, ?_, ?_⟩
  · rw [List.map_append, List.map_take, List.map_drop, h.fst]
  · refine h.each z ?_
    rcases List.mem_append.1 hz with hz | hz
    · exact List.mem_of_mem_take hz
    · exact List.mem_of_mem_drop hz
  · rcases hsd with rfl | rfl
    · have h7 : (p :: P').Perm (sideX 0 X) := hpm.symm.trans h.p0
      rw [hsplit, sideX_append] at h7
      have h8 : sideX 0 (x :: X.drop (j + 1)) = p :: sideX 0 (X.drop (j + 1)) := by
        have : (x.1.side == 0) = true := beq_iff_eq.2 m1
        simp [sideX, this, hyp]
      rw [h8] at h7
      rw [sideX_append]
      exact ((List.perm_cons p).1 (h7.trans List.perm_middle))
    · have h8 : sideX 0 X = sideX 0 (X.take j ++ X.drop (j + 1)) := by
        have : (x.1.side == 0) = false := beq_eq_false_iff_ne.2 (by rw [m1]; decide)
        conv => lhs; rw [hsplit]
        rw [sideX_append, sideX_append]
        simp [sideX, this]
      rw [← h8]
      exact h.p0
  · rcases hsd with rfl | rfl
    · have h8 : sideX 1 X = sideX 1 (X.take j ++ X.drop (j + 1)) := by
        have : (x.1.side == 1) = false := beq_eq_false_iff_ne.2 (by rw [m1]; decide)
        conv => lhs; rw [hsplit]
        rw [sideX_append, sideX_append]
        simp [sideX, this]
      rw [← h8]
      exact h.p1
    · have h7 : (p :: P').Perm (sideX 1 X) := hpm.symm.trans h.p1
      rw [hsplit, sideX_append] at h7
      have h8 : sideX 1 (x :: X.drop (j + 1)) = p :: sideX 1 (X.drop (j + 1)) := by
        have : (x.1.side == 1) = true := beq_iff_eq.2 m1
        simp [sideX, this, hyp]
      rw [h8] at h7
      rw [sideX_append]
      exact ((List.perm_cons p).1 (h7.trans List.perm_middle))
  · have := h.up
    rw [hsplit, List.pairwise_append] at this
    rw [List.pairwise_append]
    exact ⟨this.1, (List.pairwise_cons.1 this.2.1).2, fun a ha b hb => this.2.2 a ha b (List.mem_cons_of_mem _ hb)⟩
end Go.Proofs.Ytblllengohabjaa
