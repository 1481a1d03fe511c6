/-
  The plain law of the meter: a ring of four against the list of all downloads.
-/
namespace Go.Proofs.Ytaflmnnnmbklfaa

/-- A download: bytes, ticks. -/
abbrev Dl := Int × Int
def dlOk (b t : Int) : Bool := decide (0 ≤ b ∧ b ≤ 1048576 ∧ 1 ≤ t ∧ t ≤ 1048576)
def AllOk (L : List Dl) : Prop := ∀ d ∈ L, dlOk d.1 d.2 = true

/-- The i-th download. -/
def dlAt (L : List Dl) (i : Nat) : Dl := L.getD i (0, 0)

/-- What a download weighs. -/
def weigh (scale : Int) (d : Dl) : Int := 1099511627776 / max (d.1 * scale / d.2) 1

/-- The sum of what the downloads from k on, up to n, weigh. -/
def weighTo (L : List Dl) (scale : Int) (k : Nat) : Nat → Int
  | 0 => 0
  | j + 1 => weighTo L scale k j + weigh scale (dlAt L (k + j))

def first (L : List Dl) : Nat := L.length - 4
def rate (L : List Dl) (scale : Int) : Int :=
  if scale < 1 ∨ 1048576 < scale ∨ L.length = 0 then 0
  else (((L.length - first L : Nat) : Int) * 1099511627776) / weighTo L scale (first L) (L.length - first L)

theorem dlAt_ok {L : List Dl} (h : AllOk L) {i : Nat} (hi : i < L.length) : dlOk (dlAt L i).1 (dlAt L i).2 = true := by
  unfold dlAt
  rw [List.getD_eq_getElem?_getD, List.getElem?_eq_getElem hi]
  exact h _ (List.getElem_mem hi)

theorem prod_bd (b s : Int) (hb : 0 ≤ b ∧ b ≤ 1048576) (hs : 1 ≤ s ∧ s ≤ 1048576) : 0 ≤ b * s ∧ b * s ≤ 1099511627776 := by
  refine ⟨Int.mul_nonneg hb.1 (by omega), ?_⟩
  have : b * s ≤ 1048576 * 1048576 := Int.mul_le_mul hb.2 hs.2 (by omega) (by omega)
  omega
theorem quo_bd (b s t : Int) (hb : 0 ≤ b ∧ b ≤ 1048576) (hs : 1 ≤ s ∧ s ≤ 1048576) (ht : 1 ≤ t) : 0 ≤ b * s / t ∧ b * s / t ≤ 1099511627776 := by
  have h := prod_bd b s hb hs
  refine ⟨Int.ediv_nonneg h.1 (by omega), Int.le_trans (Int.ediv_le_self _ h.1) h.2⟩
theorem div_bd (x : Int) (h : 1 ≤ x ∧ x ≤ 1099511627776) : 1 ≤ 1099511627776 / x ∧ 1099511627776 / x ≤ 1099511627776 :=
  ⟨Int.le_ediv_of_mul_le (by omega) (by omega), Int.ediv_le_self _ (by omega)⟩
theorem weigh_bd (d : Dl) (s : Int) (hd : dlOk d.1 d.2 = true) (hs : 1 ≤ s ∧ s ≤ 1048576) : 1 ≤ weigh s d ∧ weigh s d ≤ 1099511627776 := by
  unfold dlOk at hd
  simp only [decide_eq_true_eq] at hd
  have h := quo_bd d.1 s d.2 ⟨hd.1, hd.2.1⟩ hs hd.2.2.1
  unfold weigh
  exact div_bd _ (by omega)
theorem weighTo_bd (L : List Dl) (s : Int) (k : Nat) (hL : AllOk L) (hs : 1 ≤ s ∧ s ≤ 1048576) (j : Nat) (hj : k + j ≤ L.length) :
    (j : Int) ≤ weighTo L s k j ∧ weighTo L s k j ≤ (j : Int) * 1099511627776 := by
  induction j with
  | zero => simp [weighTo]
  | succ j ih =>
    have h1 := ih (by omega)
    have h2 := weigh_bd (dlAt L (k + j)) s (dlAt_ok hL (by omega)) hs
    simp only [weighTo]
    omega

/-- The ring: the slots, as a function of their place. -/
structure Ring (x : Nat → Dl) (L : List Dl) : Prop where
  few : L.length < 4 → ∀ j, j < L.length → x j = dlAt L j
  many : 4 ≤ L.length → ∀ i, i < 4 → x ((L.length + i) % 4) = dlAt L (L.length - 4 + i)

theorem dlAt_old (L : List Dl) (d : Dl) (i : Nat) (h : i < L.length) : dlAt (L ++ [d]) i = dlAt L i := by
  unfold dlAt; simp [List.getD_eq_getElem?_getD, List.getElem?_append_left h]
theorem dlAt_new (L : List Dl) (d : Dl) : dlAt (L ++ [d]) L.length = d := by
  unfold dlAt; simp [List.getD_eq_getElem?_getD]

theorem Ring.add {x : Nat → Dl} {L : List Dl} (h : Ring x L) (d : Dl) : Ring (fun j => if j = L.length % 4 then d else x j) (L ++ [d]) := by
  constructor
  · intro hl j hj
    rw [List.length_append, List.length_singleton] at hl hj
    by_cases hjl : j = L.length
    · subst hjl
      rw [dlAt_new, if_pos (by omega)]
    · rw [dlAt_old _ _ _ (by omega), if_neg (by omega)]
      exact h.few (by omega) j (by omega)
  · intro hl i hi
    rw [List.length_append, List.length_singleton] at hl ⊢
    by_cases hi3 : i = 3
    · subst hi3
      rw [if_pos (by omega), show L.length + 1 - 4 + 3 = L.length by omega, dlAt_new]
    · by_cases h4 : 4 ≤ L.length
      · rw [if_neg (by omega), dlAt_old _ _ _ (by omega)]
        have := h.many h4 (i + 1) (by omega)
        rw [show L.length + 1 + i = L.length + (i + 1) by omega, this, show L.length - 4 + (i + 1) = L.length + 1 - 4 + i by omega]
      · have e : L.length = 3 := by omega
        rw [if_neg (by omega), dlAt_old _ _ _ (by omega)]
        have := h.few (by omega) i (by omega)
        rw [show (L.length + 1 + i) % 4 = i by omega, this, show L.length + 1 - 4 + i = i by omega]

/-- The sum over the ring's first slots. -/
def ringSum (x : Nat → Dl) (scale : Int) : Nat → Int
  | 0 => 0
  | j + 1 => ringSum x scale j + weigh scale (x j)

theorem Ring.sum_few {x : Nat → Dl} {L : List Dl} (h : Ring x L) (s : Int) (hl : L.length < 4) (j : Nat) (hj : j ≤ L.length) : ringSum x s j = weighTo L s 0 j := by
  induction j with
  | zero => rfl
  | succ j ih => simp only [ringSum, weighTo]; rw [ih (by omega), h.few hl j (by omega), Nat.zero_add]

theorem Ring.sum_many {x : Nat → Dl} {L : List Dl} (h : Ring x L) (s : Int) (hl : 4 ≤ L.length) : ringSum x s 4 = weighTo L s (L.length - 4) 4 := by
  have h0 := h.many hl 0 (by omega)
  have h1 := h.many hl 1 (by omega)
  have h2 := h.many hl 2 (by omega)
  have h3 := h.many hl 3 (by omega)
  simp only [ringSum, weighTo]
  rw [← h0, ← h1, ← h2, ← h3]
  have hm : L.length % 4 = 0 ∨ L.length % 4 = 1 ∨ L.length % 4 = 2 ∨ L.length % 4 = 3 := by omega
  rcases hm with e | e | e | e
  · rw [show (L.length + 0) % 4 = 0 by omega, show (L.length + 1) % 4 = 1 by omega, show (L.length + 2) % 4 = 2 by omega, show (L.length + 3) % 4 = 3 by omega]
  · rw [show (L.length + 0) % 4 = 1 by omega, show (L.length + 1) % 4 = 2 by omega, show (L.length + 2) % 4 = 3 by omega, show (L.length + 3) % 4 = 0 by omega]; omega
  · rw [show (L.length + 0) % 4 = 2 by omega, show (L.length + 1) % 4 = 3 by omega, show (L.length + 2) % 4 = 0 by omega, show (L.length + 3) % 4 = 1 by omega]; omega
  · rw [show (L.length + 0) % 4 = 3 by omega, show (L.length + 1) % 4 = 0 by omega, show (L.length + 2) % 4 = 1 by omega, show (L.length + 3) % 4 = 2 by omega]; omega

theorem Ring.rate {x : Nat → Dl} {L : List Dl} (h : Ring x L) (s : Int) (hs : 1 ≤ s ∧ s ≤ 1048576) (hL : L.length ≠ 0) :
    ((min L.length 4 : Nat) : Int) * 1099511627776 / ringSum x s (min L.length 4) = Go.Proofs.Ytaflmnnnmbklfaa.rate L s := by
  unfold Go.Proofs.Ytaflmnnnmbklfaa.rate first
  rw [if_neg (by omega)]
  by_cases h4 : 4 ≤ L.length
  · rw [Nat.min_eq_right h4, h.sum_many s h4, show L.length - (L.length - 4) = 4 by omega]
  · rw [Nat.min_eq_left (by omega), h.sum_few s (by omega) _ (Nat.le_refl _), show L.length - 4 = 0 by omega, Nat.sub_zero]

/-- The meter's rate hangs on the last four alone. -/
theorem rate_last (L : List Dl) (s : Int) : rate (L.drop (first L)) s = rate L s := by
  unfold rate first
  rw [List.length_drop]
  by_cases h : L.length = 0
  · rw [if_pos (by omega), if_pos (by omega)]
  · by_cases hs : s < 1 ∨ 1048576 < s
    · rw [if_pos (by omega), if_pos (by omega)]
    · rw [if_neg (by omega), if_neg (by omega)]
      have e : L.length - (L.length - 4) - (L.length - (L.length - 4) - 4) = L.length - (L.length - 4) := by omega
      rw [e, show L.length - (L.length - 4) - 4 = 0 by omega]
      congr 1
      generalize L.length - (L.length - 4) = j
      generalize L.length - 4 = k
      induction j with
      | zero => rfl
      | succ j ih =>
        simp only [weighTo]
        rw [ih]
        unfold dlAt
        simp [List.getD_eq_getElem?_getD, List.getElem?_drop]
end Go.Proofs.Ytaflmnnnmbklfaa
