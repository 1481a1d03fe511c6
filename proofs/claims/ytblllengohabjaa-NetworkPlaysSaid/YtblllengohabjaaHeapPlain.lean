/-
  The plain law of a binary heap in a list: what up and down leave is a heap of the same packets.
-/
import GoSem.Core.World
namespace Go.Proofs.Ytblllengohabjaa

/-- A packet under way: when it is due, its number, where its bytes lie, its bytes. -/
structure Pk where
  due : Int
  num : Int
  data : Value
  bytes : List UInt8

def pk0 : Pk := ⟨0, 0, .slice none 0 0, []⟩
def pkAt (ps : List Pk) (i : Nat) : Pk := ps.getD i pk0
def plt (p q : Pk) : Bool := if p.due = q.due then decide (p.num < q.num) else decide (p.due < q.due)
theorem plt_iff (p q : Pk) : plt p q = true ↔ (p.due < q.due ∨ p.due = q.due ∧ p.num < q.num) := by
  unfold plt
  split <;> simp <;> omega
theorem plt_no (p q : Pk) : plt p q = false ↔ (q.due < p.due ∨ p.due = q.due ∧ q.num ≤ p.num) := by
  unfold plt
  split <;> simp <;> omega

def swapL (ps : List Pk) (i j : Nat) : List Pk := (ps.set i (pkAt ps j)).set j (pkAt ps i)
theorem length_swapL (ps : List Pk) (i j : Nat) : (swapL ps i j).length = ps.length := by simp [swapL]
theorem pkAt_get (ps : List Pk) (i : Nat) (h : i < ps.length) : pkAt ps i = ps[i] := by
  unfold pkAt; rw [List.getD_eq_getElem?_getD, List.getElem?_eq_getElem h]; rfl
theorem pkAt_swapL (ps : List Pk) (i j k : Nat) (hi : i < ps.length) (hj : j < ps.length) :
    pkAt (swapL ps i j) k = if k = j then pkAt ps i else if k = i then pkAt ps j else pkAt ps k := by
  unfold swapL
  by_cases hk : k < ps.length
  · rw [pkAt_get _ _ (by simpa using hk), List.getElem_set]
    by_cases hkj : k = j
    · subst hkj; simp
    · rw [if_neg (by omega), if_neg hkj, List.getElem_set]
      by_cases hki : k = i
      · subst hki; simp
      · rw [if_neg (by omega), if_neg hki, pkAt_get _ _ hk]
  · rw [if_neg (by omega), if_neg (by omega)]
    unfold pkAt
    simp [List.getD_eq_getElem?_getD, hk]
theorem perm_swapL (ps : List Pk) (i j : Nat) (hi : i < ps.length) (hj : j < ps.length) : (swapL ps i j).Perm ps := by
  have h := Array.swap_perm (xs := ps.toArray) (i := i) (j := j) (by simpa using hi) (by simpa using hj)
  have h2 := h.toList
  have e : (ps.toArray.swap i j (by simpa using hi) (by simpa using hj)).toList = swapL ps i j := by
    simp [Array.swap, swapL, pkAt_get _ _ hi, pkAt_get _ _ hj]
  rw [e] at h2
  simpa using h2

/-- The first n are a heap. -/
def HeapTo (ps : List Pk) (n : Nat) : Prop := ∀ k, 0 < k → k < n → plt (pkAt ps k) (pkAt ps ((k - 1) / 2)) = false
/-- .. but for place j against the one above. -/
structure UpInv (ps : List Pk) (n j : Nat) : Prop where
  lt : j < n
  one : ∀ k, 0 < k → k < n → k ≠ j → plt (pkAt ps k) (pkAt ps ((k - 1) / 2)) = false
  two : ∀ k, 0 < k → k < n → (k - 1) / 2 = j → 0 < j → plt (pkAt ps k) (pkAt ps ((j - 1) / 2)) = false
theorem UpInv.stop0 {ps : List Pk} {n : Nat} (h : UpInv ps n 0) : HeapTo ps n := fun k h0 hk => h.one k h0 hk (by omega)
theorem UpInv.stop {ps : List Pk} {n j : Nat} (h : UpInv ps n j) (hs : plt (pkAt ps j) (pkAt ps ((j - 1) / 2)) = false) : HeapTo ps n := fun k h0 hk => by
  by_cases e : k = j
  · subst e; exact hs
  · exact h.one k h0 hk e
theorem UpInv.next {ps : List Pk} {n j : Nat} (h : UpInv ps n j) (hn : n ≤ ps.length) (hj : 0 < j) (hs : plt (pkAt ps j) (pkAt ps ((j - 1) / 2)) = true) : UpInv (swapL ps ((j - 1) / 2) j) n ((j - 1) / 2) := by
  have hjn := h.lt
  have hat := fun k => pkAt_swapL ps ((j - 1) / 2) j k (by omega) (by omega)
  have hs' := (plt_iff _ _).1 hs
  refine ⟨by omega, fun k h0 hk hne => ?_, fun k h0 hk hp hi => ?_⟩
  · rw [hat, hat]
    by_cases e : k = j
    · subst e
      rw [if_pos rfl, if_neg (by omega), if_pos rfl, plt_no]
      omega
    · rw [if_neg e, if_neg (by omega)]
      by_cases e1 : (k - 1) / 2 = j
      · rw [if_pos e1]
        exact h.two k h0 hk e1 hj
      · rw [if_neg e1]
        have h1 := h.one k h0 hk e
        by_cases e2 : (k - 1) / 2 = (j - 1) / 2
        · rw [if_pos e2]
          rw [e2] at h1
          rw [plt_no] at h1 ⊢
          omega
        · rw [if_neg e2]
          exact h1
  · have h2 := h.one ((j - 1) / 2) hi (by omega) (by omega)
    rw [hat, hat]
    rw [if_neg (show ((j - 1) / 2 - 1) / 2 ≠ j by omega), if_neg (show ((j - 1) / 2 - 1) / 2 ≠ (j - 1) / 2 by omega)]
    by_cases e : k = j
    · subst e
      rw [if_pos rfl]
      exact h2
    · rw [if_neg e, if_neg (by omega)]
      have h1 := h.one k h0 hk e
      rw [hp] at h1
      rw [plt_no] at h1 h2 ⊢
      omega

/-- A heap but for place i against the two below. -/
structure DownInv (ps : List Pk) (n i : Nat) : Prop where
  one : ∀ k, 0 < k → k < n → (k - 1) / 2 ≠ i → plt (pkAt ps k) (pkAt ps ((k - 1) / 2)) = false
  two : ∀ k, 0 < k → k < n → (k - 1) / 2 = i → 0 < i → plt (pkAt ps k) (pkAt ps ((i - 1) / 2)) = false
theorem DownInv.stop0 {ps : List Pk} {n i : Nat} (h : DownInv ps n i) (hi : n ≤ 2 * i + 1) : HeapTo ps n := fun k h0 hk => h.one k h0 hk (by omega)
/-- Which of the two below comes first. -/
def lesser (ps : List Pk) (n i : Nat) : Nat := if 2 * i + 2 < n ∧ plt (pkAt ps (2 * i + 2)) (pkAt ps (2 * i + 1)) = true then 2 * i + 2 else 2 * i + 1
theorem lesser_bd (ps : List Pk) (n i : Nat) (h : 2 * i + 1 < n) : i < lesser ps n i ∧ lesser ps n i < n ∧ (lesser ps n i - 1) / 2 = i := by
  unfold lesser
  split <;> omega
theorem lesser_le (ps : List Pk) (n i k : Nat) (h0 : 0 < k) (hk : k < n) (hp : (k - 1) / 2 = i) : plt (pkAt ps k) (pkAt ps (lesser ps n i)) = false := by
  have hk2 : k = 2 * i + 1 ∨ k = 2 * i + 2 := by omega
  unfold lesser
  rcases hk2 with rfl | rfl
  · split
    · rename_i hh
      have := (plt_iff _ _).1 hh.2
      rw [plt_no]; omega
    · rw [plt_no]; omega
  · split
    · rw [plt_no]; omega
    · rename_i hh
      cases hc : plt (pkAt ps (2 * i + 2)) (pkAt ps (2 * i + 1)) with
      | false => rfl
      | true => exact absurd ⟨hk, hc⟩ hh
theorem DownInv.stop {ps : List Pk} {n i : Nat} (h : DownInv ps n i) (hs : plt (pkAt ps (lesser ps n i)) (pkAt ps i) = false) : HeapTo ps n := fun k h0 hk => by
  by_cases e : (k - 1) / 2 = i
  · have h1 := lesser_le ps n i k h0 hk e
    rw [e]
    rw [plt_no] at h1 hs ⊢
    omega
  · exact h.one k h0 hk e
theorem DownInv.next {ps : List Pk} {n i : Nat} (h : DownInv ps n i) (hn : n ≤ ps.length) (hi : 2 * i + 1 < n) (hs : plt (pkAt ps (lesser ps n i)) (pkAt ps i) = true) : DownInv (swapL ps i (lesser ps n i)) n (lesser ps n i) := by
  obtain ⟨b1, b2, b3⟩ := lesser_bd ps n i hi
  have hle := lesser_le ps n i
  generalize lesser ps n i = j at *
  have hat := fun k => pkAt_swapL ps i j k (by omega) (by omega)
  have hs' := (plt_iff _ _).1 hs
  refine ⟨fun k h0 hk hne => ?_, fun k h0 hk hp hj => ?_⟩
  · rw [hat, hat]
    rw [if_neg hne]
    by_cases e : k = j
    · subst e
      rw [if_pos rfl, b3, if_pos rfl, plt_no]
      omega
    · rw [if_neg e]
      by_cases e1 : k = i
      · subst e1
        rw [if_pos rfl, if_neg (by omega)]
        exact h.two j (by omega) (by omega) b3 (by omega)
      · rw [if_neg e1]
        by_cases e2 : (k - 1) / 2 = i
        · rw [if_pos e2]
          exact hle k h0 hk e2
        · rw [if_neg e2]
          exact h.one k h0 hk e2
  · rw [hat, hat, b3]
    rw [if_neg (by omega), if_neg (by omega), if_neg (by omega), if_pos rfl]
    have h1 := h.one k h0 hk (by omega)
    rw [hp] at h1
    exact h1

/-- The first of a heap comes first. -/
theorem HeapTo.first {ps : List Pk} {n : Nat} (h : HeapTo ps n) : ∀ k, k < n → plt (pkAt ps k) (pkAt ps 0) = false := by
  intro k
  induction k using Nat.strongRecOn with
  | _ k ih =>
    intro hk
    by_cases h0 : k = 0
    · subst h0; rw [plt_no]; omega
    · have h1 := h k (by omega) hk
      have h2 := ih ((k - 1) / 2) (by omega) (by omega)
      rw [plt_no] at h1 h2 ⊢
      omega

def Heap (ps : List Pk) : Prop := HeapTo ps ps.length
theorem pkAt_left (ps qs : List Pk) (i : Nat) (h : i < ps.length) : pkAt (ps ++ qs) i = pkAt ps i := by
  unfold pkAt; simp [List.getD_eq_getElem?_getD, List.getElem?_append_left h]
theorem pkAt_take (ps : List Pk) (n i : Nat) (h : i < n) : pkAt (ps.take n) i = pkAt ps i := by
  unfold pkAt; simp [List.getD_eq_getElem?_getD, h]
theorem Heap.pushed {ps : List Pk} (h : Heap ps) (p : Pk) : UpInv (ps ++ [p]) (ps.length + 1) ps.length := by
  refine ⟨by omega, fun k h0 hk hne => ?_, fun k h0 hk hp _ => by omega⟩
  rw [pkAt_left _ _ _ (by omega), pkAt_left _ _ _ (by omega)]
  exact h k h0 (by omega)
theorem Heap.popped {ps : List Pk} (h : Heap ps) (hn : 0 < ps.length) : DownInv (swapL ps 0 (ps.length - 1)) (ps.length - 1) 0 := by
  refine ⟨fun k h0 hk hne => ?_, fun k h0 hk hp hi => by omega⟩
  rw [pkAt_swapL _ _ _ _ hn (by omega), pkAt_swapL _ _ _ _ hn (by omega)]
  rw [if_neg (by omega), if_neg (by omega), if_neg (by omega), if_neg (by omega)]
  exact h k h0 (by omega)
theorem HeapTo.take {ps : List Pk} {n : Nat} (h : HeapTo ps n) (hn : n ≤ ps.length) : Heap (ps.take n) := fun k h0 hk => by
  rw [List.length_take] at hk
  rw [pkAt_take _ _ _ (by omega), pkAt_take _ _ _ (by omega)]
  exact h k h0 (by omega)
end Go.Proofs.Ytblllengohabjaa
