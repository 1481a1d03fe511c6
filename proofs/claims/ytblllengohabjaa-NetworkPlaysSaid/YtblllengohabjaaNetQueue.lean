/-
  network.queue: its methods through an interface value; Len, Less, Swap.
-/
import Derived.Test.YtblllengohabjaaAppend
import Derived.Test.YtblllengohabjaaHeapPlain
import Derived.BigRegion
import Derived.Deep.AppendLies
namespace Go.Proofs.Ytblllengohabjaa
open Go.RowKit

theorem m_less (n : Nat) (a : Addr) (w : World) : (method (n + 1) 57 (.pointer (some a)) "Less").run Try.prog w = ((loadVar 52 a) >>= fun v => pure (45, v)).run Try.prog w := by kernel_rfl
theorem m_swap (n : Nat) (a : Addr) (w : World) : (method (n + 1) 57 (.pointer (some a)) "Swap").run Try.prog w = ((loadVar 52 a) >>= fun v => pure (46, v)).run Try.prog w := by kernel_rfl
theorem m_len (n : Nat) (a : Addr) (w : World) : (method (n + 1) 57 (.pointer (some a)) "Len").run Try.prog w = ((loadVar 52 a) >>= fun v => pure (21, v)).run Try.prog w := by kernel_rfl
theorem m_push (n : Nat) (a : Addr) (w : World) : (method (n + 1) 57 (.pointer (some a)) "Push").run Try.prog w = .ok (48, .pointer (some a)) w := by kernel_rfl
theorem m_pop (n : Nat) (a : Addr) (w : World) : (method (n + 1) 57 (.pointer (some a)) "Pop").run Try.prog w = .ok (47, .pointer (some a)) w := by kernel_rfl

theorem load_q (a : Addr) (w : World) (A : Option Addr) (n c : Nat) (h : w.cell? a = some (.slice A n c)) : (loadVar 52 a).run Try.prog w = .ok (.slice A n c) w := by
  simp [go_sem, h]
theorem q_less (k : Nat) (a : Addr) (w : World) (A : Option Addr) (n c : Nat) (h : w.cell? a = some (.slice A n c)) : (method (k + 1) 57 (.pointer (some a)) "Less").run Try.prog w = .ok (45, .slice A n c) w := by
  rw [m_less, Sem.run_bind, load_q a w A n c h]; rfl
theorem q_swap (k : Nat) (a : Addr) (w : World) (A : Option Addr) (n c : Nat) (h : w.cell? a = some (.slice A n c)) : (method (k + 1) 57 (.pointer (some a)) "Swap").run Try.prog w = .ok (46, .slice A n c) w := by
  rw [m_swap, Sem.run_bind, load_q a w A n c h]; rfl
theorem q_len (k : Nat) (a : Addr) (w : World) (A : Option Addr) (n c : Nat) (h : w.cell? a = some (.slice A n c)) : (method (k + 1) 57 (.pointer (some a)) "Len").run Try.prog w = .ok (21, .slice A n c) w := by
  rw [m_len, Sem.run_bind, load_q a w A n c h]; rfl

/-- The cells of packets. -/
def pkCells : List Pk → List Value
  | [] => []
  | p :: r => .int .i64 p.due :: .int .i64 p.num :: p.data :: pkCells r
theorem pkCells_length (ps : List Pk) : (pkCells ps).length = ps.length * 3 := by
  induction ps with
  | nil => rfl
  | cons p r ih => simp only [pkCells, List.length_cons, ih]; omega
theorem pkCells_append (ps qs : List Pk) : pkCells (ps ++ qs) = pkCells ps ++ pkCells qs := by
  induction ps with
  | nil => rfl
  | cons p r ih => simp only [List.cons_append, pkCells, ih]
theorem pkCells_at (ps : List Pk) (i : Nat) (h : i < ps.length) : (pkCells ps)[i * 3]? = some (.int .i64 (pkAt ps i).due) ∧ (pkCells ps)[i * 3 + 1]? = some (.int .i64 (pkAt ps i).num) ∧ (pkCells ps)[i * 3 + 2]? = some (pkAt ps i).data := by
  induction ps generalizing i with
  | nil => simp at h
  | cons p r ih =>
    cases i with
    | zero => exact ⟨rfl, rfl, rfl⟩
    | succ i =>
      have := ih i (by simpa using h)
      simpa [pkCells, pkAt, Nat.add_mul] using this
theorem pkCells_set (ps : List Pk) (i : Nat) (p : Pk) : (((pkCells ps).set (i * 3) (.int .i64 p.due)).set (i * 3 + 1) (.int .i64 p.num)).set (i * 3 + 2) p.data = pkCells (ps.set i p) := by
  induction ps generalizing i with
  | nil => rfl
  | cons q r ih =>
    cases i with
    | zero => rfl
    | succ i =>
      have := ih i
      simp only [Nat.add_mul, Nat.one_mul, pkCells, List.set_cons_succ, show i * 3 + 3 = i * 3 + 2 + 1 from rfl, show i * 3 + 3 + 1 = i * 3 + 1 + 2 + 1 from rfl, show i * 3 + 3 + 2 = i * 3 + 2 + 2 + 1 from rfl] at *
      rw [this]
theorem pkCells_take (ps : List Pk) (n : Nat) : (pkCells ps).take (n * 3) = pkCells (ps.take n) := by
  induction ps generalizing n with
  | nil => simp [pkCells]
  | cons q r ih =>
    cases n with
    | zero => simp [pkCells]
    | succ n =>
      simp only [Nat.add_mul, Nat.one_mul, List.take_succ_cons, pkCells, show n * 3 + 3 = n * 3 + 2 + 1 from rfl, List.take_succ_cons, ih]

/-- The slice value v is a queue of the packets ps, its row a block from B on. -/
def QRow (w : World) (B : Nat) (v : Value) (ps : List Pk) : Prop := w.ownsRow B 60 3 v ps.length (pkCells ps)

theorem addr_add (r j : Nat) : (⟨r, 0, none⟩ : Addr).add j = ⟨r, j, none⟩ := by unfold Addr.add; split <;> simp_all
theorem QRow.form {w : World} {B : Nat} {v : Value} {ps : List Pk} (h : QRow w B v ps) : ∃ A c, v = .slice A ps.length c := by
  rcases h.2 with ⟨hv, h0⟩ | ⟨g, cap, cur, hv, _⟩
  · exact ⟨none, 0, by rw [hv, h0]⟩
  · exact ⟨_, _, hv⟩
theorem QRow.place {w : World} {B : Nat} {A : Option Addr} {n c : Nat} {ps : List Pk} (h : QRow w B (.slice A n c) ps) (h0 : 0 < ps.length) : ∃ r, A = some ⟨r, 0, none⟩ ∧ n = ps.length ∧ ps.length ≤ c ∧ B ≤ r ∧ r < w.heap.size ∧ (∀ i, i < ps.length → w.cell? ⟨r, i * 3, none⟩ = some (.int .i64 (pkAt ps i).due) ∧ w.cell? ⟨r, i * 3 + 1, none⟩ = some (.int .i64 (pkAt ps i).num) ∧ w.cell? ⟨r, i * 3 + 2, none⟩ = some (pkAt ps i).data) ∧
    ∀ o, w.frozen? ⟨r, o, none⟩ = false := by
  rcases h.2 with ⟨hv, h1⟩ | ⟨g, cap, cur, hv, hB, hg, hnc, _⟩
  · omega
  · injection hv with e1 e2 e3
    subst e1; subst e2; subst e3
    refine ⟨g, rfl, rfl, hnc, hB, (Array.getElem?_eq_some_iff.1 hg).1, fun i hi => ?_, fun o => Blk.frozen (cs := cur) hg o⟩
    obtain ⟨a1, a2, a3⟩ := pkCells_at ps i hi
    have c1 := h.cells (g := g) rfl _ _ a1
    have c2 := h.cells (g := g) rfl _ _ a2
    have c3 := h.cells (g := g) rfl _ _ a3
    rw [addr_add] at c1 c2 c3
    exact ⟨c1, c2, c3⟩

/-- One packet stored. -/
theorem QRow.store {w : World} {B r n c : Nat} {ps : List Pk} (h : QRow w B (.slice (some ⟨r, 0, none⟩) n c) ps) (i : Nat) (p : Pk) :
    QRow (((w.setCell ⟨r, i * 3, none⟩ (.int .i64 p.due)).setCell ⟨r, i * 3 + 1, none⟩ (.int .i64 p.num)).setCell ⟨r, i * 3 + 2, none⟩ p.data) B (.slice (some ⟨r, 0, none⟩) n c) (ps.set i p) := by
  refine ⟨by rw [pkCells_length], ?_⟩
  rcases h.2 with ⟨hv, _⟩ | ⟨g, cap, cur, hv, hB, hg, hnc, hm, hs, ht⟩
  · cases hv
  · obtain ⟨rfl, e2, rfl⟩ : r = g ∧ n = ps.length ∧ c = cap := by injection hv with e1 e2 e3; injection e1 with e1; injection e1; exact ⟨by assumption, e2, e3⟩
    refine .inr ⟨r, c, ((cur.setIfInBounds (i * 3) (.int .i64 p.due)).setIfInBounds (i * 3 + 1) (.int .i64 p.num)).setIfInBounds (i * 3 + 2) p.data, by rw [List.length_set, e2], hB, ?_, by rw [List.length_set]; exact hnc, hm, by simp [hs], ?_⟩
    · have b : Blk w r 60 cur := hg
      exact ((b.set_ (i * 3) _).set_ (i * 3 + 1) _).set_ (i * 3 + 2) _
    · rw [← pkCells_set, ← ht]
      simp [List.take_set]

theorem qLen (w : World) (A : Option Addr) (n c : Nat) : Calls Try.prog 21 #[.slice A n c] w fun e w' => e = .returned (.int .i64 n) ∧ w = w' := by
  go_enter Try.func21, Try.ntmps21
  go_wp2
  go_ret
  exact ⟨rfl, rfl⟩

set_option maxHeartbeats 400000 in
theorem qLess (w : World) (B : Nat) (A : Option Addr) (n c : Nat) (ps : List Pk) (h : QRow w B (.slice A n c) ps) (i j : Nat) (hi : i < ps.length) (hj : j < ps.length) (hn : ps.length ≤ 1000) :
    Calls Try.prog 45 #[.slice A n c, .int .i64 i, .int .i64 j] w fun e w' => e = .returned (.bool (plt (pkAt ps i) (pkAt ps j))) ∧ ∃ m, w' = w.drewN m := by
  obtain ⟨r, rfl, rfl, hc, _, _, hcell, _⟩ := h.place (by omega)
  obtain ⟨a1, a2, _⟩ := hcell i hi
  obtain ⟨b1, b2, _⟩ := hcell j hj
  have i1 : (0 : Int) ≤ (i : Int) := by omega
  have i2 : (i : Int) < (ps.length : Int) := by omega
  have j1 : (0 : Int) ≤ (j : Int) := by omega
  have j2 : (j : Int) < (ps.length : Int) := by omega
  clear hcell h
  by_cases he : (pkAt ps i).due = (pkAt ps j).due
  · have e : plt (pkAt ps i) (pkAt ps j) = decide ((pkAt ps i).num < (pkAt ps j).num) := if_pos he
    rw [e]
    have hne : ((pkAt ps i).due != (pkAt ps j).due) = false := by simpa using he
    clear e he
    generalize pkAt ps i = p at *
    generalize pkAt ps j = q at *
    go_enter Try.func45, Try.ntmps45
    go_wp2
    go_quiet (fail)
    go_wp2
    go_quiet (fail)
    go_wp2
    go_ret
    exact ⟨rfl, _, World.drewN_drewN _ _ _⟩
  · have e : plt (pkAt ps i) (pkAt ps j) = decide ((pkAt ps i).due < (pkAt ps j).due) := if_neg he
    rw [e]
    have hne : ((pkAt ps i).due != (pkAt ps j).due) = true := by simpa using he
    clear e he
    generalize pkAt ps i = p at *
    generalize pkAt ps j = q at *
    go_enter Try.func45, Try.ntmps45
    go_wp2
    go_quiet (fail)
    go_wp2
    go_quiet (fail)
    go_wp2
    go_ret
    exact ⟨rfl, _, World.drewN_drewN _ _ _⟩
end Go.Proofs.Ytblllengohabjaa
