/-
  The reference's network: what it is in memory.
-/
import Derived.Test.YtblllengohabjaaNetRefB
import Derived.Deep.RegionHeld3
import Derived.Deep.RegionLaw
import Derived.Deep.Cut
namespace Go.Proofs.Ytblllengohabjaa
open Go.RowKit

/-- A packet of the reference: its bytes lie at 'dat'. -/
structure RP where
  side : Int
  due : Int
  dat : Value
  bytes : List UInt8
def rpc : List RP → List Value
  | [] => []
  | r :: l => .int .i64 r.side :: .int .i64 r.due :: r.dat :: rpc l
theorem rpc_append (l r : List RP) : rpc (l ++ r) = rpc l ++ rpc r := by
  induction l with
  | nil => rfl
  | cons d l ih => simp only [List.cons_append, rpc, ih]
theorem rpc_length (l : List RP) : (rpc l).length = l.length * 3 := by
  induction l with
  | nil => rfl
  | cons d l ih => simp only [rpc, List.length_cons, ih]; omega
theorem rpc_at (l : List RP) (i : Nat) (r : RP) (h : l[i]? = some r) : (rpc l)[3 * i]? = some (.int .i64 r.side) ∧ (rpc l)[3 * i + 1]? = some (.int .i64 r.due) ∧ (rpc l)[3 * i + 2]? = some r.dat := by
  induction l generalizing i with
  | nil => simp at h
  | cons d l ih =>
    cases i with
    | zero => simp only [List.getElem?_cons_zero, Option.some.injEq] at h; subst h; exact ⟨rfl, rfl, rfl⟩
    | succ i =>
      have := ih i (by simpa using h)
      simpa [rpc, Nat.mul_add] using this
theorem rpc_take (l : List RP) (n : Nat) : rpc (l.take n) = (rpc l).take (n * 3) := by
  induction l generalizing n with
  | nil => simp [rpc]
  | cons d l ih =>
    cases n with
    | zero => simp [rpc]
    | succ n => simp only [List.take_succ_cons, rpc, ih, Nat.succ_mul]
theorem rpc_drop (l : List RP) (n : Nat) : rpc (l.drop n) = (rpc l).drop (n * 3) := by
  induction l generalizing n with
  | nil => simp [rpc]
  | cons d l ih =>
    cases n with
    | zero => simp
    | succ n => simp only [List.drop_succ_cons, rpc, ih, Nat.succ_mul]

/-- All packets' bytes lie as they are said to. -/
def RData (w : World) (B : Nat) (l : List RP) : Prop := ∀ r ∈ l, Bytes w B r.dat r.bytes
theorem RData.tmod {B B' : Nat} {T : TypeId → Bool} {w w' : World} {l : List RP} (h : RData w B l) (hm : TMod B' T w w') (hT : T 5 = false) : RData w' B l := fun p hp => own_tmod (h p hp) hm hT
theorem RData.one {B : Nat} {w : World} {l : List RP} (h : RData w B l) : ∀ u ∈ rpc l, u.oneCell' = true := by
  induction l with
  | nil => intro u hu; cases hu
  | cons d l ih =>
    intro u hu
    simp only [rpc, List.mem_cons] at hu
    rcases hu with rfl | rfl | rfl | hu
    · rfl
    · rfl
    · obtain ⟨A, c, e⟩ := own_shape (h d List.mem_cons_self)
      rw [e]; rfl
    · exact ih (fun r hr => h r (List.mem_cons_of_mem _ hr)) u hu
theorem RData.app {B : Nat} {w : World} {l r : List RP} (h : RData w B l) (k : RData w B r) : RData w B (l ++ r) := fun p hp => (List.mem_append.1 hp).elim (h p) (k p)

theorem own_none {B : Nat} {w : World} {e : TypeId} {size n c : Nat} {A : Option Addr} {xs : List Value} (h : w.ownsRow B e size (.slice A n c) n xs) : A = none → c = 0 := by
  rintro rfl
  rcases h.2 with ⟨hv, _⟩ | ⟨g, cap, cur, hv, _⟩
  · injection hv
  · injection hv with e1; cases e1
/-- The types of the blocks that the reference's network turns. -/
def refT (t : TypeId) : Bool := t == 28 || t == 63

/-- Block g is the reference's network: its time; its packets. -/
structure RNet (w : World) (B g : Nat) (t : Int) (L : List RP) : Prop where
  base : B ≤ g
  ex : ∃ v, Blk w g 28 #[.int .i64 t, v] ∧ w.ownsRow B 63 3 v L.length (rpc L)
  data : RData w B L
  few : L.length ≤ 200
  time : 0 ≤ t ∧ t ≤ 1099511627776
theorem RNet.tmod {B B' g : Nat} {T : TypeId → Bool} {w w' : World} {t : Int} {L : List RP} (h : RNet w B g t L) (hm : TMod B' T w w') (h1 : T 28 = false) (h2 : T 63 = false) (h3 : T 5 = false) : RNet w' B g t L := by
  obtain ⟨hb, ⟨v, a1, a2⟩, hd, hf, ht⟩ := h
  exact ⟨hb, ⟨v, a1.tmod hm h1, own_tmod a2 hm h2⟩, hd.tmod hm h3, hf, ht⟩
theorem RNet.quiet {B g : Nat} {w w' : World} {t : Int} {L : List RP} (h : RNet w B g t L) (hm : Mod (fun _ => False) w w') : RNet w' B g t L := h.tmod (B' := 0) (T := fun _ => false) (.of_quiet hm) rfl rfl rfl

theorem rp_info : (Try.prog.info? 63).map (fun i => (i.zero, i.size, i.bytes)) = some (some (.agg #[.int .i64 0, .int .i64 0, .slice none 0 0]), 3, 40) := by kernel_rfl

set_option maxHeartbeats 1000000 in
theorem rsend_no (w : World) (p : Value) (side kind delay num : Int) (A : Option Addr) (n c : Nat) (h : fateOk side kind delay = false) : Calls Try.prog 10 #[p, .int .i64 side, .slice A n c, .agg #[.int .i64 kind, .int .i64 delay, .int .i64 num]] w fun e w' => e = .returned (.int .i64 1) ∧ Mod (fun _ => False) w w' := by
  have h' : side < 0 ∨ 1 < side ∨ kind < 0 ∨ 4 < kind ∨ delay < 0 ∨ 1000 < delay := by
    unfold fateOk at h
    simp only [decide_eq_false_iff_not] at h
    omega
  clear h
  go_enter Try.func10, Try.ntmps10
  go_wp2_with fail
  all_goals first
    | (go_ret; exact ⟨rfl, (Mod.refl _ _).alloc _⟩)
    | (exfalso; omega)

/-- The first append onto nil, as the walk leaves it. -/
theorem nil_grown (wb : World) (B : Nat) (hB : B ≤ wb.heap.size) (x y z : Value) :
    (((wb.alloc (.cells #[x, y, z] 63)).alloc (.cells (#[x, y, z] ++ Builtin.zeroCells #[.int .i64 0, .int .i64 0, .slice none 0 0] ((Question.appendCap 1 0 63).cut (wb.tape wb.drawn (Question.appendCap 1 0 63)) - 1)) 63)).drew).ownsRow B 63 3 (.slice (some ⟨wb.heap.size + 1, 0, none⟩) 1 ((Question.appendCap 1 0 63).cut (wb.tape wb.drawn (Question.appendCap 1 0 63)))) 1 [x, y, z] := by
  have h1 := grownCap_ge wb 1 0 63
  have h2 := grownCap_le_maxLen wb 1 0 63 (by decide)
  unfold grownCap at h1 h2
  generalize (Question.appendCap 1 0 63).cut (wb.tape wb.drawn (Question.appendCap 1 0 63)) = cap at *
  refine ⟨rfl, .inr ⟨wb.heap.size + 1, cap, #[x, y, z] ++ Builtin.zeroCells #[.int .i64 0, .int .i64 0, .slice none 0 0] (cap - 1), rfl, by omega, ?_, h1, h2, ?_, ?_⟩⟩
  · have := heap_alloc_new (wb.alloc (.cells #[x, y, z] 63)) (.cells (#[x, y, z] ++ Builtin.zeroCells #[.int .i64 0, .int .i64 0, .slice none 0 0] (cap - 1)) 63)
    rwa [show (wb.alloc (.cells #[x, y, z] 63)).heap.size = wb.heap.size + 1 by simp] at this
  · rw [Array.size_append, size_zeroCells]
    show 3 + (cap - 1) * 3 = cap * 3
    omega
  · simp
theorem nil_grown_mod (wb : World) (a b : Obj) : Mod (fun _ => False) wb ((wb.alloc a).alloc b).drew := (((Mod.refl _ _).alloc _).alloc _).drew

/-- What is added to the list. -/
def rnews (t side kind delay num : Int) (l : List UInt8) : List (Int × Int × List UInt8) :=
  if kind = 1 then [] else if kind = 2 then [(side, t + delay, bentL l kind num), (side, t + 2 * delay, bentL l kind num)] else [(side, t + delay, bentL l kind num)]
def rnewsOf (ps : List RP) : List (Int × Int × List UInt8) := ps.map fun p => (p.side, p.due, p.bytes)
def RSendPost (w : World) (B g : Nat) (t : Int) (L : List RP) (nw : List (Int × Int × List UInt8)) (e : Ending) (w' : World) : Prop :=
  TMod B refT w w' ∧ ((200 < L.length + nw.length ∧ e = .returned (.int .i64 211) ∧ RNet w' B g t L) ∨ (L.length + nw.length ≤ 200 ∧ e = .returned (.int .i64 0) ∧ ∃ ls, rnewsOf ls = nw ∧ RNet w' B g t (L ++ ls)))
end Go.Proofs.Ytblllengohabjaa
