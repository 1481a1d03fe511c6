/-
  kinoralaw21.NetworkBends: the walk.
-/
import Derived.Test.YtblllengohabjaaNetMore
namespace Go.Proofs.Ytblllengohabjaa
open Go.RowKit

set_option maxRecDepth 100000 in
set_option maxHeartbeats 1000000 in
theorem networkBends_no (A : Option Addr) (n c : Nat) (kind delay num : Int) (w : World) (h : 300 < n ∨ n = 0 ∨ kind < 0 ∨ 4 < kind) (hn : n ≤ 9223372036854775807) :
    Calls Try.prog 5 #[.slice A n c, .agg #[.int .i64 kind, .int .i64 delay, .int .i64 num]] w fun e w' => e = .returned (.bool true) ∧ Below w.heap.size w w' := by
  have hbx : Blk (w.alloc (.cells #[.int .i64 kind, .int .i64 delay, .int .i64 num] 31)) w.heap.size 31 #[.int .i64 kind, .int .i64 delay, .int .i64 num] := Blk.new _ _ _
  have M0 : Mod (fun _ => False) w (w.alloc (.cells #[.int .i64 kind, .int .i64 delay, .int .i64 num] 31)) := (Mod.refl _ _).alloc _
  go_enter Try.func5, Try.ntmps5
  go_wp2_with fail
  generalize w.alloc (.cells #[.int .i64 kind, .int .i64 delay, .int .i64 num] 31) = w0 at *
  refine (netNew w0 w0.heap.size (Nat.le_refl _)).mono ?_
  rintro e w1 ⟨rfl, hn1, hm1, hsz⟩
  have hbx1 := hbx.keep hm1 (fun h => h)
  obtain ⟨hc, hf⟩ := hbx1.both
  have M1 := M0.trans hm1
  clear hsz hn1 hm1 M0 hbx hbx1
  go_wp2_with fail
  all_goals first
    | (exfalso; omega)
    | (refine (alive21 _).mono ?_; rintro e w2 ⟨rfl, hb⟩; have M : Hid (Mod (fun _ => False) w w2) := M1.trans (Mod.of_low hb); clear hb; go_wp2_with fail; go_ret; exact ⟨rfl, M.out.below (fun _ h => h.elim)⟩)

def netA (_ : TypeId) : Bool := true
theorem i64_and15 (n : Int) : bits .and .i64 n 15 = n % 16 := by
  have h15 : (BitVec.ofInt 64 15).toNat = 2 ^ 4 - 1 := by decide
  have key : (BitVec.ofInt 64 n &&& BitVec.ofInt 64 15).toNat = (n % ((2 ^ 64 : Nat) : Int)).toNat % 2 ^ 4 := by
    rw [BitVec.toNat_and, BitVec.toNat_ofInt, h15, Nat.and_two_pow_sub_one_eq_mod]
  show IntKind.i64.wrap ((BitVec.ofInt 64 n &&& BitVec.ofInt 64 15).toNat : Nat) = n % 16
  rw [key, IntKind.wrap_i64]
  omega

theorem newsOf_nil {ns : List Pk} (h : newsOf ns = []) : ns = [] := by
  unfold newsOf at h
  exact List.map_eq_nil_iff.1 h
theorem news_all1 (kind dl num : Int) (l : List UInt8) (P : List Pk) (h : newsOf P = sendNews 0 0 kind dl num l) (hd : dl ≤ 15) (h1 : kind ≠ 1) (h2 : kind ≠ 2) : (∀ p ∈ P, p.bytes = bentL l kind num ∧ p.due ≤ 31) ∧ P.length = 1 := by
  unfold sendNews at h
  rw [if_neg h1, if_neg h2] at h
  obtain ⟨p, rfl, a, b, c⟩ := newsOf_one h
  refine ⟨fun q hq => ?_, rfl⟩
  rw [List.mem_singleton.1 hq]
  exact ⟨c, by omega⟩
theorem news_all2 (kind dl num : Int) (l : List UInt8) (P : List Pk) (h : newsOf P = sendNews 0 0 kind dl num l) (hd : dl ≤ 15) (h2 : kind = 2) : (∀ p ∈ P, p.bytes = bentL l kind num ∧ p.due ≤ 31) ∧ P.length = 2 := by
  unfold sendNews at h
  rw [if_neg (by omega), if_pos h2] at h
  unfold newsOf at h
  obtain ⟨p, q, rfl⟩ : ∃ p q, P = [p, q] := by
    have := congrArg List.length h
    rw [List.length_map] at this
    match P, this with
    | [p, q], _ => exact ⟨p, q, rfl⟩
  simp only [List.map_cons, List.map_nil, List.cons.injEq, Prod.mk.injEq, and_true] at h
  obtain ⟨⟨a1, _, a3⟩, b1, _, b3⟩ := h
  refine ⟨fun r hr => ?_, rfl⟩
  simp only [List.mem_cons, List.not_mem_nil, or_false] at hr
  rcases hr with rfl | rfl
  · exact ⟨a3, by omega⟩
  · exact ⟨b3, by omega⟩

theorem next_none1 (w : World) (B g : Nat) (t s : Int) (h : NetIs w B g t s [] []) : Calls Try.prog 13 #[.pointer (some ⟨g, 0, none⟩), .int .i64 1] w fun e w' => e = .returned (.tuple #[.slice none 0 0, .bool false]) ∧ Mod (fun _ => False) w w' := by
  refine (netNext1 w B g t s [] [] h).mono ?_
  rintro e w6 (⟨rfl, ⟨n6, rfl⟩, _⟩ | ⟨p, P, _, hpm, _⟩)
  · exact ⟨rfl, (Mod.refl _ _).drewN _⟩
  · have := hpm.length_eq
    simp [sel] at this
theorem next_none0 (w : World) (B g : Nat) (t s : Int) (P : List Pk) (h : NetIs w B g t s [] P) : Calls Try.prog 13 #[.pointer (some ⟨g, 0, none⟩), .int .i64 0] w fun e w' => e = .returned (.tuple #[.slice none 0 0, .bool false]) ∧ Mod (fun _ => False) w w' := by
  refine (netNext0 w B g t s [] P h).mono ?_
  rintro e w6 (⟨rfl, ⟨n6, rfl⟩, _⟩ | ⟨p, P, _, hpm, _⟩)
  · exact ⟨rfl, (Mod.refl _ _).drewN _⟩
  · have := hpm.length_eq
    simp [sel] at this
/-- Next, where all packets that there are have the bytes lb and are due. -/
def NextAll (w : World) (B g : Nat) (t s : Int) (P : List Pk) (lb : List UInt8) (e : Ending) (w' : World) : Prop :=
  ∃ (d : Value) (P' : List Pk), e = .returned (.tuple #[d, .bool true]) ∧ Bytes w' B d lb ∧ NetIs w' B g t s [] P' ∧ P'.length + 1 = P.length ∧ (∀ p ∈ P', p.bytes = lb ∧ p.due ≤ t) ∧ TMod B netT w w'
theorem next_all1 (w : World) (B g : Nat) (t s : Int) (P : List Pk) (lb : List UInt8) (h : NetIs w B g t s [] P) (hP : ∀ p ∈ P, p.bytes = lb ∧ p.due ≤ t) {m : Nat} (h0 : P.length = m + 1) :
    Calls Try.prog 13 #[.pointer (some ⟨g, 0, none⟩), .int .i64 1] w (NextAll w B g t s P lb) := by
  refine (netNext1 w B g t s [] P h).mono ?_
  rintro e w6 (⟨_, _, hall⟩ | ⟨p, P', rfl, hpm, hmin, hdue, hn, hby, hT⟩)
  · exfalso
    match P, h0 with
    | p :: P', _ =>
      have a := hall p List.mem_cons_self
      have b := (hP p List.mem_cons_self).2
      omega
  · have hpm' : P.Perm (p :: P') := hpm
    refine ⟨_, P', rfl, ?_, hn, by have := hpm'.length_eq; rw [List.length_cons] at this; omega, fun q hq => hP q (hpm'.mem_iff.2 (List.mem_cons_of_mem _ hq)), hT⟩
    have := (hP p (hpm'.mem_iff.2 List.mem_cons_self)).1
    rwa [this] at hby

theorem take_bent (l : List UInt8) (num : Int) (h : 0 < l.length) : ∃ q, q < l.length ∧ bentL l 3 num = l.take q := by
  have := remN_bd num l.length (by omega)
  refine ⟨(remN num l.length).toNat, by omega, ?_⟩
  unfold bentL
  rw [if_neg (by omega), if_pos rfl]
theorem str_take (w : World) (A : Option Addr) (n c : Nat) (l : List UInt8) (hl : l.length = n) (h : Src w 1 A n (u8s l)) (m : Nat) (hm : m ≤ n) : (convert 29 9 (.slice A m c)).run Try.prog w = .ok (.string (strOf (l.take m))) w := by
  refine str_src w A m c (l.take m) (by rw [List.length_take]; omega) ⟨by rw [u8s_length, List.length_take]; omega, fun e => by have := h.2.1 e; omega, fun ad e j u hu => h.2.2 ad e j u ?_⟩
  have e2 : u8s (l.take m) = (u8s l).take m := by simp [u8s, List.map_take]
  rw [e2, List.getElem?_take] at hu
  split at hu
  · exact hu
  · cases hu

theorem flip_bent (l : List UInt8) (num : Int) (h : 0 < l.length) : ∃ q m, q < l.length ∧ m < 8 ∧ bentL l 4 num = l.set q (flip8 (l.getD q 0) m) := by
  have := remN_bd num (8 * (l.length : Int)) (by omega)
  refine ⟨(remN num (8 * (l.length : Int)) / 8).toNat, (remN num (8 * (l.length : Int)) % 8).toNat, by omega, by omega, ?_⟩
  unfold bentL
  rw [if_neg (by omega), if_neg (by omega), if_pos rfl]
theorem in_place {w : World} {A : Option Addr} {n c : Nat} {l : List UInt8} (h : BytesIn w A n c l) (h0 : 0 < n) : ∃ b off, A = some ⟨b, off, none⟩ := by
  obtain ⟨h1, h2, h3, h4⟩ := h
  cases A with
  | none => have := h3.2.1 rfl; omega
  | some ad =>
    obtain ⟨b, off, spot⟩ := ad
    have hl : 0 < (u8s l).length := by rw [u8s_length]; omega
    have hc := h3.2.2 _ rfl 0 _ (List.getElem?_eq_getElem hl)
    have hspot : spot = none := by simpa [Addr.add] using World.cell?_spot hc
    subst hspot
    exact ⟨b, off, rfl⟩
/-- How many bits a number has. -/
def pop (d : Nat) : Nat := if d = 0 then 0 else d % 2 + pop (d / 2)
theorem pop_zero : pop 0 = 0 := by rw [pop, if_pos rfl]
theorem pop_pos (d : Nat) (h : 0 < d) : pop d = d % 2 + pop (d / 2) := by rw [pop, if_neg (by omega)]
theorem pop_pow (m : Nat) : pop (2 ^ m) = 1 := by
  induction m with
  | zero => rw [Nat.pow_zero, pop_pos 1 (by omega)]; show 1 + pop 0 = 1; rw [pop_zero]
  | succ m ih =>
    have hp : 0 < 2 ^ m := Nat.pow_pos (by omega)
    rw [Nat.pow_succ, pop_pos _ (by omega), Nat.mul_mod_left, Nat.mul_div_cancel _ (by omega), ih]
def upTo (q k : Nat) : Nat := if q < k then 1 else 0
theorem upTo_step (q k m : Nat) : upTo q k + pop (if k = q then 2 ^ m else 0) = upTo q (k + 1) := by
  unfold upTo
  by_cases h : k = q
  · rw [if_pos h, pop_pow, if_neg (by omega), if_pos (by omega)]
  · rw [if_neg h, pop_zero]
    by_cases h2 : q < k
    · rw [if_pos h2, if_pos (by omega)]
    · rw [if_neg h2, if_neg (by omega)]
theorem xor_set (l : List UInt8) (q k m : Nat) (hk : k < l.length) (hm : m < 8) : ((l.set q (flip8 (l.getD q 0) m)).getD k 0).toNat ^^^ (l.getD k 0).toNat = if k = q then 2 ^ m else 0 := by
  by_cases h : k = q
  · subst h
    rw [if_pos rfl]
    simp only [List.getD_eq_getElem?_getD, List.getElem?_set_self hk, Option.getD_some]
    rw [flip8_nat _ _ hm, Nat.xor_comm, ← Nat.xor_assoc, Nat.xor_self, Nat.zero_xor]
  · rw [if_neg h]
    simp only [List.getD_eq_getElem?_getD, List.getElem?_set_ne (Ne.symm h)]
    exact Nat.xor_self _
theorem flip_cells {w w6 wr : World} {b off r4 c c4 q m k : Nat} {l lb : List UInt8} {T : TypeId → Bool} (hin : BytesIn w (some ⟨b, off, none⟩) l.length c l) (hby : Bytes w6 w.heap.size (.slice (some ⟨r4, 0, none⟩) l.length c4) lb) (hT : TMod w.heap.size T w w6) (hM : Mod (fun _ => False) w6 wr)
    (hk : k < l.length) (hll : lb.length = l.length) (hlb : lb = l.set q (flip8 (l.getD q 0) m)) (hm : m < 8) :
    ∃ x y : Nat, x < 256 ∧ y < 256 ∧ wr.cell? ⟨r4, k, none⟩ = some (.int .u8 x) ∧ wr.cell? ⟨b, off + k, none⟩ = some (.int .u8 y) ∧ x ^^^ y = if k = q then 2 ^ m else 0 := by
  refine ⟨(lb.getD k 0).toNat, (l.getD k 0).toNat, UInt8.toNat_lt _, UInt8.toNat_lt _, ?_, ?_, by rw [hlb]; exact xor_set l q k m hk hm⟩
  · have h1 : wr.ownsRow w.heap.size 5 1 (.slice (some ⟨r4, 0, none⟩) l.length c4) l.length (u8s lb) := by
      have := own_mod hby hM (fun _ _ h => h)
      rwa [hll] at this
    rw [h1.cellAt k (by omega)]
    simp [u8s, show k < lb.length by omega]
  · have h1 := (hin.arg (hT.trans (.of_quiet hM))).1.2.2.1
    have h2 := h1.2.2 _ rfl k (.int .u8 ((l.getD k 0).toNat : Int)) (by simp [u8s, hk])
    have hadd : (⟨b, off, none⟩ : Addr).add k = ⟨b, off + k, none⟩ := by unfold Addr.add; split <;> simp_all
    rwa [hadd] at h2

def BendsRel (w : World) (g : Nat) (s kind dl num : Int) (P : List Pk) (i : Value) (wr : World) : Prop :=
  ∃ k : Nat, k ≤ 31 ∧ i = .int .i64 k ∧ NetIs wr w.heap.size g k s [] P ∧ Blk wr w.heap.size 31 #[.int .i64 kind, .int .i64 dl, .int .i64 num] ∧ TMod w.heap.size netA w wr

end Go.Proofs.Ytblllengohabjaa
