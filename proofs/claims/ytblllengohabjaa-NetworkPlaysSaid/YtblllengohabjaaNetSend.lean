/-
  network.Network.Send.
-/
import Derived.Test.YtblllengohabjaaNetNext
import Derived.Deep.RegionHeld3
namespace Go.Proofs.Ytblllengohabjaa
open Go.RowKit

/-- Bytes that are handed in: they lie below B, or in a block of bytes. -/
def ArgBytes (w : World) (B : Nat) (A : Option Addr) (n c : Nat) (l : List UInt8) : Prop :=
  BytesIn w A n c l ∧ (0 < n → ∀ ad, A = some ad → ad.block < B ∨ ∃ cs fz, w.heap[ad.block]? = some (.cells cs 5 fz))
theorem ArgBytes.tmod {B : Nat} {T : TypeId → Bool} {w w' : World} {A : Option Addr} {n c : Nat} {l : List UInt8} (h : ArgBytes w B A n c l) (hm : TMod B T w w') (hT : T 5 = false) : ArgBytes w' B A n c l := by
  obtain ⟨⟨h1, h2, h3, h4⟩, h5⟩ := h
  have hk : 0 < n → ∀ ad, A = some ad → w'.heap[ad.block]? = w.heap[ad.block]? := fun h0 ad e => by
    rcases h5 h0 ad e with hl | ⟨cs, fz, hb⟩
    · exact hm.low _ hl (h4 h0 ad e)
    · rw [hb]
      exact hm.same _ _ hb (fun t ht => by simp only [tyOf, Option.some.injEq] at ht; rw [← ht]; exact hT)
  refine ⟨⟨h1, h2, h3.keep' fun h0 ad e j => World.cell?_of_block (by rw [addr_block]; exact hk h0 ad e), fun h0 ad e => Nat.lt_of_lt_of_le (h4 h0 ad e) hm.size⟩, fun h0 ad e => ?_⟩
  rw [hk h0 ad e]
  exact h5 h0 ad e

/-- What is sent. -/
def sendNews (t s kind delay num : Int) (l : List UInt8) : List (Int × Int × List UInt8) :=
  if kind = 1 then [] else if kind = 2 then [(t + delay, s, bentL l kind num), (t + 2 * delay, s + 1, bentL l kind num)] else [(t + delay, s, bentL l kind num)]
def newsOf (ps : List Pk) : List (Int × Int × List UInt8) := ps.map fun p => (p.due, p.num, p.bytes)
def fateOk (side kind delay : Int) : Bool := decide (0 ≤ side ∧ side ≤ 1 ∧ 0 ≤ kind ∧ kind ≤ 4 ∧ 0 ≤ delay ∧ delay ≤ 1000)

/-- What Send leaves. -/
def SendPost (w : World) (B g sd : Nat) (t s : Int) (P0 P1 : List Pk) (nw : List (Int × Int × List UInt8)) (e : Ending) (w' : World) : Prop :=
  e = .returned (.int .i64 0) ∧ ∃ news : List Pk, newsOf news = nw ∧ NetIs w' B g t (s + (nw.length : Int)) (put0 sd P0 (sel sd P0 P1 ++ news)) (put1 sd P1 (sel sd P0 P1 ++ news)) ∧ TMod B netT w w' ∧ ∀ p ∈ news, ∀ k, p.data.ownBlock = some k → w.heap.size ≤ k

set_option maxHeartbeats 400000 in
theorem send_nil (w : World) (side kind delay num : Int) (A : Option Addr) (n c : Nat) : Calls Try.prog 9 #[.pointer none, .int .i64 side, .slice A n c, .agg #[.int .i64 kind, .int .i64 delay, .int .i64 num]] w fun e w' => e = .returned (.int .i64 1) ∧ Mod (fun _ => False) w w' := by
  go_enter Try.func9, Try.ntmps9
  go_wp2_with fail
  go_ret
  exact ⟨rfl, (Mod.refl _ _).alloc _⟩

set_option maxHeartbeats 1000000 in
theorem send_no (w : World) (a : Addr) (side kind delay num : Int) (A : Option Addr) (n c : Nat) (h : fateOk side kind delay = false) : Calls Try.prog 9 #[.pointer (some a), .int .i64 side, .slice A n c, .agg #[.int .i64 kind, .int .i64 delay, .int .i64 num]] w fun e w' => e = .returned (.int .i64 1) ∧ Mod (fun _ => False) w w' := by
  have h' : side < 0 ∨ 2 ≤ side ∨ kind < 0 ∨ 5 ≤ kind ∨ delay < 0 ∨ 1000 < delay := by
    unfold fateOk at h
    simp only [decide_eq_false_iff_not] at h
    omega
  clear h
  go_enter Try.func9, Try.ntmps9
  go_wp2_with fail
  all_goals first
    | (go_ret; exact ⟨rfl, (Mod.refl _ _).alloc _⟩)
    | (exfalso; omega)

theorem due_wrap (t d k : Int) (hk : 0 ≤ k ∧ k ≤ 2) (ht : 0 ≤ t ∧ t ≤ 1099511627776) (hd : 0 ≤ d ∧ d ≤ 1000) : IntKind.i64.wrap (t + IntKind.i64.wrap (IntKind.i64.wrap k * d)) = t + k * d := by
  have h1 : 0 ≤ k * d := Int.mul_nonneg hk.1 hd.1
  have h2 : k * d ≤ 2 * 1000 := Int.mul_le_mul hk.2 hd.2 hd.1 (by omega)
  rw [IntWalk.i64_in k ⟨by omega, by omega⟩, IntWalk.i64_in (k * d) ⟨by omega, by omega⟩, IntWalk.i64_in (t + k * d) ⟨by omega, by omega⟩]

/-- What is at hand when a network's parts are open. -/
structure Parts (w : World) (B g : Nat) (t s : Int) (v0 v1 : Value) (q0 q1 : List Pk) : Prop where
  base : B ≤ g
  blk : Blk w g 55 #[.int .i64 t, .int .i64 s, v0, v1]
  r0 : QRow w B v0 q0
  r1 : QRow w B v1 q1
  h0 : Heap q0
  h1 : Heap q1
  d0 : DataOk w B q0
  d1 : DataOk w B q1
  apart : ∀ k, v0.ownBlock = some k → v1.ownBlock ≠ some k
theorem NetIs.parts {w : World} {B g : Nat} {t s : Int} {P0 P1 : List Pk} (h : NetIs w B g t s P0 P1) : ∃ (v0 v1 : Value) (q0 q1 : List Pk), Parts w B g t s v0 v1 q0 q1 ∧ q0.Perm P0 ∧ q1.Perm P1 := by
  obtain ⟨hB, ⟨v0, v1, q0, q1, a1, a2, a3, a4, a5, a6, a7, a8, a9, a10⟩, _⟩ := h
  exact ⟨v0, v1, q0, q1, ⟨hB, a1, a2, a3, a6, a7, a8, a9, a10⟩, a4, a5⟩
theorem Parts.is {w : World} {B g : Nat} {t s : Int} {v0 v1 : Value} {q0 q1 P0 P1 : List Pk} (h : Parts w B g t s v0 v1 q0 q1) (p0 : q0.Perm P0) (p1 : q1.Perm P1) (hf : P0.length + P1.length ≤ 200) (ht : 0 ≤ t ∧ t ≤ 1099511627776) (hs : 0 ≤ s ∧ s ≤ 1099511627776) : NetIs w B g t s P0 P1 :=
  ⟨h.base, ⟨v0, v1, q0, q1, h.blk, h.r0, h.r1, p0, p1, h.h0, h.h1, h.d0, h.d1, h.apart⟩, hf, ht, hs⟩
theorem Parts.quiet {w w' : World} {B g : Nat} {t s : Int} {v0 v1 : Value} {q0 q1 : List Pk} (h : Parts w B g t s v0 v1 q0 q1) (hm : Mod (fun _ => False) w w') : Parts w' B g t s v0 v1 q0 q1 :=
  have T : TMod 0 (fun _ => false) w w' := .of_quiet hm
  ⟨h.base, h.blk.keep hm (fun h => h), own_tmod h.r0 T rfl, own_tmod h.r1 T rfl, h.h0, h.h1, h.d0.tmod T rfl, h.d1.tmod T rfl, h.apart⟩
/-- 'n.sent++'. -/
theorem Parts.count {w : World} {B g : Nat} {t s : Int} {v0 v1 : Value} {q0 q1 : List Pk} (h : Parts w B g t s v0 v1 q0 q1) (s' : Int) : Parts (w.setCell ⟨g, 1, none⟩ (.int .i64 s')) B g t s' v0 v1 q0 q1 ∧ TMod B netT w (w.setCell ⟨g, 1, none⟩ (.int .i64 s')) := by
  have M : Mod (· = g) w (w.setCell ⟨g, 1, none⟩ (.int .i64 s')) := (Mod.refl (· = g) w).setCell (by exact .inl rfl) _
  have T1 : TMod B netT w (w.setCell ⟨g, 1, none⟩ (.int .i64 s')) := (TMod.refl _ _ _).setCell h.blk h.base (by decide) _
  have n2 : ∀ (v : Value) (q : List Pk), QRow w B v q → ∀ k, v.ownBlock = some k → ¬ k = g := fun v q hq k hk e => own_ne_blk hq h.blk (by decide) (by rw [hk, e])
  exact ⟨⟨h.base, h.blk.set_ 1 _, own_mod h.r0 M (n2 _ _ h.r0), own_mod h.r1 M (n2 _ _ h.r1), h.h0, h.h1, h.d0.tmod T1 (by decide), h.d1.tmod T1 (by decide), h.apart⟩, T1⟩

theorem Parts.push0 {w w' : World} {B g : Nat} {t s : Int} {v0 v1 v' : Value} {q0 q1 qs : List Pk} {p : Pk} (h : Parts w B g t s v0 v1 q0 q1) (hp : Bytes w B p.data p.bytes) (hb : Blk w' g 55 (#[.int .i64 t, .int .i64 s, v0, v1].setIfInBounds 2 v')) (hq : QRow w' B v' qs) (hpm : qs.Perm (q0 ++ [p])) (hh : Heap qs)
    (M : Mod (fun k => k = g ∨ v0.ownBlock = some k) w w') (hat : v'.ownBlock = v0.ownBlock ∨ ∃ k, v'.ownBlock = some k ∧ w.heap.size ≤ k) : Parts w' B g t s v' v1 qs q1 ∧ TMod B netT w w' := by
  have T := pop_parts h.base h.blk h.r0 M
  refine ⟨⟨h.base, hb, hq, own_mod h.r1 M (fun k hk e => ?_), hh, h.h1, fun x hx => ?_, h.d1.tmod T (by decide), fun k hk e => ?_⟩, T⟩
  · rcases e with e | e
    · exact own_ne_blk h.r1 h.blk (by decide) (by rw [hk, e])
    · exact h.apart k e hk
  · rcases List.mem_append.1 (hpm.mem_iff.1 hx) with hx | hx
    · exact own_tmod (h.d0 x hx) T (by decide)
    · rw [List.mem_singleton.1 hx]; exact own_tmod hp T (by decide)
  · rcases hat with e1 | ⟨j, e1, hj⟩
    · exact h.apart k (e1 ▸ hk) e
    · have := (h.r1.lt k e).2
      rw [e1] at hk
      injection hk with hk
      omega
theorem Parts.push1 {w w' : World} {B g : Nat} {t s : Int} {v0 v1 v' : Value} {q0 q1 qs : List Pk} {p : Pk} (h : Parts w B g t s v0 v1 q0 q1) (hp : Bytes w B p.data p.bytes) (hb : Blk w' g 55 (#[.int .i64 t, .int .i64 s, v0, v1].setIfInBounds 3 v')) (hq : QRow w' B v' qs) (hpm : qs.Perm (q1 ++ [p])) (hh : Heap qs)
    (M : Mod (fun k => k = g ∨ v1.ownBlock = some k) w w') (hat : v'.ownBlock = v1.ownBlock ∨ ∃ k, v'.ownBlock = some k ∧ w.heap.size ≤ k) : Parts w' B g t s v0 v' q0 qs ∧ TMod B netT w w' := by
  have T := pop_parts h.base h.blk h.r1 M
  refine ⟨⟨h.base, hb, own_mod h.r0 M (fun k hk e => ?_), hq, h.h0, hh, h.d0.tmod T (by decide), fun x hx => ?_, fun k hk e => ?_⟩, T⟩
  · rcases e with e | e
    · exact own_ne_blk h.r0 h.blk (by decide) (by rw [hk, e])
    · exact h.apart k hk e
  · rcases List.mem_append.1 (hpm.mem_iff.1 hx) with hx | hx
    · exact own_tmod (h.d1 x hx) T (by decide)
    · rw [List.mem_singleton.1 hx]; exact own_tmod hp T (by decide)
  · rcases hat with e1 | ⟨j, e1, hj⟩
    · exact h.apart k hk (e1 ▸ e)
    · have := (h.r0.lt k hk).2
      rw [e1] at e
      injection e with e
      omega

set_option maxRecDepth 100000 in
set_option maxHeartbeats 1000000 in
theorem send_full (w : World) (B g sd : Nat) (t s : Int) (P0 P1 : List Pk) (h : NetIs w B g t s P0 P1) (kind delay num : Int) (A : Option Addr) (n c : Nat) (hsd : sd = 0 ∨ sd = 1) (hf : fateOk sd kind delay = true) (hfull : 200 < P0.length + P1.length + (if kind = 1 then 0 else if kind = 2 then 2 else 1)) :
    Calls Try.prog 9 #[.pointer (some ⟨g, 0, none⟩), .int .i64 sd, .slice A n c, .agg #[.int .i64 kind, .int .i64 delay, .int .i64 num]] w fun e w' => e = .returned (.int .i64 211) ∧ Mod (fun _ => False) w w' := by
  have hfew := h.few
  unfold fateOk at hf
  simp only [decide_eq_true_eq] at hf
  obtain ⟨_, _, k1, k2, d1, d2⟩ := hf
  have hn1 : NetIs (w.alloc (.cells #[.int .i64 kind, .int .i64 delay, .int .i64 num] 31)) B g t s P0 P1 := h.quiet ((Mod.refl _ _).alloc _)
  clear h
  by_cases hk1 : kind = 1
  · rw [if_pos hk1] at hfull; omega
  · rw [if_neg hk1] at hfull
    have e1 : (kind == 1) = false := beq_eq_false_iff_ne.2 hk1
    by_cases hk2 : kind = 2
    · rw [if_pos hk2] at hfull
      have e2 : (kind == 2) = true := beq_iff_eq.2 hk2
      clear hk1 hk2
      rcases hsd with rfl | rfl
      all_goals
        go_enter Try.func9, Try.ntmps9
        go_wp2_with fail
        refine (netLen _ B g t s P0 P1 hn1).mono ?_
        rintro e w2 ⟨rfl, rfl⟩
        go_wp2_with fail
        go_ret
        exact ⟨rfl, (Mod.refl _ _).alloc _⟩
    · rw [if_neg hk2] at hfull
      have e2 : (kind == 2) = false := beq_eq_false_iff_ne.2 hk2
      clear hk1 hk2
      rcases hsd with rfl | rfl
      all_goals
        go_enter Try.func9, Try.ntmps9
        go_wp2_with fail
        refine (netLen _ B g t s P0 P1 hn1).mono ?_
        rintro e w2 ⟨rfl, rfl⟩
        go_wp2_with fail
        go_ret
        exact ⟨rfl, (Mod.refl _ _).alloc _⟩

set_option maxRecDepth 100000 in
set_option maxHeartbeats 1000000 in
theorem send_lost (w : World) (B g sd : Nat) (t s : Int) (P0 P1 : List Pk) (h : NetIs w B g t s P0 P1) (delay num : Int) (A : Option Addr) (n c : Nat) (hsd : sd = 0 ∨ sd = 1) (hf : fateOk sd 1 delay = true) :
    Calls Try.prog 9 #[.pointer (some ⟨g, 0, none⟩), .int .i64 sd, .slice A n c, .agg #[.int .i64 1, .int .i64 delay, .int .i64 num]] w fun e w' => e = .returned (.int .i64 0) ∧ Mod (fun _ => False) w w' := by
  have hfew := h.few
  unfold fateOk at hf
  simp only [decide_eq_true_eq] at hf
  obtain ⟨_, _, k1, k2, d1, d2⟩ := hf
  have hn1 : NetIs (w.alloc (.cells #[.int .i64 1, .int .i64 delay, .int .i64 num] 31)) B g t s P0 P1 := h.quiet ((Mod.refl _ _).alloc _)
  clear h
  rcases hsd with rfl | rfl
  all_goals
    go_enter Try.func9, Try.ntmps9
    go_wp2_with fail
    refine (netLen _ B g t s P0 P1 hn1).mono ?_
    rintro e w2 ⟨rfl, rfl⟩
    go_wp2_with fail
    refine wp_loop_rounds 1 ?_; rw [rounds_succ]
    go_wp2_with fail
    go_ret
    exact ⟨rfl, (Mod.refl _ _).alloc _⟩
end Go.Proofs.Ytblllengohabjaa
