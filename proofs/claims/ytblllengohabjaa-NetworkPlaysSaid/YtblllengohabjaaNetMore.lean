/-
  Small lemmas on networks and bytes, for the laws' walks.
-/
import Derived.Test.YtblllengohabjaaNetNil
namespace Go.Proofs.Ytblllengohabjaa
open Go.RowKit

theorem bentL_whole (l : List UInt8) (kind num : Int) (h3 : kind ≠ 3) (h4 : kind ≠ 4) : bentL l kind num = l := by
  simp [bentL, h3, h4]

theorem Bytes.arg {w : World} {B : Nat} {A : Option Addr} {m c : Nat} {l : List UInt8} (h : Bytes w B (.slice A m c) l) : ArgBytes w B A m c l := by
  have hs := Src.of_own h
  obtain ⟨rfl, hs⟩ := hs
  refine ⟨⟨rfl, fun e => ?_, hs, fun _ ad e => ?_⟩, fun _ ad e => .inr ?_⟩
  · rcases h.2 with ⟨hv, _⟩ | ⟨g, cap, cur, hv, _⟩
    · injection hv
    · subst e; injection hv with e1; cases e1
  · rcases h.2 with ⟨hv, _⟩ | ⟨g, cap, cur, hv, hB, hg, _⟩
    · subst e; injection hv with e1; cases e1
    · subst e; injection hv with e1; injection e1 with e1; subst e1
      exact (Array.getElem?_eq_some_iff.1 hg).1
  · rcases h.2 with ⟨hv, _⟩ | ⟨g, cap, cur, hv, hB, hg, _⟩
    · subst e; injection hv with e1; cases e1
    · subst e; injection hv with e1; injection e1 with e1; subst e1
      exact ⟨_, _, hg⟩

/-- Bytes that came in, at a later world. -/
theorem BytesIn.arg {w w' : World} {T : TypeId → Bool} {A : Option Addr} {n c : Nat} {l : List UInt8} (h : BytesIn w A n c l) (hm : TMod w.heap.size T w w') : ArgBytes w' w.heap.size A n c l := by
  obtain ⟨h1, h2, h3, h4⟩ := h
  refine ⟨⟨h1, h2, h3.keep' fun h0 ad e j => World.cell?_of_block (by rw [addr_block]; exact hm.low _ (h4 h0 ad e) (h4 h0 ad e)), fun h0 ad e => Nat.lt_of_lt_of_le (h4 h0 ad e) hm.size⟩, fun h0 ad e => .inl (h4 h0 ad e)⟩

/-- A block of bytes that no packet has may turn. -/
theorem NetIs.off {w w' : World} {B g ob : Nat} {t s : Int} {P0 P1 : List Pk} {cs : Array Value} (h : NetIs w B g t s P0 P1) (hm : Mod (· = ob) w w') (hob : Blk w ob 5 cs) (h0 : ∀ p ∈ P0, p.data.ownBlock ≠ some ob) (h1 : ∀ p ∈ P1, p.data.ownBlock ≠ some ob) : NetIs w' B g t s P0 P1 := by
  obtain ⟨hb, ⟨v0, v1, q0, q1, a1, a2, a3, a4, a5, a6, a7, a8, a9, a10⟩, hf, ht, hs⟩ := h
  have n2 : ∀ (v : Value) (q : List Pk), QRow w B v q → ∀ k, v.ownBlock = some k → ¬ k = ob := fun v q hq k hk e => own_ne_blk hq hob (by decide) (by rw [hk, e])
  exact ⟨hb, ⟨v0, v1, q0, q1, a1.keep hm (Blk.ne_ a1 hob (by decide)), own_mod a2 hm (n2 _ _ a2), own_mod a3 hm (n2 _ _ a3), a4, a5, a6, a7,
    fun p hp => own_mod (a8 p hp) hm (fun k hk e => h0 p (a4.mem_iff.1 hp) (by rw [hk, e])), fun p hp => own_mod (a9 p hp) hm (fun k hk e => h1 p (a5.mem_iff.1 hp) (by rw [hk, e])), a10⟩, hf, ht, hs⟩

theorem send_full' (w : World) (B g sd : Nat) (side t s : Int) (P0 P1 : List Pk) (h : NetIs w B g t s P0 P1) (kind delay num : Int) (A : Option Addr) (n c : Nat) (hside : side = sd) (hsd : sd = 0 ∨ sd = 1) (hf : fateOk sd kind delay = true) (hfull : 200 < P0.length + P1.length + (if kind = 1 then 0 else if kind = 2 then 2 else 1)) :
    Calls Try.prog 9 #[.pointer (some ⟨g, 0, none⟩), .int .i64 side, .slice A n c, .agg #[.int .i64 kind, .int .i64 delay, .int .i64 num]] w fun e w' => e = .returned (.int .i64 211) ∧ Mod (fun _ => False) w w' := by
  subst hside
  exact send_full w B g sd t s P0 P1 h kind delay num A n c hsd hf hfull

theorem fate_side (sd : Nat) (h : sd = 0 ∨ sd = 1) (kind delay : Int) (hk : 0 ≤ kind ∧ kind ≤ 4) (hd : 0 ≤ delay ∧ delay ≤ 1000) : fateOk sd kind delay = true := by
  unfold fateOk
  rw [decide_eq_true_eq]
  omega
/-- The types of the blocks that turn where bytes turn too. -/
def netU (t : TypeId) : Bool := netT t || t == 5
theorem netT_U (t : TypeId) (h : netT t = true) : netU t = true := by unfold netU; rw [h]; rfl
end Go.Proofs.Ytblllengohabjaa
