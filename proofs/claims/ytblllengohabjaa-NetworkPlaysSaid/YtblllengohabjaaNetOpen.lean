/-
  Arguments opened: bytes; an Act.
-/
import Derived.Test.YtblllengohabjaaNetNil
import Derived.ProofKit
import Derived.OpenShut
import Derived.Lib.SmallJoins
namespace Go.Proofs.Ytblllengohabjaa
open Go.RowKit Go.ChangeShapes Go.WideShapes Go.ChangeAt Go.Joins

section
variable {H : Type} {enc : TypeId × Value → H} {w : World} {base : Nat} {held : Bool}

theorem u8_back (zs : List Int) (h : ∀ n ∈ zs, (Lit.int .u8 n).wf = true) : u8s (zs.map fun n => UInt8.ofNat n.toNat) = zs.map (Value.int .u8) := by
  unfold u8s
  rw [List.map_map]
  refine List.map_congr_left fun n hn => ?_
  have hb := bounds_u8 (h n hn)
  have e : ((UInt8.ofNat n.toNat).toNat : Int) = n := by
    rw [UInt8.toNat_ofNat', Nat.mod_eq_of_lt (by omega)]
    omega
  simp only [Function.comp, e]

/-- A []byte cell that came in. -/
theorem bytes_form {fuel : Nat} {v : Value} {x : DataW H × List MemPlace} (h : DataW.trod enc Try.prog w base (fun _ => true) held fuel 29 [v] = some x) :
    ∃ (A : Option Addr) (n c : Nat) (l : List UInt8), v = .slice A n c ∧ n ≤ maxLen ∧ BytesIn w A n c l := by
  rcases open_ints Try.underlying29 Try.underlying5 (by kernel_rfl) h with ⟨hcs, _⟩ | ⟨a, n, c, zs, hcs, _, hl, hm, hz, _, hcell, hwz⟩
  · injection hcs with hcs
    exact ⟨none, 0, 0, [], hcs, by decide, rfl, fun _ => rfl, Src.nil, fun h0 => absurd h0 (by omega)⟩
  · injection hcs with hcs
    have hz' : zs.length = c := by simpa using hz
    have hb := u8_back (zs.take n) (fun m hm => hwz m (List.mem_of_mem_take hm))
    refine ⟨some a, n, c, (zs.take n).map fun m => UInt8.ofNat m.toNat, hcs, by omega, ?_, (fun h => by cases h), ?_, fun h0 ad e => ?_⟩
    · simp; omega
    · rw [hb]
      refine ⟨by simp; omega, (fun h => by cases h), fun ad e j u hu => ?_⟩
      injection e with e
      subst e
      have hj : j < n := by
        have := (List.getElem?_eq_some_iff.1 hu).1
        simp at this
        omega
      have := hcell j (by omega)
      rw [this, ← hu]
      simp [List.getD_eq_getElem?_getD, hj, show j < zs.length by omega]
    · injection e with e
      subst e
      have := World.block_lt_of_cell? w _ (hcell 0 (by omega))
      rwa [addr_block] at this

/-- The cells of an Act that came in. -/
theorem act_form {fuel : Nat} {c0 c1 c2 c3 c4 c5 : Value} {x : DataW H × List MemPlace} (h : DataW.trod enc Try.prog w base (fun _ => true) held fuel 33 [c0, c1, c2, c3, c4, c5] = some x) :
    ∃ (kind side fk fd fn : Int) (A : Option Addr) (n c : Nat) (l : List UInt8), c0 = .int .i64 kind ∧ c1 = .int .i64 side ∧ c2 = .slice A n c ∧ c3 = .int .i64 fk ∧ c4 = .int .i64 fd ∧ c5 = .int .i64 fn ∧ n ≤ maxLen ∧ BytesIn w A n c l ∧
      (-9223372036854775808 ≤ fn ∧ fn ≤ 9223372036854775807) ∧ (-9223372036854775808 ≤ side ∧ side ≤ 9223372036854775807) := by
  obtain ⟨xs, m, _, _, _, hlen, hf⟩ := DataW.trod_struct Try.underlying33 h
  match xs, hlen with
  | [y0, y1, y2, y3], _ =>
    have h0 := hf 0 _ rfl
    have h1 := hf 1 _ rfl
    have h2 := hf 2 _ rfl
    have h3 := hf 3 _ rfl
    have e0 : DataW.trod enc Try.prog w base (fun _ => true) held m 3 [c0] = some y0 := h0
    have e1 : DataW.trod enc Try.prog w base (fun _ => true) held m 3 [c1] = some y1 := h1
    have e2 : DataW.trod enc Try.prog w base (fun _ => true) held m 29 [c2] = some y2 := h2
    have e3 : DataW.trod enc Try.prog w base (fun _ => true) held m 31 [c3, c4, c5] = some y3 := h3
    obtain ⟨kind, a0, _, _⟩ := DataW.trod_int Try.underlying3 e0
    obtain ⟨side, a1, _, ws⟩ := DataW.trod_int Try.underlying3 e1
    obtain ⟨A, n, c, l, a2, hn, hb⟩ := bytes_form e2
    obtain ⟨ys, m', _, _, _, hlen', hg⟩ := DataW.trod_struct Try.underlying31 e3
    match ys, hlen' with
    | [z0, z1, z2], _ =>
      have g0 : DataW.trod enc Try.prog w base (fun _ => true) held m' 3 [c3] = some z0 := hg 0 _ rfl
      have g1 : DataW.trod enc Try.prog w base (fun _ => true) held m' 3 [c4] = some z1 := hg 1 _ rfl
      have g2 : DataW.trod enc Try.prog w base (fun _ => true) held m' 3 [c5] = some z2 := hg 2 _ rfl
      obtain ⟨fk, a3, _, _⟩ := DataW.trod_int Try.underlying3 g0
      obtain ⟨fd, a4, _, _⟩ := DataW.trod_int Try.underlying3 g1
      obtain ⟨fn, a5, _, wn⟩ := DataW.trod_int Try.underlying3 g2
      simp only [List.cons.injEq, and_true] at a0 a1 a3 a4 a5
      exact ⟨kind, side, fk, fd, fn, A, n, c, l, a0, a1, a2, a3, a4, a5, hn, hb, bounds_i64 wn, bounds_i64 ws⟩
end
end Go.Proofs.Ytblllengohabjaa
