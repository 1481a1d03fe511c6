/-
  golomb.Get.
-/
import Derived.Test.YteppnjgfebcmjaaGreatBitsGet
namespace Go.Proofs.YteppnjgfebcmjaaGreat
open Go.RowKit

def GolPost (w : World) (B g a : Nat) (l : List UInt8) (e : Ending) (w' : World) : Prop :=
  (∃ code : Int, code ≠ 0 ∧ e = .returned (.tuple #[.int .u64 0, .int .i64 code]) ∧ gget l a 0 32 = none ∧ Mod (fun _ => False) w w') ∨
  ∃ v a' : Nat, gget l a 0 32 = some (v, a') ∧ e = .returned (.tuple #[.int .u64 (v : Int), .int .i64 0]) ∧ ReadIs w' B g l a' ∧ Mod (· = g) w w'

def GolRel (w : World) (B ab a : Nat) (l : List UInt8) (i : Value) (wr : World) : Prop :=
  ∃ k : Nat, k ≤ 32 ∧ i = .int .i64 k ∧ gget l a 0 32 = gget l a k (32 - k) ∧ a + k ≤ 8 * l.length ∧ ReadIs wr B ab l (a + k) ∧ Mod (· = ab) w wr

theorem gget_end (l : List UInt8) (a k : Nat) (hk : k < 32) (h : 8 * l.length < a + k + 1) : gget l a k (32 - k) = none := by
  rw [show 32 - k = (31 - k) + 1 by omega, gget, if_neg (by omega)]
theorem gget_zero (l : List UInt8) (a k : Nat) (hk : k < 32) (h : a + k + 1 ≤ 8 * l.length) (hb : bitAt l (a + k) = 0) : gget l a k (32 - k) = gget l a (k + 1) (32 - (k + 1)) := by
  rw [show 32 - k = (31 - k) + 1 by omega, gget, if_pos (by omega), if_pos hb, show 32 - (k + 1) = 31 - k by omega]
theorem gget_short (l : List UInt8) (a k : Nat) (hk : k < 32) (h : a + k + 1 ≤ 8 * l.length) (hb : bitAt l (a + k) ≠ 0) (hs : 8 * l.length < a + k + 1 + k) : gget l a k (32 - k) = none := by
  rw [show 32 - k = (31 - k) + 1 by omega, gget, if_pos (by omega), if_neg hb, if_neg (by omega)]
theorem gget_some (l : List UInt8) (a k : Nat) (hk : k < 32) (h : a + k + 1 ≤ 8 * l.length) (hb : bitAt l (a + k) ≠ 0) (hs : a + k + 1 + k ≤ 8 * l.length) : gget l a k (32 - k) = some (2 ^ k + numAt l (a + k + 1) k - 1, a + k + 1 + k) := by
  rw [show 32 - k = (31 - k) + 1 by omega, gget, if_pos (by omega), if_neg hb, if_pos (by omega)]

theorem gol_val (k V : Nat) (hk : k < 32) (hV : V < 2 ^ k) : IntKind.u64.wrap (bits BinOp.or IntKind.u64 (IntKind.u64.wrap (2 ^ k)) (V : Int) - 1) = ((2 ^ k + V - 1 : Nat) : Int) := by
  have h2 : 2 ^ k ≤ 2 ^ 31 := Nat.pow_le_pow_right (by omega) (by omega)
  have h1 : 1 ≤ 2 ^ k := Nat.pow_pos (by omega)
  have e0 : (2 : Int) ^ k = ((2 ^ k : Nat) : Int) := by rw [Int.natCast_pow]; rfl
  have e3 : IntKind.u64.wrap ((2 ^ k : Nat) : Int) = ((2 ^ k : Nat) : Int) := by rw [IntKind.wrap_u64]; omega
  rw [e0, e3, u64_or_nat _ _ (by omega) (by omega)]
  have := Nat.two_pow_add_eq_or_of_lt (i := k) hV 1
  rw [Nat.mul_one] at this
  rw [← this, IntKind.wrap_u64]
  omega

set_option maxRecDepth 100000 in
set_option maxHeartbeats 2000000 in
theorem golGet (w : World) (B g a : Nat) (l : List UInt8) (h : ReadIs w B g l a) :
    Calls Tryz.prog 56 #[.pointer (some ⟨g, 0, none⟩)] w (GolPost w B g a l) := by
  obtain ⟨hB, ⟨A, c, hb, hby, hsm⟩, hat, hfew⟩ := h
  have hgl := hb.lt
  obtain ⟨hc, hf⟩ := hb.both
  have hb1 : Blk (w.alloc (.cells #[.slice A l.length c, .int .i64 (a : Int)] 156)) w.heap.size 156 #[.slice A l.length c, .int .i64 (a : Int)] := Blk.new _ _ _
  have M1 : Mod (fun _ => False) w (w.alloc (.cells #[.slice A l.length c, .int .i64 (a : Int)] 156)) := (Mod.refl _ _).alloc _
  have h1 : ReadIs (w.alloc (.cells #[.slice A l.length c, .int .i64 (a : Int)] 156)) B w.heap.size l a := ⟨by omega, ⟨A, c, hb1, own_mod hby M1 (fun _ _ h => h), hsm⟩, hat, hfew⟩
  have HB := Lib.hid (And.intro hb (And.intro hby M1))
  clear hb hby hb1 M1 hsm
  go_enter Tryz.func56, Tryz.ntmps56
  go_wp2_with fail
  obtain ⟨ab, hab⟩ : ∃ ab, ab = w.heap.size := ⟨_, rfl⟩
  rw [← hab] at h1 ⊢
  have hgab : g < ab := by omega
  have habw : w.heap.size ≤ ab := by omega
  have M1 := HB.out.2.2
  generalize w.alloc (.cells #[.slice A l.length c, .int .i64 (a : Int)] 156) = w1 at *
  clear hab hc hf
  go_loopw [14] (GolRel w1 B ab a l) (fun i _ => 32 - (intOf i).toNat)
  case atStart => exact ⟨0, by omega, rfl, rfl, by omega, h1, Mod.refl _ _⟩
  case round =>
    clear h1
    obtain ⟨k, hk, rfl, hg, hak, hR, hM⟩ := hrel
    have HG := Lib.hid hg
    clear hg
    by_cases hlt : k < 32
    · by_cases hshort : 8 * l.length < a + k + 1
      · go_wp2_with fail
        refine (bitsGet_short _ B ab (a + k) 1 l hR (by omega) hshort).mono ?_
        rintro e w2 ⟨rfl, m, rfl⟩
        have HF : Hid (Mod (fun _ => False) w (wr.drewN m)) := (M1.into hM (fun i e => .inr (by omega))).drewN _
        clear hM hR
        go_wp2_with fail
        go_ret2
        exact .inl ⟨11, by decide, rfl, HG.out.trans (gget_end l a k hlt hshort), HF.out⟩
      · have hok : a + k + 1 ≤ 8 * l.length := by omega
        clear hshort
        go_wp2_with fail
        refine (bitsGet _ B ab (a + k) 1 l hR (by omega) hok).mono ?_
        rintro e w2 ⟨rfl, hR2, hM2⟩
        rw [numAt_one]
        have hM2' := hM.trans hM2
        clear hM hM2 hR
        by_cases hbit : bitAt l (a + k) = 0
        · have HZ := Lib.hid hbit
          rw [hbit]
          clear hbit
          go_wp2_with fail
          go_roundw
          case rel => exact ⟨k + 1, by omega, by go_num, HG.out.trans (gget_zero l a k hlt hok HZ.out), by omega, hR2, hM2'⟩
          case measure => simp [intOf]; omega
        · have hbn : (((bitAt l (a + k) : Nat) : Int) == 0) = false := beq_eq_false_iff_ne.2 (by omega)
          have hbn2 : (bitAt l (a + k) == 0) = false := beq_eq_false_iff_ne.2 hbit
          have HZ := Lib.hid hbit
          clear hbit
          by_cases hs2 : 8 * l.length < a + k + 1 + k
          · go_wp2_with fail
            refine (bitsGet_short _ B ab (a + k + 1) k l hR2 (by omega) hs2).mono ?_
            rintro e w3 ⟨rfl, m, rfl⟩
            have HF : Hid (Mod (fun _ => False) w (w2.drewN m)) := (M1.into hM2' (fun i e => .inr (by omega))).drewN _
            clear hM2' hR2
            go_wp2_with fail
            go_ret2
            exact .inl ⟨11, by decide, rfl, HG.out.trans (gget_short l a k hlt hok HZ.out hs2), HF.out⟩
          · have hok2 : a + k + 1 + k ≤ 8 * l.length := by omega
            clear hs2
            go_wp2_with fail
            refine (bitsGet _ B ab (a + k + 1) k l hR2 (by omega) hok2).mono ?_
            rintro e w3 ⟨rfl, hR3, hM3⟩
            have hM3' := hM2'.trans hM3
            obtain ⟨_, ⟨A3, c3, hb3, hby3, hsm3⟩, hat3, _⟩ := hR3
            have HSM := Lib.hid hsm3
            clear hsm3
            obtain ⟨hc3, hf3⟩ := hb3.both
            have hbg := (HB.out.1.keep M1 (fun h => h)).keep hM3' (by omega)
            obtain ⟨hcg, hfg⟩ := hbg.both
            have hgl3 := hbg.lt
            have HH := Lib.hid (And.intro hM3' (And.intro hb3 (And.intro hby3 hbg)))
            clear hM3' hb3 hby3 hbg hM2' hM3 hR2
            go_wp2_with fail
            go_ret2
            obtain ⟨z1, z2, z3, z4⟩ := HH.out
            refine .inr ⟨_, _, HG.out.trans (gget_some l a k hlt hok HZ.out hok2), ?_, ⟨hB, ⟨A3, c3, ?_, ?_, HSM.out⟩, hat3, hfew⟩, ?_⟩
            · rw [← gol_val k _ hlt (numAt_lt l (a + k + 1) k)]
              rfl
            · exact (z4.put rfl).put (by simp)
            · refine own_mod z3 (((Mod.refl (· = g) w3).setCell (p := ⟨g, 0, none⟩) (.inl rfl) (Value.slice A3 l.length c3)).setCell (p := ⟨g, 1, none⟩) (.inl rfl) _) (fun j hj e => ?_)
              exact own_ne_blk z3 z4 (by decide) (by rw [hj, e])
            · have hz : Mod (· = g) w w3 := (M1.mono (fun _ h => h.elim)).into z1 (fun i e => .inr (by omega))
              exact (hz.setCell (p := ⟨g, 0, none⟩) (.inl rfl) _).setCell (p := ⟨g, 1, none⟩) (.inl rfl) _
    · obtain rfl : k = 32 := by omega
      have HF : Hid (Mod (fun _ => False) w wr) := M1.into hM (fun i e => .inr (by omega))
      clear hM hR
      go_wp2_with fail
      go_ret2
      exact .inl ⟨21, by decide, rfl, HG.out, HF.out⟩
end Go.Proofs.YteppnjgfebcmjaaGreat
