/-
  golomb.Get.
-/
import Derived.Test.YteppnjgfebcmjaaGreatM5
namespace Go.Proofs.YteppnjgfebcmjaaGreat
open Go.RowKit

def GolPost (w : World) (B g a : Nat) (l : List UInt8) (e : Ending) (w' : World) : Prop :=
  (∃ code : Int, code ≠ 0 ∧ e = .returned (.tuple #[.int .u64 0, .int .i64 code]) ∧ gget l a 0 32 = none ∧ Mod (fun _ => False) w w') ∨
  ∃ v a' : Nat, gget l a 0 32 = some (v, a') ∧ e = .returned (.tuple #[.int .u64 (v : Int), .int .i64 0]) ∧ ReadIs w' B g l a' ∧ Mod (· = g) w w'

def GolRel (w : World) (B ab a : Nat) (l : List UInt8) (i : Value) (wr : World) : Prop :=
  ∃ k : Nat, k ≤ 32 ∧ i = .int .i64 k ∧ gget l a 0 32 = gget l a k (32 - k) ∧ a + k ≤ 8 * l.length ∧ ReadIs wr B ab l (a + k) ∧ Mod (· = ab) w wr

theorem gget_end (l : List UInt8) (a k : Nat) (hk : k < 32) (h : 8 * l.length < a + k + 1) : gget l a k (32 - k) = none := by
  rw [show 32 - k = (31 - k) + 1 by omega, gget, if_neg (by omega)]
theorem gget_zero (l : List UInt8) (a k : Nat) (hk : k < 32) (h : a + k + 1 ≤ 8 * l.length) (hb : bitAt l (a + k) = 0) : gget l a k (32 - k) = gget l a (k + 1) (32 - (k + 1)) := by
  rw [show 32 - k = (31 - k) + 1 by omega, gget, if_pos (by omega), if_pos hb, show 32 - (k + 1) = 31 - k by omega]
theorem gget_short (l : List UInt8) (a k : Nat) (hk : k < 32) (h : a + k + 1 ≤ 8 * l.length) (hb : bitAt l (a + k) ≠ 0) (hs : 8 * l.length < a + k + 1 + k) : gget l a k (32 - k) = none := by
  rw [show 32 - k = (31 - k) + 1 by omega, gget, if_pos (by omega), if_neg hb, if_neg (by omega)]
theorem gget_some (l : List UInt8) (a k : Nat) (hk : k < 32) (h : a + k + 1 ≤ 8 * l.length) (hb : bitAt l (a + k) ≠ 0) (hs : a + k + 1 + k ≤ 8 * l.length) : gget l a k (32 - k) = some (2 ^ k + numAt l (a + k + 1) k - 1, a + k + 1 + k) := by
  rw [show 32 - k = (31 - k) + 1 by omega, gget, if_pos (by omega), if_neg hb, if_pos (by omega)]

theorem gol_val (k V : Nat) (hk : k < 32) (hV : V < 2 ^ k) : IntKind.u64.wrap (bits BinOp.or IntKind.u64 (IntKind.u64.wrap (2 ^ k)) (V : Int) - 1) = ((2 ^ k + V - 1 : Nat) : Int) := by
  have h2 : 2 ^ k ≤ 2 ^ 31 := Nat.pow_le_pow_right (by omega) (by omega)
  have h1 : 1 ≤ 2 ^ k := Nat.pow_pos (by omega)
  have e0 : (2 : Int) ^ k = ((2 ^ k : Nat) : Int) := by rw [Int.natCast_pow]; rfl
  have e3 : IntKind.u64.wrap ((2 ^ k : Nat) : Int) = ((2 ^ k : Nat) : Int) := by rw [IntKind.wrap_u64]; omega
  rw [e0, e3, u64_or_nat _ _ (by omega) (by omega)]
  have := Nat.two_pow_add_eq_or_of_lt (i := k) hV 1
  rw [Nat.mul_one] at this
  rw [← this, IntKind.wrap_u64]
  omega

set_option maxRecDepth 100000 in
set_option maxHeartbeats 2000000 in
theorem golGet (w : World) (B g a : Nat) (l : List UInt8) (h : ReadIs w B g l a) :
    Calls Tryz.prog 56 #[.pointer (some ⟨g, 0, none⟩)] w (GolPost w B g a l) := by
  obtain ⟨hB, ⟨A, c, hb, hby, hsm⟩, hat, hfew⟩ := h
  have hgl := hb.lt
  obtain ⟨hc, hf⟩ := hb.both
  have hb1 : Blk (w.alloc (.cells #[.slice A l.length c, .int .i64 (a : Int)] 156)) w.heap.size 156 #[.slice A l.length c, .int .i64 (a : Int)] := Blk.new _ _ _
  have M1 : Mod (fun _ => False) w (w.alloc (.cells #[.slice A l.length c, .int .i64 (a : Int)] 156)) := (Mod.refl _ _).alloc _
  have h1 : ReadIs (w.alloc (.cells #[.slice A l.length c, .int .i64 (a : Int)] 156)) B w.heap.size l a := ⟨by omega, ⟨A, c, hb1, own_mod hby M1 (fun _ _ h => h), hsm⟩, hat, hfew⟩
  have HB := Lib.hid (And.intro hb (And.intro hby M1))
  clear hb hby hb1 M1 hsm
  go_enter Tryz.func56, Tryz.ntmps56
  go_wp2_with fail
  obtain ⟨ab, hab⟩ : ∃ ab, ab = w.heap.size := ⟨_, rfl⟩
  rw [← hab] at h1 ⊢
  have hgab : g < ab := by omega
  have habw : w.heap.size ≤ ab := by omega
  have M1 := HB.out.2.2
  generalize w.alloc (.cells #[.slice A l.length c, .int .i64 (a : Int)] 156) = w1 at *
  clear hab hc hf
  go_loopw [14] (GolRel w1 B ab a l) (fun i _ => 32 - (intOf i).toNat)
  case atStart => exact ⟨0, by omega, rfl, rfl, by omega, h1, Mod.refl _ _⟩
  case round =>
    clear h1
    obtain ⟨k, hk, rfl, hg, hak, hR, hM⟩ := hrel
    have HG := Lib.hid hg
    clear hg
    by_cases hlt : k < 32
    · by_cases hshort : 8 * l.length < a + k + 1
      · go_wp2_with fail
        refine (bitsGet_short _ B ab (a + k) 1 l hR (by omega) hshort).mono ?_
        rintro e w2 ⟨rfl, m, rfl⟩
        have HF : Hid (Mod (fun _ => False) w (wr.drewN m)) := (M1.into hM (fun i e => .inr (by omega))).drewN _
        clear hM hR
        go_wp2_with fail
        go_ret2
        exact .inl ⟨11, by decide, rfl, HG.out.trans (gget_end l a k hlt hshort), HF.out⟩
      · have hok : a + k + 1 ≤ 8 * l.length := by omega
        clear hshort
        go_wp2_with fail
        refine (bitsGet _ B ab (a + k) 1 l hR (by omega) hok).mono ?_
        rintro e w2 ⟨rfl, hR2, hM2⟩
        rw [numAt_one]
        have hM2' := hM.trans hM2
        clear hM hM2 hR
        by_cases hbit : bitAt l (a + k) = 0
        · have HZ := Lib.hid hbit
          rw [hbit]
          clear hbit
          go_wp2_with fail
          go_roundw
          case rel => exact ⟨k + 1, by omega, by go_num, HG.out.trans (gget_zero l a k hlt hok HZ.out), by omega, hR2, hM2'⟩
          case measure => simp [intOf]; omega
        · have hbn : (((bitAt l (a + k) : Nat) : Int) == 0) = false := beq_eq_false_iff_ne.2 (by omega)
          have hbn2 : (bitAt l (a + k) == 0) = false := beq_eq_false_iff_ne.2 hbit
          have HZ := Lib.hid hbit
          clear hbit
          by_cases hs2 : 8 * l.length < a + k + 1 + k
          · go_wp2_with fail
            refine (bitsGet_short _ B ab (a + k + 1) k l hR2 (by omega) hs2).mono ?_
            rintro e w3 ⟨rfl, m, rfl⟩
            have HF : Hid (Mod (fun _ => False) w (w2.drewN m)) := (M1.into hM2' (fun i e => .inr (by omega))).drewN _
            clear hM2' hR2
            go_wp2_with fail
            go_ret2
            exact .inl ⟨11, by decide, rfl, HG.out.trans (gget_short l a k hlt hok HZ.out hs2), HF.out⟩
          · have hok2 : a + k + 1 + k ≤ 8 * l.length := by omega
            clear hs2
            go_wp2_with fail
            refine (bitsGet _ B ab (a + k + 1) k l hR2 (by omega) hok2).mono ?_
            rintro e w3 ⟨rfl, hR3, hM3⟩
            have hM3' := hM2'.trans hM3
            obtain ⟨_, ⟨A3, c3, hb3, hby3, hsm3⟩, hat3, _⟩ := hR3
            have HSM := Lib.hid hsm3
            clear hsm3
            obtain ⟨hc3, hf3⟩ := hb3.both
            have hbg := (HB.out.1.keep M1 (fun h => h)).keep hM3' (by omega)
            obtain ⟨hcg, hfg⟩ := hbg.both
            have hgl3 := hbg.lt
            have HH := Lib.hid (And.intro hM3' (And.intro hb3 (And.intro hby3 hbg)))
            clear hM3' hb3 hby3 hbg hM2' hM3 hR2
            go_wp2_with fail
            go_ret2
            obtain ⟨z1, z2, z3, z4⟩ := HH.out
            refine .inr ⟨_, _, HG.out.trans (gget_some l a k hlt hok HZ.out hok2), ?_, ⟨hB, ⟨A3, c3, ?_, ?_, HSM.out⟩, hat3, hfew⟩, ?_⟩
            · rw [← gol_val k _ hlt (numAt_lt l (a + k + 1) k)]
              rfl
            · exact (z4.put rfl).put (by simp)
            · refine own_mod z3 (((Mod.refl (· = g) w3).setCell (p := ⟨g, 0, none⟩) (.inl rfl) (Value.slice A3 l.length c3)).setCell (p := ⟨g, 1, none⟩) (.inl rfl) _) (fun j hj e => ?_)
              exact own_ne_blk z3 z4 (by decide) (by rw [hj, e])
            · have hz : Mod (· = g) w w3 := (M1.mono (fun _ h => h.elim)).into z1 (fun i e => .inr (by omega))
              exact (hz.setCell (p := ⟨g, 0, none⟩) (.inl rfl) _).setCell (p := ⟨g, 1, none⟩) (.inl rfl) _
    · obtain rfl : k = 32 := by omega
      have HF : Hid (Mod (fun _ => False) w wr) := M1.into hM (fun i e => .inr (by omega))
      clear hM hR
      go_wp2_with fail
      go_ret2
      exact .inl ⟨21, by decide, rfl, HG.out, HF.out⟩
end Go.Proofs.YteppnjgfebcmjaaGreat

/-
  bits.Reader: Align, Rest.
-/
namespace Go.Proofs.YteppnjgfebcmjaaGreat
open Go.RowKit

/-- The end of the byte that bit a is in, if what is left of it is nought. -/
def alignAt (l : List UInt8) (a : Nat) : Option Nat :=
  if a % 8 = 0 then some a else if (l.getD (a / 8) 0).toNat * 2 ^ (a % 8) % 256 = 0 then some (a + (8 - a % 8)) else none

def AlignPost (w : World) (B g a : Nat) (l : List UInt8) (e : Ending) (w' : World) : Prop :=
  (e = .returned (.int .i64 11) ∧ alignAt l a = none ∧ ReadIs w' B g l a ∧ Mod (· = g) w w') ∨ ∃ a', alignAt l a = some a' ∧ e = .returned (.int .i64 0) ∧ ReadIs w' B g l a' ∧ Mod (· = g) w w'

set_option maxRecDepth 100000 in
set_option maxHeartbeats 1000000 in
theorem bitsAlign (w : World) (B g a : Nat) (l : List UInt8) (h : ReadIs w B g l a) : Calls Tryz.prog 58 #[.pointer (some ⟨g, 0, none⟩)] w (AlignPost w B g a l) := by
  have HR := Lib.hid h
  obtain ⟨hB, ⟨A, c, hb, hby, _⟩, hat, hfew⟩ := h
  obtain ⟨hc, hf⟩ := hb.both
  by_cases h8 : a % 8 = 0
  · have h8' : ((a : Int) % 8 == 0) = true := beq_iff_eq.2 (by omega)
    have h8n : (a % 8 == 0) = true := beq_iff_eq.2 h8
    have HA : Hid (alignAt l a = some a) := if_pos h8
    clear h8 hb hby
    go_enter Tryz.func58, Tryz.ntmps58
    go_wp2_with fail
    go_ret
    exact .inr ⟨a, HA.out, rfl, HR.out, Mod.refl _ _⟩
  · have h8' : ((a : Int) % 8 == 0) = false := beq_eq_false_iff_ne.2 (by omega)
    have h8n : (a % 8 == 0) = false := beq_eq_false_iff_ne.2 h8
    have hq : a / 8 < l.length := by omega
    obtain ⟨r, hr, _⟩ := hby.some_ (by omega)
    subst hr
    have hcl := hby.cell (a / 8) hq
    have hx : (l.getD (a / 8) 0).toNat < 256 := UInt8.toNat_lt _
    have i1 : (0 : Int) ≤ (a : Int) / 8 := by omega
    have i2 : (a : Int) / 8 < (l.length : Int) := by omega
    have HB := Lib.hid (And.intro hb hby)
    obtain ⟨x, hxe⟩ : ∃ x, x = (l.getD (a / 8) 0).toNat := ⟨_, rfl⟩
    rw [← hxe] at hcl hx
    have HE := Lib.hid hxe
    have e0 : ((x : Int) * 2 ^ (a % 8) % 256) = ((x * 2 ^ (a % 8) % 256 : Nat) : Int) := by rw [Int.natCast_emod, Int.natCast_mul, Int.natCast_pow]; rfl
    clear hb hby hxe
    by_cases hz : x * 2 ^ (a % 8) % 256 = 0
    · have HA : Hid (alignAt l a = some (a + (8 - a % 8))) := by show _ = _; unfold alignAt; rw [if_neg h8, ← HE.out, if_pos hz]
      have hzb : ((x : Int) * 2 ^ (a % 8) % 256 != 0) = false := by rw [e0, hz]; rfl
      have HAA : Hid (a + (8 - a % 8) ≤ 8 * l.length ∧ (a : Int) + (8 - (a : Int) % 8) = ((a + (8 - a % 8) : Nat) : Int)) := ⟨by omega, by omega⟩
      clear hz e0 h8
      go_enter Tryz.func58, Tryz.ntmps58
      go_wp2_with fail
      go_quiet (fail)
      go_wp2_with fail
      go_region
      go_wp2_with fail
      go_ret
      refine .inr ⟨_, HA.out, rfl, ⟨hB, ⟨some ⟨r, 0, none⟩, c, ?_, ?_, r, rfl⟩, HAA.out.1, hfew⟩, ?_⟩
      rotate_left
      · refine own_mod HB.out.2 ?_ (S := (· = g)) (fun j hj e => own_ne_blk HB.out.2 HB.out.1 (by decide) (by rw [hj, e]))
        exact (by repeat' (first | with_reducible exact Mod.refl _ _ | with_reducible refine Mod.drewN ?_ _ | with_reducible refine Mod.drew ?_ | with_reducible refine Mod.setCell ?_ ?_ _ | exact Or.inl rfl))
      · exact (by repeat' (first | with_reducible exact Mod.refl _ _ | with_reducible refine Mod.drewN ?_ _ | with_reducible refine Mod.drew ?_ | with_reducible refine Mod.setCell ?_ ?_ _ | exact Or.inl rfl))
      · rw [← HAA.out.2]
        exact (by repeat' (first | with_reducible exact HB.out.1 | with_reducible apply Blk.put | with_reducible apply Blk.drewN | with_reducible apply Blk.drew | rfl))
    · have HA : Hid (alignAt l a = none) := by show _ = _; unfold alignAt; rw [if_neg h8, ← HE.out, if_neg hz]
      have hzb : ((x : Int) * 2 ^ (a % 8) % 256 != 0) = true := by rw [e0]; simp; omega
      clear hz e0 h8
      go_enter Tryz.func58, Tryz.ntmps58
      go_wp2_with fail
      go_quiet (fail)
      go_wp2_with fail
      go_ret
      exact .inl ⟨rfl, HA.out, HR.out.quiet ((Mod.refl _ _).drewN _), (Mod.refl _ _).drewN _⟩

/-- A window of a row of bytes, as a slice expression leaves it. -/
theorem src_from {w : World} {r n : Nat} {l : List UInt8} (h : Src w 1 (some ⟨r, 0, none⟩) n (u8s l)) (hn : l.length = n) (b c : Nat) (hb : b ≤ n) (hc : n ≤ c) : Src w 1 (if c = b then some ⟨r, 0, none⟩ else some ⟨r, b, none⟩) (n - b) (u8s (l.drop b)) := by
  have hl : (u8s (l.drop b)).length = (n - b) * 1 := by rw [u8s_length, List.length_drop]; omega
  by_cases e : c = b
  · rw [if_pos e]
    have e2 : l.drop b = [] := List.drop_eq_nil_of_le (by omega)
    exact ⟨hl, fun e => (by cases e), fun ad e j u hu => by rw [e2] at hu; simp [u8s] at hu⟩
  · rw [if_neg e]
    refine ⟨hl, fun e => (by cases e), fun ad e j u hu => ?_⟩
    injection e with e
    subst e
    have e3 : u8s (l.drop b) = (u8s l).drop b := by simp [u8s, List.map_drop]
    rw [e3, List.getElem?_drop] at hu
    have := h.2.2 _ rfl _ _ hu
    rw [addr_add'] at this ⊢
    rwa [Nat.zero_add] at this

set_option maxRecDepth 100000 in
set_option maxHeartbeats 1000000 in
theorem bitsRest (w : World) (B g a : Nat) (l : List UInt8) (h : ReadIs w B g l a) : Calls Tryz.prog 59 #[.pointer (some ⟨g, 0, none⟩)] w fun e w' => ∃ v, e = .returned v ∧ Bytes w' w.heap.size v (l.drop ((a + 7) / 8)) ∧ Mod (fun _ => False) w w' := by
  obtain ⟨i0, hi0, hz0, hz1, hz2⟩ := info_parts u8_info
  obtain ⟨hB, ⟨A, c, hb, hby, r, hsm⟩, hat, hfew⟩ := h
  subst hsm
  obtain ⟨b, hbb⟩ : ∃ b, b = (a + 7) / 8 := ⟨_, rfl⟩
  have hble : b ≤ l.length := by omega
  have e1 : ((a : Int) + 7) / 8 = (b : Int) := by omega
  have e2 : (l.length : Int) - (b : Int) = ((l.length - b : Nat) : Int) := by omega
  rw [← hbb]
  obtain ⟨hc, hf⟩ := hb.both
  have x1 : i0.bytes * (l.length - b) ≤ 281474976710656 := by rw [hz2]; omega
  have x2 : l.length - b ≤ maxLen := by unfold maxLen; omega
  have HX := Lib.hid (And.intro x1 x2)
  have HB := Lib.hid (And.intro hb hby)
  have hgl := hb.lt
  clear hb hby hbb x1 x2
  go_enter Tryz.func59, Tryz.ntmps59
  go_upto_region 5 with (with_reducible refine wpList_make_full _ rfl (.tmp 19) (.tmp 19) _ rfl w.heap.size 5 i0 (.int .u8 0) 1 Tryz.underlying22 hi0 hz0 hz1 _ _ _ _ (l.length - b) rfl rfl rfl rfl HX.out.1 HX.out.2 (Nat.le_refl _) ?_; intro w1 hown1 hg1; have HO := Lib.hid (And.intro hown1 hg1); clear hown1 hg1)
  have hM : Mod (fun _ => False) w w1 := (Mod.refl _ _).grown HO.out.2 (fun k hk => by cases hk)
  have hbk := HB.out.1.keep hM (fun h => h)
  have hsrc := (Src.of_own (own_mod HB.out.2 hM (fun _ _ h => h))).2
  have hcap : l.length ≤ c := by
    rcases HB.out.2.2 with ⟨hv, _⟩ | ⟨_, _, _, hv, _, _, h, _⟩
    · cases hv
    · injection hv with _ _ h3; omega
  obtain ⟨hc1, hf1⟩ := hbk.both
  have i1 : (0 : Int) ≤ (b : Int) := by omega
  have i2 : (b : Int) ≤ (l.length : Int) := by omega
  have HR := Lib.hid (And.intro (src_from hsrc rfl b c hble hcap) (And.intro HO.out.1 hM))
  have HF : Hid (0 + (l.length - b) ≤ (madeCells (Value.cells (.int .u8 0)) ((l.length - b) * 1)).toList.length) := by show _ ≤ _; simp [size_madeCells]
  clear hM hbk hsrc HO hc hf e1 e2
  go_wp2_with (with_reducible refine wpList_copy_blk rfl (.tmp 21) (.tmp 27) _ _ rfl 5 Tryz.underlying22 (by kernel_rfl) (some ⟨w.heap.size, 0, none⟩) (l.length - b) (l.length - b) (if c = b then some ⟨r, 0, none⟩ else some ⟨r, b, none⟩) (l.length - b) (c - b) (u8s (l.drop b)) rfl rfl HR.out.1 w.heap.size 0 _ 5 (own_whole HR.out.2.1).1 (l.length - b) (Nat.min_self _).symm (fun _ => rfl) HF.out (u8s_one _) ?_; intro w3 hb3 hm3; have HB3 := Lib.hid (And.intro hb3 hm3); clear hb3 hm3)
  all_goals
    go_ret
    have hl : splice (madeCells (Value.cells (.int .u8 0)) ((l.length - b) * 1)).toList 0 ((u8s (l.drop b)).take (l.length - b)) = u8s (l.drop b) := by
      rw [List.take_of_length_le (by simp [u8s])]
      simp [splice, u8s, size_madeCells]
    obtain ⟨hb3, hm3⟩ := HB3.out
    rw [hl] at hb3
    have hld : (l.drop b).length = l.length - b := List.length_drop
    have hfin := Bytes.of_blk (B := w.heap.size) (Nat.le_refl _) hb3 (by rw [hld]; exact HX.out.2)
    rw [hld] at hfin
    exact ⟨_, rfl, hfin, HR.out.2.2.into hm3 (fun i e => .inr (by omega))⟩
end Go.Proofs.YteppnjgfebcmjaaGreat

/-
  syntax.Right, and the closure of syntax.ParseSequence.
-/
namespace Go.Proofs.YteppnjgfebcmjaaGreat
open Go.RowKit

def seqRight (W H G : Int) : Bool := decide ((16 ≤ W ∧ W ≤ 4096 ∧ W % 16 = 0) ∧ (16 ≤ H ∧ H ≤ 4096 ∧ H % 16 = 0) ∧ 1 ≤ G ∧ G ≤ 64)

set_option maxRecDepth 100000 in
set_option maxHeartbeats 1000000 in
theorem synRight_yes (w : World) (W H G : Int) (h : seqRight W H G = true) : Calls Tryz.prog 98 #[.agg #[.int .i64 W, .int .i64 H, .int .i64 G]] w fun e w' => e = .returned (.bool true) ∧ Mod (fun _ => False) w w' := by
  unfold seqRight at h
  simp only [decide_eq_true_eq] at h
  obtain ⟨⟨a1, a2, a3⟩, ⟨b1, b2, b3⟩, c1, c2⟩ := h
  have a4 : (W % 16 != 0) = false := by rw [a3]; rfl
  have b4 : (H % 16 != 0) = false := by rw [b3]; rfl
  clear a3 b3
  have ix0 : ∀ w, (Instr.index 198 (.agg #[.int .i64 W, .int .i64 H]) (.int .i64 0)).run Tryz.prog w = .ok (.int .i64 W) w := fun _ => by kernel_rfl
  have ix1 : ∀ w, (Instr.index 198 (.agg #[.int .i64 W, .int .i64 H]) (.int .i64 1)).run Tryz.prog w = .ok (.int .i64 H) w := fun _ => by kernel_rfl
  go_enter Tryz.func98, Tryz.ntmps98
  go_wp2_with fail
  refine wp_loop_rounds 3 ?_; rw [rounds_succ]
  go_wp2_with fail
  rw [rounds_succ]
  go_wp2_with fail
  rw [rounds_succ]
  go_wp2_with fail
  go_ret
  exact ⟨rfl, (Mod.refl _ _).alloc _⟩

set_option maxRecDepth 100000 in
set_option maxHeartbeats 2000000 in
theorem synRight_no (w : World) (W H G : Int) (h : seqRight W H G = false) : Calls Tryz.prog 98 #[.agg #[.int .i64 W, .int .i64 H, .int .i64 G]] w fun e w' => e = .returned (.bool false) ∧ Mod (fun _ => False) w w' := by
  unfold seqRight at h
  simp only [decide_eq_false_iff_not] at h
  have ix0 : ∀ w, (Instr.index 198 (.agg #[.int .i64 W, .int .i64 H]) (.int .i64 0)).run Tryz.prog w = .ok (.int .i64 W) w := fun _ => by kernel_rfl
  have ix1 : ∀ w, (Instr.index 198 (.agg #[.int .i64 W, .int .i64 H]) (.int .i64 1)).run Tryz.prog w = .ok (.int .i64 H) w := fun _ => by kernel_rfl
  by_cases hW : 16 ≤ W ∧ W ≤ 4096 ∧ W % 16 = 0
  · obtain ⟨a1, a2, a3⟩ := hW
    have a4 : (W % 16 != 0) = false := by rw [a3]; rfl
    by_cases hH : 16 ≤ H ∧ H ≤ 4096 ∧ H % 16 = 0
    · obtain ⟨b1, b2, b3⟩ := hH
      have b4 : (H % 16 != 0) = false := by rw [b3]; rfl
      have hG : G < 1 ∨ 64 < G := by omega
      clear h a3 b3
      go_enter Tryz.func98, Tryz.ntmps98
      go_wp2_with fail
      refine wp_loop_rounds 3 ?_; rw [rounds_succ]
      go_wp2_with fail
      rw [rounds_succ]
      go_wp2_with fail
      rw [rounds_succ]
      rcases hG with hG | hG
      · have g1 : decide (1 ≤ G) = false := by simp; omega
        go_wp2_with fail
        go_ret
        exact ⟨rfl, (Mod.refl _ _).alloc _⟩
      · have g1 : decide (1 ≤ G) = true := by simp; omega
        have g2 : decide (G ≤ 64) = false := by simp; omega
        go_wp2_with fail
        go_ret
        exact ⟨rfl, (Mod.refl _ _).alloc _⟩
    · have hH' : H < 16 ∨ 4096 < H ∨ (16 ≤ H ∧ H ≤ 4096 ∧ (H % 16 != 0) = true) := by
        by_cases x1 : H < 16
        · exact .inl x1
        · by_cases x2 : 4096 < H
          · exact .inr (.inl x2)
          · exact .inr (.inr ⟨by omega, by omega, by simp; omega⟩)
      clear h a3 hH
      go_enter Tryz.func98, Tryz.ntmps98
      go_wp2_with fail
      refine wp_loop_rounds 3 ?_; rw [rounds_succ]
      go_wp2_with fail
      rw [rounds_succ]
      rcases hH' with hH | hH | ⟨h1, h2, h3⟩
      all_goals
        go_wp2_with fail
        go_ret
        exact ⟨rfl, (Mod.refl _ _).alloc _⟩
  · have hW' : W < 16 ∨ 4096 < W ∨ (16 ≤ W ∧ W ≤ 4096 ∧ (W % 16 != 0) = true) := by
      by_cases x1 : W < 16
      · exact .inl x1
      · by_cases x2 : 4096 < W
        · exact .inr (.inl x2)
        · exact .inr (.inr ⟨by omega, by omega, by simp; omega⟩)
    clear h hW
    go_enter Tryz.func98, Tryz.ntmps98
    go_wp2_with fail
    refine wp_loop_rounds 3 ?_; rw [rounds_succ]
    rcases hW' with hW | hW | ⟨h1, h2, h3⟩
    all_goals
      go_wp2_with fail
      go_ret
      exact ⟨rfl, (Mod.refl _ _).alloc _⟩

/-- The closure: behind an error nothing; else the next number, one more. -/
def SNextPost (w : World) (B eb rb g a : Nat) (l : List UInt8) (e : Ending) (w' : World) : Prop :=
  Blk w' rb 95 #[.pointer (some ⟨g, 0, none⟩)] ∧ Mod (fun k => k = eb ∨ k = g) w w' ∧
  ((gget l a 0 32 = none ∧ (∃ code : Int, code ≠ 0 ∧ Blk w' eb 28 #[.int .i64 code]) ∧ ReadIs w' B g l a ∧ e = .returned (.int .i64 1)) ∨
   ∃ v a' : Nat, gget l a 0 32 = some (v, a') ∧ Blk w' eb 28 #[.int .i64 0] ∧ ReadIs w' B g l a' ∧ e = .returned (.int .i64 ((v : Int) + 1)))
theorem snext_err (w : World) (eb rb : Nat) (code : Int) (hc : code ≠ 0) (he : Blk w eb 28 #[.int .i64 code]) : Calls Tryz.prog 97 #[.pointer (some ⟨eb, 0, none⟩), .pointer (some ⟨rb, 0, none⟩)] w fun e w' => e = .returned (.int .i64 0) ∧ w = w' := by
  obtain ⟨hce, hfe⟩ := he.both
  have h1 : (code != 0) = true := by simp [hc]
  clear hc he
  go_enter Tryz.func97, Tryz.ntmps97
  go_wp2_with fail
  go_ret
  exact ⟨rfl, rfl⟩
theorem gget_lt (l : List UInt8) (a n f v a' : Nat) (h : gget l a n f = some (v, a')) (hf : n + f ≤ 32) : v < 4294967296 := by
  induction f generalizing n with
  | zero => cases h
  | succ f ih =>
    rw [gget] at h
    split at h
    · split at h
      · exact ih (n + 1) h (by omega)
      · split at h
        · injection h with h
          injection h with h1 h2
          have h3 := numAt_lt l (a + n + 1) n
          have h4 : 2 ^ n ≤ 2 ^ 31 := Nat.pow_le_pow_right (by omega) (by omega)
          omega
        · cases h
    · cases h

set_option maxRecDepth 100000 in
set_option maxHeartbeats 1000000 in
theorem snext_ok (w : World) (B eb rb g a : Nat) (l : List UInt8) (he : Blk w eb 28 #[.int .i64 0]) (hr : Blk w rb 95 #[.pointer (some ⟨g, 0, none⟩)]) (hR : ReadIs w B g l a) :
    Calls Tryz.prog 97 #[.pointer (some ⟨eb, 0, none⟩), .pointer (some ⟨rb, 0, none⟩)] w (SNextPost w B eb rb g a l) := by
  obtain ⟨A, c, hb, _⟩ := hR.ex
  have n1 : ¬ eb = g := he.ne_ hb (by decide)
  have n2 : ¬ rb = g := hr.ne_ hb (by decide)
  have n3 : ¬ rb = eb := hr.ne_ he (by decide)
  obtain ⟨hce, hfe⟩ := he.both
  obtain ⟨hcr, hfr⟩ := hr.both
  have HE := Lib.hid (And.intro he hr)
  clear he hr hb
  go_enter Tryz.func97, Tryz.ntmps97
  go_wp2_with fail
  refine (golGet _ B g a l hR).mono ?_
  rintro e w1 (⟨code, hcode, rfl, hnone, hm⟩ | ⟨v, a', hsome, rfl, hR1, hm⟩)
  · have he1 := HE.out.1.keep hm (fun h => h)
    have hr1 := HE.out.2.keep hm (fun h => h)
    have hR1 := hR.quiet hm
    obtain ⟨hce1, hfe1⟩ := he1.both
    have hl := he1.lt
    have HF := Lib.hid (And.intro he1 (And.intro hr1 (And.intro hR1 (And.intro hm (And.intro hnone hcode)))))
    clear he1 hr1 hR1 hm hnone hcode hR hce hfe hcr hfr
    go_wp2_with fail
    go_ret
    obtain ⟨z1, z2, z3, z4, z5, z6⟩ := HF.out
    refine ⟨z2.far n3 _, (z4.mono (fun _ h => h.elim)).setCell (p := ⟨eb, 0, none⟩) (.inl (.inl rfl)) _, .inl ⟨z5, ⟨code, z6, z1.put rfl⟩, ?_, rfl⟩⟩
    exact z3.tmod (B' := 0) (T := fun t => t == 28) ((TMod.refl _ _ _).setCell z1 (Nat.zero_le _) (by decide) _) (by decide) (by decide)
  · have he1 := HE.out.1.keep hm n1
    have hr1 := HE.out.2.keep hm n2
    obtain ⟨hce1, hfe1⟩ := he1.both
    have hl := he1.lt
    have hv := gget_lt l a 0 32 v a' hsome (by omega)
    have HF := Lib.hid (And.intro he1 (And.intro hr1 (And.intro hR1 (And.intro hm hsome))))
    clear he1 hr1 hR1 hm hsome hR hce hfe hcr hfr
    go_wp2_with fail
    go_ret
    obtain ⟨z1, z2, z3, z4, z5⟩ := HF.out
    refine ⟨z2.far n3 _, (z4.mono (fun _ h => .inr h)).setCell (p := ⟨eb, 0, none⟩) (.inl (.inl rfl)) _, .inr ⟨v, a', z5, z1.put rfl, ?_, rfl⟩⟩
    exact z3.tmod (B' := 0) (T := fun t => t == 28) ((TMod.refl _ _ _).setCell z1 (Nat.zero_le _) (by decide) _) (by decide) (by decide)
end Go.Proofs.YteppnjgfebcmjaaGreat
