/-
  bits.Reader: Align, Rest.
-/
import Derived.Test.YtmkopcojnibhlaaGreatDoorM18
namespace Go.Proofs.YtmkopcojnibhlaaGreatDoor
open Go.RowKit

/-- The end of the byte that bit a is in, if what is left of it is nought. -/
def alignAt (l : List UInt8) (a : Nat) : Option Nat :=
  if a % 8 = 0 then some a else if (l.getD (a / 8) 0).toNat * 2 ^ (a % 8) % 256 = 0 then some (a + (8 - a % 8)) else none

def AlignPost (w : World) (B g a : Nat) (l : List UInt8) (e : Ending) (w' : World) : Prop :=
  (e = .returned (.int .i64 11) ∧ alignAt l a = none ∧ ReadIs w' B g l a ∧ Mod (· = g) w w') ∨ ∃ a', alignAt l a = some a' ∧ e = .returned (.int .i64 0) ∧ ReadIs w' B g l a' ∧ Mod (· = g) w w'

set_option maxRecDepth 100000 in
set_option maxHeartbeats 1000000 in
theorem bitsAlign (w : World) (B g a : Nat) (l : List UInt8) (h : ReadIs w B g l a) : Calls Tryz.prog 78 #[.pointer (some ⟨g, 0, none⟩)] w (AlignPost w B g a l) := by
  have HR := Lib.hid h
  obtain ⟨hB, ⟨A, c, hb, hby, _⟩, hat, hfew⟩ := h
  obtain ⟨hc, hf⟩ := hb.both
  by_cases h8 : a % 8 = 0
  · have h8' : ((a : Int) % 8 == 0) = true := beq_iff_eq.2 (by omega)
    have h8n : (a % 8 == 0) = true := beq_iff_eq.2 h8
    have HA : Hid (alignAt l a = some a) := if_pos h8
    clear h8 hb hby
    go_enter Tryz.func78, Tryz.ntmps78
    go_wp2_with fail
    go_ret
    exact .inr ⟨a, HA.out, rfl, HR.out, Mod.refl _ _⟩
  · have h8' : ((a : Int) % 8 == 0) = false := beq_eq_false_iff_ne.2 (by omega)
    have h8n : (a % 8 == 0) = false := beq_eq_false_iff_ne.2 h8
    have hq : a / 8 < l.length := by omega
    obtain ⟨r, hr, _⟩ := hby.some_ (by omega)
    subst hr
    have hcl := hby.cell (a / 8) hq
    have hx : (l.getD (a / 8) 0).toNat < 256 := UInt8.toNat_lt _
    have i1 : (0 : Int) ≤ (a : Int) / 8 := by omega
    have i2 : (a : Int) / 8 < (l.length : Int) := by omega
    have HB := Lib.hid (And.intro hb hby)
    obtain ⟨x, hxe⟩ : ∃ x, x = (l.getD (a / 8) 0).toNat := ⟨_, rfl⟩
    rw [← hxe] at hcl hx
    have HE := Lib.hid hxe
    have e0 : ((x : Int) * 2 ^ (a % 8) % 256) = ((x * 2 ^ (a % 8) % 256 : Nat) : Int) := by rw [Int.natCast_emod, Int.natCast_mul, Int.natCast_pow]; rfl
    clear hb hby hxe
    by_cases hz : x * 2 ^ (a % 8) % 256 = 0
    · have HA : Hid (alignAt l a = some (a + (8 - a % 8))) := by show _ = _; unfold alignAt; rw [if_neg h8, ← HE.out, if_pos hz]
      have hzb : ((x : Int) * 2 ^ (a % 8) % 256 != 0) = false := by rw [e0, hz]; rfl
      have HAA : Hid (a + (8 - a % 8) ≤ 8 * l.length ∧ (a : Int) + (8 - (a : Int) % 8) = ((a + (8 - a % 8) : Nat) : Int)) := ⟨by omega, by omega⟩
      clear hz e0 h8
      go_enter Tryz.func78, Tryz.ntmps78
      go_wp2_with fail
      go_quiet (fail)
      go_wp2_with fail
      go_region
      go_wp2_with fail
      go_ret
      refine .inr ⟨_, HA.out, rfl, ⟨hB, ⟨some ⟨r, 0, none⟩, c, ?_, ?_, r, rfl⟩, HAA.out.1, hfew⟩, ?_⟩
      rotate_left
      · refine own_mod HB.out.2 ?_ (S := (· = g)) (fun j hj e => own_ne_blk HB.out.2 HB.out.1 (by decide) (by rw [hj, e]))
        exact (by repeat' (first | with_reducible exact Mod.refl _ _ | with_reducible refine Mod.drewN ?_ _ | with_reducible refine Mod.drew ?_ | with_reducible refine Mod.setCell ?_ ?_ _ | exact Or.inl rfl))
      · exact (by repeat' (first | with_reducible exact Mod.refl _ _ | with_reducible refine Mod.drewN ?_ _ | with_reducible refine Mod.drew ?_ | with_reducible refine Mod.setCell ?_ ?_ _ | exact Or.inl rfl))
      · rw [← HAA.out.2]
        exact (by repeat' (first | with_reducible exact HB.out.1 | with_reducible apply Blk.put | with_reducible apply Blk.drewN | with_reducible apply Blk.drew | rfl))
    · have HA : Hid (alignAt l a = none) := by show _ = _; unfold alignAt; rw [if_neg h8, ← HE.out, if_neg hz]
      have hzb : ((x : Int) * 2 ^ (a % 8) % 256 != 0) = true := by rw [e0]; simp; omega
      clear hz e0 h8
      go_enter Tryz.func78, Tryz.ntmps78
      go_wp2_with fail
      go_quiet (fail)
      go_wp2_with fail
      go_ret
      exact .inl ⟨rfl, HA.out, HR.out.quiet ((Mod.refl _ _).drewN _), (Mod.refl _ _).drewN _⟩

/-- A window of a row of bytes, as a slice expression leaves it. -/
theorem src_from {w : World} {r n : Nat} {l : List UInt8} (h : Src w 1 (some ⟨r, 0, none⟩) n (u8s l)) (hn : l.length = n) (b c : Nat) (hb : b ≤ n) (hc : n ≤ c) : Src w 1 (if c = b then some ⟨r, 0, none⟩ else some ⟨r, b, none⟩) (n - b) (u8s (l.drop b)) := by
  have hl : (u8s (l.drop b)).length = (n - b) * 1 := by rw [u8s_length, List.length_drop]; omega
  by_cases e : c = b
  · rw [if_pos e]
    have e2 : l.drop b = [] := List.drop_eq_nil_of_le (by omega)
    exact ⟨hl, fun e => (by cases e), fun ad e j u hu => by rw [e2] at hu; simp [u8s] at hu⟩
  · rw [if_neg e]
    refine ⟨hl, fun e => (by cases e), fun ad e j u hu => ?_⟩
    injection e with e
    subst e
    have e3 : u8s (l.drop b) = (u8s l).drop b := by simp [u8s, List.map_drop]
    rw [e3, List.getElem?_drop] at hu
    have := h.2.2 _ rfl _ _ hu
    rw [addr_add'] at this ⊢
    rwa [Nat.zero_add] at this

set_option maxRecDepth 100000 in
set_option maxHeartbeats 1000000 in
theorem bitsRest (w : World) (B g a : Nat) (l : List UInt8) (h : ReadIs w B g l a) : Calls Tryz.prog 79 #[.pointer (some ⟨g, 0, none⟩)] w fun e w' => ∃ v, e = .returned v ∧ Bytes w' w.heap.size v (l.drop ((a + 7) / 8)) ∧ Mod (fun _ => False) w w' := by
  obtain ⟨i0, hi0, hz0, hz1, hz2⟩ := info_parts u8_info
  obtain ⟨hB, ⟨A, c, hb, hby, r, hsm⟩, hat, hfew⟩ := h
  subst hsm
  obtain ⟨b, hbb⟩ : ∃ b, b = (a + 7) / 8 := ⟨_, rfl⟩
  have hble : b ≤ l.length := by omega
  have e1 : ((a : Int) + 7) / 8 = (b : Int) := by omega
  have e2 : (l.length : Int) - (b : Int) = ((l.length - b : Nat) : Int) := by omega
  rw [← hbb]
  obtain ⟨hc, hf⟩ := hb.both
  have x1 : i0.bytes * (l.length - b) ≤ 281474976710656 := by rw [hz2]; omega
  have x2 : l.length - b ≤ maxLen := by unfold maxLen; omega
  have HX := Lib.hid (And.intro x1 x2)
  have HB := Lib.hid (And.intro hb hby)
  have hgl := hb.lt
  clear hb hby hbb x1 x2
  go_enter Tryz.func79, Tryz.ntmps79
  go_upto_region 5 with (with_reducible refine wpList_make_full _ rfl (.tmp 19) (.tmp 19) _ rfl w.heap.size 5 i0 (.int .u8 0) 1 Tryz.underlying36 hi0 hz0 hz1 _ _ _ _ (l.length - b) rfl rfl rfl rfl HX.out.1 HX.out.2 (Nat.le_refl _) ?_; intro w1 hown1 hg1; have HO := Lib.hid (And.intro hown1 hg1); clear hown1 hg1)
  have hM : Mod (fun _ => False) w w1 := (Mod.refl _ _).grown HO.out.2 (fun k hk => by cases hk)
  have hbk := HB.out.1.keep hM (fun h => h)
  have hsrc := (Src.of_own (own_mod HB.out.2 hM (fun _ _ h => h))).2
  have hcap : l.length ≤ c := by
    rcases HB.out.2.2 with ⟨hv, _⟩ | ⟨_, _, _, hv, _, _, h, _⟩
    · cases hv
    · injection hv with _ _ h3; omega
  obtain ⟨hc1, hf1⟩ := hbk.both
  have i1 : (0 : Int) ≤ (b : Int) := by omega
  have i2 : (b : Int) ≤ (l.length : Int) := by omega
  have HR := Lib.hid (And.intro (src_from hsrc rfl b c hble hcap) (And.intro HO.out.1 hM))
  have HF : Hid (0 + (l.length - b) ≤ (madeCells (Value.cells (.int .u8 0)) ((l.length - b) * 1)).toList.length) := by show _ ≤ _; simp [size_madeCells]
  clear hM hbk hsrc HO hc hf e1 e2
  go_wp2_with (with_reducible refine wpList_copy_blk rfl (.tmp 21) (.tmp 27) _ _ rfl 5 Tryz.underlying36 (by kernel_rfl) (some ⟨w.heap.size, 0, none⟩) (l.length - b) (l.length - b) (if c = b then some ⟨r, 0, none⟩ else some ⟨r, b, none⟩) (l.length - b) (c - b) (u8s (l.drop b)) rfl rfl HR.out.1 w.heap.size 0 _ 5 (own_whole HR.out.2.1).1 (l.length - b) (Nat.min_self _).symm (fun _ => rfl) HF.out (u8s_one _) ?_; intro w3 hb3 hm3; have HB3 := Lib.hid (And.intro hb3 hm3); clear hb3 hm3)
  all_goals
    go_ret
    have hl : splice (madeCells (Value.cells (.int .u8 0)) ((l.length - b) * 1)).toList 0 ((u8s (l.drop b)).take (l.length - b)) = u8s (l.drop b) := by
      rw [List.take_of_length_le (by simp [u8s])]
      simp [splice, u8s, size_madeCells]
    obtain ⟨hb3, hm3⟩ := HB3.out
    rw [hl] at hb3
    have hld : (l.drop b).length = l.length - b := List.length_drop
    have hfin := Bytes.of_blk (B := w.heap.size) (Nat.le_refl _) hb3 (by rw [hld]; exact HX.out.2)
    rw [hld] at hfin
    exact ⟨_, rfl, hfin, HR.out.2.2.into hm3 (fun i e => .inr (by omega))⟩
end Go.Proofs.YtmkopcojnibhlaaGreatDoor

/-
  syntax.Right, and the closure of syntax.ParseSequence.
-/
namespace Go.Proofs.YtmkopcojnibhlaaGreatDoor
open Go.RowKit

def seqRight (W H G : Int) : Bool := decide ((16 ≤ W ∧ W ≤ 4096 ∧ W % 16 = 0) ∧ (16 ≤ H ∧ H ≤ 4096 ∧ H % 16 = 0) ∧ 1 ≤ G ∧ G ≤ 64)

set_option maxRecDepth 100000 in
set_option maxHeartbeats 1000000 in
theorem synRight_yes (w : World) (W H G : Int) (h : seqRight W H G = true) : Calls Tryz.prog 42 #[.agg #[.int .i64 W, .int .i64 H, .int .i64 G]] w fun e w' => e = .returned (.bool true) ∧ Mod (fun _ => False) w w' := by
  unfold seqRight at h
  simp only [decide_eq_true_eq] at h
  obtain ⟨⟨a1, a2, a3⟩, ⟨b1, b2, b3⟩, c1, c2⟩ := h
  have a4 : (W % 16 != 0) = false := by rw [a3]; rfl
  have b4 : (H % 16 != 0) = false := by rw [b3]; rfl
  clear a3 b3
  have ix0 : ∀ w, (Instr.index 24 (.agg #[.int .i64 W, .int .i64 H]) (.int .i64 0)).run Tryz.prog w = .ok (.int .i64 W) w := fun _ => by kernel_rfl
  have ix1 : ∀ w, (Instr.index 24 (.agg #[.int .i64 W, .int .i64 H]) (.int .i64 1)).run Tryz.prog w = .ok (.int .i64 H) w := fun _ => by kernel_rfl
  go_enter Tryz.func42, Tryz.ntmps42
  go_wp2_with fail
  refine wp_loop_rounds 3 ?_; rw [rounds_succ]
  go_wp2_with fail
  rw [rounds_succ]
  go_wp2_with fail
  rw [rounds_succ]
  go_wp2_with fail
  go_ret
  exact ⟨rfl, (Mod.refl _ _).alloc _⟩

set_option maxRecDepth 100000 in
set_option maxHeartbeats 2000000 in
theorem synRight_no (w : World) (W H G : Int) (h : seqRight W H G = false) : Calls Tryz.prog 42 #[.agg #[.int .i64 W, .int .i64 H, .int .i64 G]] w fun e w' => e = .returned (.bool false) ∧ Mod (fun _ => False) w w' := by
  unfold seqRight at h
  simp only [decide_eq_false_iff_not] at h
  have ix0 : ∀ w, (Instr.index 24 (.agg #[.int .i64 W, .int .i64 H]) (.int .i64 0)).run Tryz.prog w = .ok (.int .i64 W) w := fun _ => by kernel_rfl
  have ix1 : ∀ w, (Instr.index 24 (.agg #[.int .i64 W, .int .i64 H]) (.int .i64 1)).run Tryz.prog w = .ok (.int .i64 H) w := fun _ => by kernel_rfl
  by_cases hW : 16 ≤ W ∧ W ≤ 4096 ∧ W % 16 = 0
  · obtain ⟨a1, a2, a3⟩ := hW
    have a4 : (W % 16 != 0) = false := by rw [a3]; rfl
    by_cases hH : 16 ≤ H ∧ H ≤ 4096 ∧ H % 16 = 0
    · obtain ⟨b1, b2, b3⟩ := hH
      have b4 : (H % 16 != 0) = false := by rw [b3]; rfl
      have hG : G < 1 ∨ 64 < G := by omega
      clear h a3 b3
      go_enter Tryz.func42, Tryz.ntmps42
      go_wp2_with fail
      refine wp_loop_rounds 3 ?_; rw [rounds_succ]
      go_wp2_with fail
      rw [rounds_succ]
      go_wp2_with fail
      rw [rounds_succ]
      rcases hG with hG | hG
      · have g1 : decide (1 ≤ G) = false := by simp; omega
        go_wp2_with fail
        go_ret
        exact ⟨rfl, (Mod.refl _ _).alloc _⟩
      · have g1 : decide (1 ≤ G) = true := by simp; omega
        have g2 : decide (G ≤ 64) = false := by simp; omega
        go_wp2_with fail
        go_ret
        exact ⟨rfl, (Mod.refl _ _).alloc _⟩
    · have hH' : H < 16 ∨ 4096 < H ∨ (16 ≤ H ∧ H ≤ 4096 ∧ (H % 16 != 0) = true) := by
        by_cases x1 : H < 16
        · exact .inl x1
        · by_cases x2 : 4096 < H
          · exact .inr (.inl x2)
          · exact .inr (.inr ⟨by omega, by omega, by simp; omega⟩)
      clear h a3 hH
      go_enter Tryz.func42, Tryz.ntmps42
      go_wp2_with fail
      refine wp_loop_rounds 3 ?_; rw [rounds_succ]
      go_wp2_with fail
      rw [rounds_succ]
      rcases hH' with hH | hH | ⟨h1, h2, h3⟩
      all_goals
        go_wp2_with fail
        go_ret
        exact ⟨rfl, (Mod.refl _ _).alloc _⟩
  · have hW' : W < 16 ∨ 4096 < W ∨ (16 ≤ W ∧ W ≤ 4096 ∧ (W % 16 != 0) = true) := by
      by_cases x1 : W < 16
      · exact .inl x1
      · by_cases x2 : 4096 < W
        · exact .inr (.inl x2)
        · exact .inr (.inr ⟨by omega, by omega, by simp; omega⟩)
    clear h hW
    go_enter Tryz.func42, Tryz.ntmps42
    go_wp2_with fail
    refine wp_loop_rounds 3 ?_; rw [rounds_succ]
    rcases hW' with hW | hW | ⟨h1, h2, h3⟩
    all_goals
      go_wp2_with fail
      go_ret
      exact ⟨rfl, (Mod.refl _ _).alloc _⟩

/-- The closure: behind an error nothing; else the next number, one more. -/
def SNextPost (w : World) (B eb rb g a : Nat) (l : List UInt8) (e : Ending) (w' : World) : Prop :=
  Blk w' rb 127 #[.pointer (some ⟨g, 0, none⟩)] ∧ Mod (fun k => k = eb ∨ k = g) w w' ∧
  ((gget l a 0 32 = none ∧ (∃ code : Int, code ≠ 0 ∧ Blk w' eb 30 #[.int .i64 code]) ∧ ReadIs w' B g l a ∧ e = .returned (.int .i64 1)) ∨
   ∃ v a' : Nat, gget l a 0 32 = some (v, a') ∧ Blk w' eb 30 #[.int .i64 0] ∧ ReadIs w' B g l a' ∧ e = .returned (.int .i64 ((v : Int) + 1)))
theorem snext_err (w : World) (eb rb : Nat) (code : Int) (hc : code ≠ 0) (he : Blk w eb 30 #[.int .i64 code]) : Calls Tryz.prog 184 #[.pointer (some ⟨eb, 0, none⟩), .pointer (some ⟨rb, 0, none⟩)] w fun e w' => e = .returned (.int .i64 0) ∧ w = w' := by
  obtain ⟨hce, hfe⟩ := he.both
  have h1 : (code != 0) = true := by simp [hc]
  clear hc he
  go_enter Tryz.func184, Tryz.ntmps184
  go_wp2_with fail
  go_ret
  exact ⟨rfl, rfl⟩
theorem gget_lt (l : List UInt8) (a n f v a' : Nat) (h : gget l a n f = some (v, a')) (hf : n + f ≤ 32) : v < 4294967296 := by
  induction f generalizing n with
  | zero => cases h
  | succ f ih =>
    rw [gget] at h
    split at h
    · split at h
      · exact ih (n + 1) h (by omega)
      · split at h
        · injection h with h
          injection h with h1 h2
          have h3 := numAt_lt l (a + n + 1) n
          have h4 : 2 ^ n ≤ 2 ^ 31 := Nat.pow_le_pow_right (by omega) (by omega)
          omega
        · cases h
    · cases h

set_option maxRecDepth 100000 in
set_option maxHeartbeats 1000000 in
theorem snext_ok (w : World) (B eb rb g a : Nat) (l : List UInt8) (he : Blk w eb 30 #[.int .i64 0]) (hr : Blk w rb 127 #[.pointer (some ⟨g, 0, none⟩)]) (hR : ReadIs w B g l a) :
    Calls Tryz.prog 184 #[.pointer (some ⟨eb, 0, none⟩), .pointer (some ⟨rb, 0, none⟩)] w (SNextPost w B eb rb g a l) := by
  obtain ⟨A, c, hb, _⟩ := hR.ex
  have n1 : ¬ eb = g := he.ne_ hb (by decide)
  have n2 : ¬ rb = g := hr.ne_ hb (by decide)
  have n3 : ¬ rb = eb := hr.ne_ he (by decide)
  obtain ⟨hce, hfe⟩ := he.both
  obtain ⟨hcr, hfr⟩ := hr.both
  have HE := Lib.hid (And.intro he hr)
  clear he hr hb
  go_enter Tryz.func184, Tryz.ntmps184
  go_wp2_with fail
  refine (golGet _ B g a l hR).mono ?_
  rintro e w1 (⟨code, hcode, rfl, hnone, hm⟩ | ⟨v, a', hsome, rfl, hR1, hm⟩)
  · have he1 := HE.out.1.keep hm (fun h => h)
    have hr1 := HE.out.2.keep hm (fun h => h)
    have hR1 := hR.quiet hm
    obtain ⟨hce1, hfe1⟩ := he1.both
    have hl := he1.lt
    have HF := Lib.hid (And.intro he1 (And.intro hr1 (And.intro hR1 (And.intro hm (And.intro hnone hcode)))))
    clear he1 hr1 hR1 hm hnone hcode hR hce hfe hcr hfr
    go_wp2_with fail
    go_ret
    obtain ⟨z1, z2, z3, z4, z5, z6⟩ := HF.out
    refine ⟨z2.far n3 _, (z4.mono (fun _ h => h.elim)).setCell (p := ⟨eb, 0, none⟩) (.inl (.inl rfl)) _, .inl ⟨z5, ⟨code, z6, z1.put rfl⟩, ?_, rfl⟩⟩
    exact z3.tmod (B' := 0) (T := fun t => t == 30) ((TMod.refl _ _ _).setCell z1 (Nat.zero_le _) (by decide) _) (by decide) (by decide)
  · have he1 := HE.out.1.keep hm n1
    have hr1 := HE.out.2.keep hm n2
    obtain ⟨hce1, hfe1⟩ := he1.both
    have hl := he1.lt
    have hv := gget_lt l a 0 32 v a' hsome (by omega)
    have HF := Lib.hid (And.intro he1 (And.intro hr1 (And.intro hR1 (And.intro hm hsome))))
    clear he1 hr1 hR1 hm hsome hR hce hfe hcr hfr
    go_wp2_with fail
    go_ret
    obtain ⟨z1, z2, z3, z4, z5⟩ := HF.out
    refine ⟨z2.far n3 _, (z4.mono (fun _ h => .inr h)).setCell (p := ⟨eb, 0, none⟩) (.inl (.inl rfl)) _, .inr ⟨v, a', z5, z1.put rfl, ?_, rfl⟩⟩
    exact z3.tmod (B' := 0) (T := fun t => t == 30) ((TMod.refl _ _ _).setCell z1 (Nat.zero_le _) (by decide) _) (by decide) (by decide)
end Go.Proofs.YtmkopcojnibhlaaGreatDoor

/-
  syntax.ParseSequence.
-/
namespace Go.Proofs.YtmkopcojnibhlaaGreatDoor
open Go.RowKit

/-- A sequence's bytes read. -/
def seqParse (l : List UInt8) : Option (Int × Int × Int) :=
  if 16 ≤ 8 * l.length then
    match gget l 16 0 32 with
    | none => none
    | some (x, a1) =>
      match gget l a1 0 32 with
      | none => none
      | some (y, a2) =>
        match gget l a2 0 32 with
        | none => none
        | some (z, a3) => if numAt l 0 16 = 19273 ∧ seqRight (((x : Int) + 1) * 16) (((y : Int) + 1) * 16) ((z : Int) + 1) = true ∧ alignAt l a3 = some (8 * l.length) then some (((x : Int) + 1) * 16, ((y : Int) + 1) * 16, (z : Int) + 1) else none
  else none
theorem seqParse_right {l : List UInt8} {s : Int × Int × Int} (h : seqParse l = some s) : seqRight s.1 s.2.1 s.2.2 = true := by
  unfold seqParse at h
  split at h
  · split at h
    · cases h
    · split at h
      · cases h
      · split at h
        · cases h
        · split at h
          · rename_i hh
            injection h with h
            rw [← h]
            exact hh.2.1
          · cases h
  · cases h

def SeqPost (w : World) (l : List UInt8) (e : Ending) (w' : World) : Prop :=
  Mod (fun _ => False) w w' ∧ ((seqParse l = none ∧ e = .returned (.tuple #[.agg #[.int .i64 0, .int .i64 0, .int .i64 0], .int .i64 121])) ∨ ∃ W H G, seqParse l = some (W, H, G) ∧ e = .returned (.tuple #[.agg #[.int .i64 W, .int .i64 H, .int .i64 G], .int .i64 0]))

theorem seq_mod {w w4 : World} {q0 : Nat} (h : Mod (fun _ => False) w w4) (hq : w.heap.size ≤ q0) (a b c : Value) (o : Obj) : Mod (fun _ => False) w ((((w4.setCell ⟨q0, 0, none⟩ a).setCell ⟨q0, 1, none⟩ b).setCell ⟨q0, 2, none⟩ c).alloc o) :=
  (((h.setCell (p := ⟨q0, 0, none⟩) (.inr hq) _).setCell (p := ⟨q0, 1, none⟩) (.inr hq) _).setCell (p := ⟨q0, 2, none⟩) (.inr hq) _).alloc _

theorem seq_mod3 {w w4 : World} {q0 : Nat} (h : Mod (fun _ => False) w w4) (hq : w.heap.size ≤ q0) (a b c : Value) : Mod (fun _ => False) w (((w4.setCell ⟨q0, 0, none⟩ a).setCell ⟨q0, 1, none⟩ b).setCell ⟨q0, 2, none⟩ c) :=
  ((h.setCell (p := ⟨q0, 0, none⟩) (.inr hq) _).setCell (p := ⟨q0, 1, none⟩) (.inr hq) _).setCell (p := ⟨q0, 2, none⟩) (.inr hq) _

set_option maxRecDepth 100000 in
set_option maxHeartbeats 4000000 in
theorem parseSeq (w : World) (A : Option Addr) (n c : Nat) (l : List UInt8) (hin : BytesIn w A n c l) (hn : n ≤ 1048576) : Calls Tryz.prog 126 #[.slice A n c] w (SeqPost w l) := by
  have hq0 : Blk (w.alloc (.cells #[.int .i64 0, .int .i64 0, .int .i64 0] 23)) w.heap.size 23 #[.int .i64 0, .int .i64 0, .int .i64 0] := Blk.new _ _ _
  have M0 : Mod (fun _ => False) w (w.alloc (.cells #[.int .i64 0, .int .i64 0, .int .i64 0] 23)) := (Mod.refl _ _).alloc _
  have hin0 := hin.quiet M0
  clear hin
  go_enter Tryz.func126, Tryz.ntmps126
  go_wp2_with fail
  obtain ⟨q0, hq⟩ : ∃ q0, q0 = w.heap.size := ⟨_, rfl⟩
  rw [← hq] at hq0 ⊢
  have hqw : w.heap.size ≤ q0 := by omega
  clear hq
  generalize w.alloc (.cells #[.int .i64 0, .int .i64 0, .int .i64 0] 23) = w0 at *
  refine (bitsOpen w0 A n c l hin0 hn).mono ?_
  rintro e w1 ⟨g, rfl, hR, hm1⟩
  have M1 := M0.trans hm1
  have hq1 := hq0.keep hm1 (fun h => h)
  have hB : w.heap.size ≤ w0.heap.size := M0.size
  clear hq0 M0 hm1 hin0
  -- r's variable
  have hrb : Blk (w1.alloc (.cells #[.pointer (some ⟨g, 0, none⟩)] 127)) w1.heap.size 127 #[.pointer (some ⟨g, 0, none⟩)] := Blk.new _ _ _
  have hq2 := hq1.alloc (.cells #[.pointer (some ⟨g, 0, none⟩)] 127)
  have hR2 := hR.quiet ((Mod.refl _ w1).alloc (.cells #[.pointer (some ⟨g, 0, none⟩)] 127))
  have M2 := M1.alloc (.cells #[.pointer (some ⟨g, 0, none⟩)] 127)
  obtain ⟨rb, hrbe⟩ : ∃ rb, rb = w1.heap.size := ⟨_, rfl⟩
  rw [← hrbe] at hrb
  have hrw : w.heap.size ≤ rb := by rw [hrbe]; exact M1.size
  clear hq1 hR M1
  go_upto_region 2 with (fail)
  rw [← hrbe]
  clear hrbe
  generalize w1.alloc (.cells #[.pointer (some ⟨g, 0, none⟩)] 127) = w2 at *
  obtain ⟨hcr, hfr⟩ := hrb.both
  by_cases hshort : 8 * l.length < 16
  · have HP : Hid (seqParse l = none) := if_neg (by omega)
    go_wp2_with fail
    refine (bitsGet_short _ w0.heap.size g 0 16 l hR2 (by omega) (by omega)).mono ?_
    rintro e w3 ⟨rfl, m, rfl⟩
    have Mm : Mod (fun _ => False) w2 (w2.drewN m) := (Mod.refl _ _).drewN _
    generalize w2.drewN m = w3 at *
    have hq3 := hq2.keep Mm (fun h => h)
    have hr3 := hrb.keep Mm (fun h => h)
    have M3 : Mod (fun _ => False) w w3 := M2.trans Mm
    have heb : Blk (w3.alloc (.cells #[.int .i64 11] 30)) w3.heap.size 30 #[.int .i64 11] := Blk.new _ _ _
    have hq4 := hq3.alloc (.cells #[.int .i64 11] 30)
    have hr4 := hr3.alloc (.cells #[.int .i64 11] 30)
    have M4 := M3.alloc (.cells #[.int .i64 11] 30)
    obtain ⟨eb, hebe⟩ : ∃ eb, eb = w3.heap.size := ⟨_, rfl⟩
    rw [← hebe] at heb
    have hew : w.heap.size ≤ eb := by rw [hebe]; exact M3.size
    clear hq2 hrb hcr hfr hq3 hr3 M3 M2 Mm
    go_upto_region 3 with (fail)
    rw [← hebe]
    clear hebe
    generalize w3.alloc (.cells #[.int .i64 11] 30) = w4 at *
    obtain ⟨hce, hfe⟩ := heb.both
    go_wp2_with fail
    refine (snext_err _ eb rb 11 (by omega) heb).mono ?_
    rintro e wx ⟨rfl, rfl⟩
    go_wp2_with fail
    refine (snext_err _ eb rb 11 (by omega) heb).mono ?_
    rintro e wx ⟨rfl, rfl⟩
    go_wp2_with fail
    refine (snext_err _ eb rb 11 (by omega) heb).mono ?_
    rintro e wx ⟨rfl, rfl⟩
    have hqf := hq4.lt
    have hel := heb.lt
    have heq : ¬ eb = q0 := heb.ne_ hq4 (by decide)
    obtain ⟨hcq, hfq⟩ := hq4.both
    have HQ := Lib.hid (And.intro hq4 M4)
    clear hq4 M4 hr4
    go_wp2_with fail
    refine bodyPost_ret (v := .tuple #[.agg #[.int .i64 0, .int .i64 0, .int .i64 0], .int .i64 121]) (by simp [results, Tryz.results126, go_sem, hcq, hqf]) rfl ⟨?_, .inl ⟨HP.out, rfl⟩⟩
    exact seq_mod HQ.out.2 hqw _ _ _ _
  · go_wp2_with fail
    refine (bitsGet _ w0.heap.size g 0 16 l hR2 (by omega) (by omega)).mono ?_
    rintro e w3 ⟨rfl, hR3, Mm'⟩
    have Mm : Mod (· = g) w2 w3 := Mm'
    clear Mm'
    have h16 : 16 ≤ 8 * l.length := by omega
    clear hshort
    obtain ⟨Ag, cg, hbg, _⟩ := hR2.ex
    have nq : ¬ q0 = g := hq2.ne_ hbg (by decide)
    have nr : ¬ rb = g := hrb.ne_ hbg (by decide)
    have hgw : w.heap.size ≤ g := Nat.le_trans hB hR3.base
    have hq3 := hq2.keep Mm nq
    have hr3 := hrb.keep Mm nr
    have M3 : Mod (fun _ => False) w w3 := M2.into Mm (fun i e => .inr (by omega))
    have heb : Blk (w3.alloc (.cells #[.int .i64 0] 30)) w3.heap.size 30 #[.int .i64 0] := Blk.new _ _ _
    have hq4 := hq3.alloc (.cells #[.int .i64 0] 30)
    have hr4 := hr3.alloc (.cells #[.int .i64 0] 30)
    have hR4 := hR3.quiet ((Mod.refl _ w3).alloc (.cells #[.int .i64 0] 30))
    have M4 := M3.alloc (.cells #[.int .i64 0] 30)
    obtain ⟨eb, hebe⟩ : ∃ eb, eb = w3.heap.size := ⟨_, rfl⟩
    rw [← hebe] at heb
    have hew : w.heap.size ≤ eb := by rw [hebe]; exact M3.size
    clear hbg hq2 hrb hcr hfr hq3 hr3 M3 M2 Mm hR2 hR3
    go_upto_region 3 with (fail)
    rw [← hebe]
    clear hebe
    generalize w3.alloc (.cells #[.int .i64 0] 30) = w4 at *
    have nqe : ¬ q0 = eb := hq4.ne_ heb (by decide)
    rw [show (0 : Nat) + 16 = 16 from rfl] at hR4
    go_wp2_with fail
    refine (snext_ok _ w0.heap.size eb rb g 16 l heb hr4 hR4).mono ?_
    rintro e w5 ⟨hrk, hmk, hor⟩
    have hqk := hq4.keep hmk (fun h => h.elim nqe nq)
    have Mk := M4.into hmk (fun i e => .inr (by omega))
    clear heb hr4 hR4 hq4 M4 hmk
    have hq4 := hqk
    have M4 := Mk
    have hr4 := hrk
    clear hqk Mk hrk
    rcases hor with ⟨hnone, ⟨code, hcode, heb⟩, hR4, rfl⟩ | ⟨x, a1, hsome, heb, hR4, rfl⟩
    · have HP : Hid (seqParse l = none) := by show _ = _; unfold seqParse; rw [if_pos h16]; rw [hnone]
      clear hnone
      go_wp2_with fail
      refine (snext_err _ eb rb code hcode heb).mono ?_
      rintro e wx ⟨rfl, rfl⟩
      go_wp2_with fail
      refine (snext_err _ eb rb code hcode heb).mono ?_
      rintro e wx ⟨rfl, rfl⟩
      have hcb : (code != 0) = true := by simp [hcode]
      have hqf := hq4.lt
      have hel := heb.lt
      obtain ⟨hcq, hfq⟩ := hq4.both
      obtain ⟨hce, hfe⟩ := heb.both
      have HQ := Lib.hid (And.intro hq4 M4)
      clear hq4 M4 hr4 hR4 hcode heb
      go_wp2_with fail
      refine bodyPost_ret (v := .tuple #[.agg #[.int .i64 0, .int .i64 0, .int .i64 0], .int .i64 121]) (by simp [results, Tryz.results126, go_sem, hcq, hqf]) rfl ⟨?_, .inl ⟨HP.out, rfl⟩⟩
      exact seq_mod HQ.out.2 hqw _ _ _ _
    have HG1 := Lib.hid hsome
    have hv1 := gget_lt l 16 0 32 x a1 hsome (by omega)
    clear hsome
    go_wp2_with fail
    refine (snext_ok _ w0.heap.size eb rb g a1 l heb hr4 hR4).mono ?_
    rintro e w6 ⟨hrk, hmk, hor⟩
    have hqk := hq4.keep hmk (fun h => h.elim nqe nq)
    have Mk := M4.into hmk (fun i e => .inr (by omega))
    clear heb hr4 hR4 hq4 M4 hmk
    have hq4 := hqk
    have M4 := Mk
    have hr4 := hrk
    clear hqk Mk hrk
    rcases hor with ⟨hnone, ⟨code, hcode, heb⟩, hR4, rfl⟩ | ⟨y, a2, hsome, heb, hR4, rfl⟩
    · have HP : Hid (seqParse l = none) := by show _ = _; unfold seqParse; rw [if_pos h16]; rw [HG1.out]; dsimp only; rw [hnone]
      clear hnone
      go_wp2_with fail
      refine (snext_err _ eb rb code hcode heb).mono ?_
      rintro e wx ⟨rfl, rfl⟩
      have hcb : (code != 0) = true := by simp [hcode]
      have hqf := hq4.lt
      have hel := heb.lt
      obtain ⟨hcq, hfq⟩ := hq4.both
      obtain ⟨hce, hfe⟩ := heb.both
      have HQ := Lib.hid (And.intro hq4 M4)
      clear hq4 M4 hr4 hR4 hcode heb
      go_wp2_with fail
      refine bodyPost_ret (v := .tuple #[.agg #[.int .i64 0, .int .i64 0, .int .i64 0], .int .i64 121]) (by simp [results, Tryz.results126, go_sem, hcq, hqf]) rfl ⟨?_, .inl ⟨HP.out, rfl⟩⟩
      exact seq_mod HQ.out.2 hqw _ _ _ _
    have HG2 := Lib.hid hsome
    have hv2 := gget_lt l a1 0 32 y a2 hsome (by omega)
    clear hsome
    go_wp2_with fail
    refine (snext_ok _ w0.heap.size eb rb g a2 l heb hr4 hR4).mono ?_
    rintro e w7 ⟨hrk, hmk, hor⟩
    have hqk := hq4.keep hmk (fun h => h.elim nqe nq)
    have Mk := M4.into hmk (fun i e => .inr (by omega))
    clear heb hr4 hR4 hq4 M4 hmk
    have hq4 := hqk
    have M4 := Mk
    have hr4 := hrk
    clear hqk Mk hrk
    rcases hor with ⟨hnone, ⟨code, hcode, heb⟩, hR4, rfl⟩ | ⟨z, a3, hsome, heb, hR4, rfl⟩
    · have HP : Hid (seqParse l = none) := by show _ = _; unfold seqParse; rw [if_pos h16]; rw [HG1.out]; dsimp only; rw [HG2.out]; dsimp only; rw [hnone]
      clear hnone
      have hcb : (code != 0) = true := by simp [hcode]
      have hqf := hq4.lt
      have hel := heb.lt
      obtain ⟨hcq, hfq⟩ := hq4.both
      obtain ⟨hce, hfe⟩ := heb.both
      have HQ := Lib.hid (And.intro hq4 M4)
      clear hq4 M4 hr4 hR4 hcode heb
      go_wp2_with fail
      refine bodyPost_ret (v := .tuple #[.agg #[.int .i64 0, .int .i64 0, .int .i64 0], .int .i64 121]) (by simp [results, Tryz.results126, go_sem, hcq, hqf]) rfl ⟨?_, .inl ⟨HP.out, rfl⟩⟩
      exact seq_mod HQ.out.2 hqw _ _ _ _
    have HG3 := Lib.hid hsome
    have hv3 := gget_lt l a2 0 32 z a3 hsome (by omega)
    clear hsome
    have hsb : Blk (w7.alloc (.cells #[.int .i64 (((x : Int) + 1) * 16), .int .i64 (((y : Int) + 1) * 16), .int .i64 ((z : Int) + 1)] 23)) w7.heap.size 23 #[.int .i64 (((x : Int) + 1) * 16), .int .i64 (((y : Int) + 1) * 16), .int .i64 ((z : Int) + 1)] := Blk.new _ _ _
    have hq5 := hq4.alloc (.cells #[.int .i64 (((x : Int) + 1) * 16), .int .i64 (((y : Int) + 1) * 16), .int .i64 ((z : Int) + 1)] 23)
    have he5 := heb.alloc (.cells #[.int .i64 (((x : Int) + 1) * 16), .int .i64 (((y : Int) + 1) * 16), .int .i64 ((z : Int) + 1)] 23)
    have hr5 := hr4.alloc (.cells #[.int .i64 (((x : Int) + 1) * 16), .int .i64 (((y : Int) + 1) * 16), .int .i64 ((z : Int) + 1)] 23)
    have hR5 := hR4.quiet ((Mod.refl _ w7).alloc (.cells #[.int .i64 (((x : Int) + 1) * 16), .int .i64 (((y : Int) + 1) * 16), .int .i64 ((z : Int) + 1)] 23))
    have M5 := M4.alloc (.cells #[.int .i64 (((x : Int) + 1) * 16), .int .i64 (((y : Int) + 1) * 16), .int .i64 ((z : Int) + 1)] 23)
    obtain ⟨sb, hsbe⟩ : ∃ sb, sb = w7.heap.size := ⟨_, rfl⟩
    rw [← hsbe] at hsb
    have nqs : ¬ sb = q0 := by have := hq4.lt; omega
    clear hq4 heb hr4 hR4 M4
    go_upto_region 8 with (fail)
    rw [← hsbe]
    clear hsbe
    generalize w7.alloc (.cells #[.int .i64 (((x : Int) + 1) * 16), .int .i64 (((y : Int) + 1) * 16), .int .i64 ((z : Int) + 1)] 23) = w8 at *
    have hq4 := hq5
    have M4 := M5
    clear hq5 M5
    obtain ⟨hce, hfe⟩ := he5.both
    obtain ⟨hcs, hfs⟩ := hsb.both
    obtain ⟨hcr, hfr⟩ := hr5.both
    have HH : ∀ r, (numAt l 0 16 = 19273 ∧ seqRight (((x : Int) + 1) * 16) (((y : Int) + 1) * 16) ((z : Int) + 1) = true ∧ alignAt l a3 = some (8 * l.length) → r = some (((x : Int) + 1) * 16, ((y : Int) + 1) * 16, (z : Int) + 1)) → (¬ (numAt l 0 16 = 19273 ∧ seqRight (((x : Int) + 1) * 16) (((y : Int) + 1) * 16) ((z : Int) + 1) = true ∧ alignAt l a3 = some (8 * l.length)) → r = none) → seqParse l = r := by
      intro r h1 h2
      unfold seqParse
      rw [if_pos h16, HG1.out]
      dsimp only
      rw [HG2.out]
      dsimp only
      rw [HG3.out]
      dsimp only
      split
      · rename_i hh; exact (h1 hh).symm
      · rename_i hh; exact (h2 hh).symm
    have HS := Lib.hid HH
    clear HH
    by_cases hmark : numAt l 0 16 = 19273
    · rw [hmark]
      have HMK := Lib.hid hmark
      clear hmark
      cases hright : seqRight (((x : Int) + 1) * 16) (((y : Int) + 1) * 16) ((z : Int) + 1) with
      | false =>
        have HP : Hid (seqParse l = none) := HS.out none (fun h => by rw [hright] at h; cases h.2.1) (fun _ => rfl)
        go_wp2_with fail
        refine (synRight_no _ _ _ _ hright).mono ?_
        rintro e w9 ⟨rfl, m9⟩
        replace hq4 := hq4.keep m9 (fun h => h)
        replace M4 := M4.trans m9
        clear m9 hright
        obtain ⟨hcq, hfq⟩ := hq4.both
        have HQ := Lib.hid M4
        clear hq4 M4
        go_wp2_with fail
        refine bodyPost_ret (v := .tuple #[.agg #[.int .i64 0, .int .i64 0, .int .i64 0], .int .i64 121]) (by simp [results, Tryz.results126, go_sem, hcq]) rfl ⟨?_, .inl ⟨HP.out, rfl⟩⟩
        exact seq_mod3 HQ.out hqw _ _ _
      | true =>
        go_wp2_with fail
        refine (synRight_yes _ _ _ _ hright).mono ?_
        rintro e w9 ⟨rfl, m9⟩
        replace hq4 := hq4.keep m9 (fun h => h)
        replace M4 := M4.trans m9
        replace hr5 := hr5.keep m9 (fun h => h)
        replace hR5 := hR5.quiet m9
        replace hsb := hsb.keep m9 (fun h => h)
        clear hcr hfr hce hfe hcs hfs he5
        obtain ⟨hcr, hfr⟩ := hr5.both
        have HRT := Lib.hid hright
        clear m9 hright
        go_wp2_with fail
        refine (bitsAlign _ w0.heap.size g a3 l hR5).mono ?_
        rintro e w10 (⟨rfl, hal, hR6, m10⟩ | ⟨a4, hal, rfl, hR6, m10⟩)
        · have HP : Hid (seqParse l = none) := HS.out none (fun h => by rw [hal] at h; cases h.2.2) (fun _ => rfl)
          replace hq4 := hq4.keep m10 nq
          replace M4 := M4.into m10 (fun i e => .inr (by omega))
          clear m10 hR5 hR6 hcr hfr hr5 hal
          obtain ⟨hcq, hfq⟩ := hq4.both
          have HQ := Lib.hid M4
          clear hq4 M4
          go_wp2_with fail
          refine bodyPost_ret (v := .tuple #[.agg #[.int .i64 0, .int .i64 0, .int .i64 0], .int .i64 121]) (by simp [results, Tryz.results126, go_sem, hcq]) rfl ⟨?_, .inl ⟨HP.out, rfl⟩⟩
          exact seq_mod3 HQ.out hqw _ _ _
        · replace hq4 := hq4.keep m10 nq
          replace M4 := M4.into m10 (fun i e => .inr (by omega))
          replace hr5 := hr5.keep m10 nr
          obtain ⟨Ag2, cg2, hbg2, _⟩ := hR5.ex
          have nsg : ¬ sb = g := hsb.ne_ hbg2 (by decide)
          replace hsb := hsb.keep m10 nsg
          have ha4 := hR6.at_
          have HAL := Lib.hid hal
          clear hcr hfr hbg2 hR5 m10 hal
          obtain ⟨hcr, hfr⟩ := hr5.both
          by_cases hend : a4 = 8 * l.length
          · have HP : Hid (seqParse l = some (((x : Int) + 1) * 16, ((y : Int) + 1) * 16, (z : Int) + 1)) := HS.out _ (fun _ => rfl) (fun h => absurd ⟨HMK.out, HRT.out, by rw [HAL.out, hend]⟩ h)
            have e0 : ((8 * l.length - a4 : Nat) : Int) = 0 := by omega
            go_wp2_with fail
            refine (bitsLeft _ w0.heap.size g a4 l hR6).mono ?_
            rintro e w11 ⟨rfl, m, rfl⟩
            rw [e0]
            replace hq4 := hq4.drewN m
            replace M4 := M4.drewN m
            replace hsb := hsb.drewN m
            generalize w10.drewN m = w11 at *
            clear hR6 hcr hfr hr5 hend e0
            obtain ⟨hcs, hfs⟩ := hsb.both
            obtain ⟨hcq, hfq⟩ := hq4.both
            have HQ := Lib.hid M4
            clear hq4 M4 hsb
            go_wp2_with fail
            refine bodyPost_ret (v := .tuple #[.agg #[.int .i64 (((x : Int) + 1) * 16), .int .i64 (((y : Int) + 1) * 16), .int .i64 ((z : Int) + 1)], .int .i64 0]) (by simp [results, Tryz.results126, go_sem, hcq]) rfl ⟨?_, .inr ⟨_, _, _, HP.out, rfl⟩⟩
            exact seq_mod3 HQ.out hqw _ _ _
          · have HP : Hid (seqParse l = none) := HS.out none (fun h => by have := h.2.2; rw [HAL.out] at this; injection this with this; exact absurd this hend) (fun _ => rfl)
            have e0 : (((8 * l.length - a4 : Nat) : Int) != 0) = true := by simp; omega
            go_wp2_with fail
            refine (bitsLeft _ w0.heap.size g a4 l hR6).mono ?_
            rintro e w11 ⟨rfl, m, rfl⟩
            generalize ((8 * l.length - a4 : Nat) : Int) = left at *
            replace hq4 := hq4.drewN m
            replace M4 := M4.drewN m
            generalize w10.drewN m = w11 at *
            clear hR6 hcr hfr hr5 hend hsb
            obtain ⟨hcq, hfq⟩ := hq4.both
            have HQ := Lib.hid M4
            clear hq4 M4
            go_wp2_with fail
            refine bodyPost_ret (v := .tuple #[.agg #[.int .i64 0, .int .i64 0, .int .i64 0], .int .i64 121]) (by simp [results, Tryz.results126, go_sem, hcq]) rfl ⟨?_, .inl ⟨HP.out, rfl⟩⟩
            exact seq_mod3 HQ.out hqw _ _ _
    · have HP : Hid (seqParse l = none) := HS.out none (fun h => absurd h.1 hmark) (fun _ => rfl)
      have hmk : (((numAt l 0 16 : Nat) : Int) != 19273) = true := by simp; omega
      generalize ((numAt l 0 16 : Nat) : Int) = hd at *
      clear hmark hr5 hR5 hcr hfr hsb hcs hfs he5
      obtain ⟨hcq, hfq⟩ := hq4.both
      have HQ := Lib.hid M4
      clear hq4 M4
      go_wp2_with fail
      refine bodyPost_ret (v := .tuple #[.agg #[.int .i64 0, .int .i64 0, .int .i64 0], .int .i64 121]) (by simp [results, Tryz.results126, go_sem, hcq]) rfl ⟨?_, .inl ⟨HP.out, rfl⟩⟩
      exact seq_mod3 HQ.out hqw _ _ _
end Go.Proofs.YtmkopcojnibhlaaGreatDoor
