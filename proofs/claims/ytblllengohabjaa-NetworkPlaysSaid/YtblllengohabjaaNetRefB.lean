/-
  The reference's rest and bent.
-/
import Derived.Test.YtblllengohabjaaNetMore
import Derived.Deep.Cut
namespace Go.Proofs.Ytblllengohabjaa
open Go.RowKit

theorem rest_any (n m : Int) (w : World) (hn : -9223372036854775808 ≤ n ∧ n ≤ 9223372036854775807) (hm : 1 ≤ m) : Calls Try.prog 26 #[.int .i64 n, .int .i64 m] w fun e w' => e = .returned (.int .i64 (remN n m)) ∧ w = w' := by
  by_cases h : n < 0
  · have e : remN n m = (-(n + 1)) % m := by unfold remN; rw [if_pos h]
    rw [e, ← Int.tmod_eq_emod_of_nonneg (by omega), Int.neg_tmod]
    go_enter Try.func26, Try.ntmps26
    go_wp2
    go_ret
    exact ⟨rfl, rfl⟩
  · have e : remN n m = n % m := by unfold remN; rw [if_neg h]
    rw [e]
    have h' : 0 ≤ n := by omega
    go_enter Try.func26, Try.ntmps26
    go_wp2
    go_ret
    exact ⟨rfl, rfl⟩

set_option maxHeartbeats 2000000 in
theorem bent_any (w : World) (A : Option Addr) (n c : Nat) (l : List UInt8) (kind delay num : Int) (h : BytesIn w A n c l) (hn : n ≤ 1048576) (hnum : -9223372036854775808 ≤ num ∧ num ≤ 9223372036854775807) :
    Calls Try.prog 20 #[.slice A n c, .agg #[.int .i64 kind, .int .i64 delay, .int .i64 num]] w fun e w' => ∃ v, e = .returned v ∧ Bytes w' w.heap.size v (bentL l kind num) ∧ Mod (fun _ => False) w w' := by
  obtain ⟨i0, hi0, hz0, hz1, hz2⟩ := info_parts u8_info
  obtain rfl : l.length = n := h.1
  have hbox : Blk (w.alloc (.cells #[.int .i64 kind, .int .i64 delay, .int .i64 num] 37)) w.heap.size 37 #[.int .i64 kind, .int .i64 delay, .int .i64 num] := Blk.new _ _ _
  have M0 : Mod (fun _ => False) w (w.alloc (.cells #[.int .i64 kind, .int .i64 delay, .int .i64 num] 37)) := (Mod.refl _ _).alloc _
  have T0 : TMod w.heap.size netT w (w.alloc (.cells #[.int .i64 kind, .int .i64 delay, .int .i64 num] 37)) := .of_quiet M0
  have har := h.arg (T0.alloc (.cells #[] 5))
  have ho1 : ((w.alloc (.cells #[.int .i64 kind, .int .i64 delay, .int .i64 num] 37)).alloc (.cells #[] 5)).ownsRow w.heap.size 5 1 (.slice (some ⟨(w.alloc (.cells #[.int .i64 kind, .int .i64 delay, .int .i64 num] 37)).heap.size, 0, none⟩) 0 0) 0 [] := World.ownsRow_made _ #[] 0 (by simp) (by decide) rfl
  have hz : w.heap.size ≤ (w.alloc (.cells #[.int .i64 kind, .int .i64 delay, .int .i64 num] 37)).heap.size := by simp
  have x1 : 0 + l.length ≤ maxLen := by unfold maxLen; omega
  have x2 : (0 + l.length) * 1 ≤ 140737488355328 := by omega
  have x3 : w.heap.size ≤ ((w.alloc (.cells #[.int .i64 kind, .int .i64 delay, .int .i64 num] 37)).alloc (.cells #[] 5)).heap.size := by simp; omega
  clear h T0
  go_enter Try.func20, Try.ntmps20
  go_upto_region 1 with (fail)
  generalize w.alloc (.cells #[.int .i64 kind, .int .i64 delay, .int .i64 num] 37) = w1 at *
  have HX := Lib.hid (And.intro x1 (And.intro x2 (And.intro x3 (And.intro har ho1))))
  clear x1 x2 x3 har ho1
  go_upto_region 2 with (at_builtin; have _t := HX; refine wpList_append_src _ rfl (.tmp 7) (.tmp 8) _ rfl w.heap.size 5 i0 _ 1 1 Try.underlying29 hi0 hz0 hz1 hz2 rfl (by omega) (.slice (some ⟨w1.heap.size, 0, none⟩) 0 0) 0 [] rfl HX.out.2.2.2.2 A l.length c (u8s l) rfl HX.out.2.2.2.1.1.2.2.1 HX.out.2.2.2.1.1.2.1 (u8s_one l) HX.out.1 HX.out.2.1 HX.out.2.2.1 ?_; intro v1 w2 hown1 hg1 hat1; clear HX _t)
  have hbox2 : Blk w2 w.heap.size 37 #[.int .i64 kind, .int .i64 delay, .int .i64 num] := hbox.keep (((Mod.refl (fun _ => False) w1).alloc _).grown hg1 (fun k hk => .inr (by simp [Value.ownBlock] at hk; omega))) (fun h => h)
  have MM : Mod (fun _ => False) w w2 := M0.trans (((Mod.refl (fun _ => False) w1).alloc _).grown hg1 (fun k hk => .inr (by simp [Value.ownBlock] at hk; omega)))
  have hv : Bytes w2 w.heap.size v1 l := by
    unfold Bytes
    simpa using hown1
  obtain ⟨A2, c2, hA2⟩ := own_shape hv
  subst hA2
  have HV := Lib.hid hv
  obtain ⟨hc, hf⟩ := hbox2.both
  clear hown1 hg1 hat1 hv hbox hbox2 M0
  by_cases hl0 : l.length = 0
  · have hne : ((l.length : Int) == 0) = true := beq_iff_eq.2 (by omega)
    have hne2 : (l.length == 0) = true := beq_iff_eq.2 (by omega)
    have HB : Hid (bentL l kind num = l) := if_pos hl0
    clear hl0
    go_wp2_with fail
    go_ret
    exact ⟨_, rfl, by rw [HB.out]; exact HV.out, MM⟩
  · have hne : ((l.length : Int) == 0) = false := beq_eq_false_iff_ne.2 (by omega)
    have hne2 : (l.length == 0) = false := beq_eq_false_iff_ne.2 (by omega)
    have hl1 : 1 ≤ l.length := by omega
    obtain ⟨r, cap, hr, _, _⟩ := HV.out.form (by omega)
    injection hr with hr1 _ hr3
    subst hr1
    subst hr3
    have hcap : l.length ≤ c2 := by
      rcases HV.out.2 with ⟨hv, h0⟩ | ⟨_, _, _, hv, _, _, h, _⟩
      · omega
      · injection hv with _ _ h3; omega
    by_cases hk3 : kind = 3
    · have HB : Hid (bentL l kind num = l.take (remN num l.length).toNat) := by show _ = _; unfold bentL; rw [if_neg hl0, if_pos hk3]
      have k3 : (kind == 3) = true := beq_iff_eq.2 hk3
      clear hl0 hk3
      go_wp2_with fail
      refine (rest_any num _ _ hnum (by omega)).mono ?_
      rintro e w3 ⟨rfl, rfl⟩
      have hb := remN_bd num (l.length : Int) (by omega)
      generalize remN num (l.length : Int) = k at *
      obtain ⟨m, rfl⟩ := Int.eq_ofNat_of_zero_le hb.1
      rw [Int.toNat_natCast] at HB
      have hb2 : m < l.length := by omega
      have i1 : (0 : Int) ≤ (m : Int) := by omega
      have i2 : (m : Int) ≤ (c2 : Int) := by omega
      clear hb
      go_wp2_with fail
      go_ret
      exact ⟨_, rfl, by rw [HB.out]; exact HV.out.take m (by omega), MM⟩
    · have k3 : (kind == 3) = false := beq_eq_false_iff_ne.2 hk3
      by_cases hk4 : kind = 4
      · have HB : Hid (bentL l kind num = l.set (remN num (8 * (l.length : Int)) / 8).toNat (flip8 (l.getD (remN num (8 * (l.length : Int)) / 8).toNat 0) (remN num (8 * (l.length : Int)) % 8).toNat)) := by show _ = _; unfold bentL; rw [if_neg hl0, if_neg hk3, if_pos hk4]
        have k4 : (kind == 4) = true := beq_iff_eq.2 hk4
        clear hl0 hk3 hk4
        go_wp2_with fail
        refine (rest_any num _ _ hnum (by omega)).mono ?_
        rintro e w3 ⟨rfl, rfl⟩
        have hb := remN_bd num (8 * (l.length : Int)) (by omega)
        generalize remN num (8 * (l.length : Int)) = k at *
        obtain ⟨hb1, hb2⟩ := hb
        have hcl : ∀ i, i < l.length → w2.cell? ⟨r, i, none⟩ = some (.int .u8 ((l.getD i 0).toNat : Int)) := by
          intro i hi
          have := HV.out.cells (g := r) rfl i (.int .u8 ((l.getD i 0).toNat : Int)) (by simp [u8s, List.getD_eq_getElem?_getD, hi])
          rwa [addr_add] at this
        have hk8 : k / 8 < l.length := by omega
        obtain ⟨q, hq⟩ : ∃ q : Nat, k / 8 = (q : Int) := ⟨(k / 8).toNat, by omega⟩
        obtain ⟨m, hm⟩ : ∃ m : Nat, k % 8 = (m : Int) := ⟨(k % 8).toNat, by omega⟩
        have HB' : Hid (bentL l kind num = l.set q (flip8 (l.getD q 0) m)) := by have := HB.out; rw [hq, hm, Int.toNat_natCast, Int.toNat_natCast] at this; exact this
        have hql : q < l.length := by omega
        have hm8 : m < 8 := by omega
        have hcq := hcl q hql
        have hfl := flip8_val (l.getD q 0) m hm8
        generalize l.getD q 0 = x at *
        have hfr : ∀ o, w2.frozen? ⟨r, o, none⟩ = false := by
          rcases HV.out.2 with ⟨hv, h0⟩ | ⟨_, _, cur, hv, _, hh, _, _⟩
          · cases hv
          · injection hv with h1; injection h1 with h1; injection h1 with h1; subst h1
            exact fun o => Blk.frozen (cs := cur) hh o
        clear hcl HB
        go_wp2_with fail
        go_ret
        refine ⟨_, rfl, ?_, ?_⟩
        · rw [HB'.out]
          have h1 := (HV.out.stored q (.int .u8 ((flip8 x m).toNat : Int))).1
          have e : u8s (l.set q (flip8 x m)) = (u8s l).set q (.int .u8 ((flip8 x m).toNat : Int)) := by simp [u8s, List.map_set]
          unfold Bytes
          rw [e, List.length_set]
          exact h1
        · exact Mod.setCell MM (by exact .inr (by show w.heap.size ≤ r; omega)) _
      · have HB : Hid (bentL l kind num = l) := by show _ = _; unfold bentL; rw [if_neg hl0, if_neg hk3, if_neg hk4]
        have k4 : (kind == 4) = false := beq_eq_false_iff_ne.2 hk4
        clear hl0 hk3 hk4
        go_wp2_with fail
        go_ret
        exact ⟨_, rfl, by rw [HB.out]; exact HV.out, MM⟩
end Go.Proofs.Ytblllengohabjaa
