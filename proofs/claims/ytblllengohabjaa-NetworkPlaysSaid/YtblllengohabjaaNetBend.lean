/-
  network.remainder, slices.Clone at bytes, network.bend.
-/
import Derived.Test.YtblllengohabjaaNetQueue
import Derived.BigRegion
import Derived.Deep.AppendLies
namespace Go.Proofs.Ytblllengohabjaa
open Go.RowKit



theorem u8_info : (Try.prog.info? 5).map (fun i => (i.zero, i.size, i.bytes)) = some (some (.int .u8 0), 1, 1) := by kernel_rfl

/-- The cells of bytes. -/
def u8s (l : List UInt8) : List Value := l.map fun b => .int .u8 (b.toNat : Int)
theorem u8s_one (l : List UInt8) : ∀ u ∈ u8s l, u.oneCell' = true := fun u hu => by
  obtain ⟨b, _, rfl⟩ := List.mem_map.1 hu
  rfl
theorem u8s_length (l : List UInt8) : (u8s l).length = l.length := by simp [u8s]

/-- The slice value v owns a row from B on that reads as the bytes l. -/
def Bytes (w : World) (B : Nat) (v : Value) (l : List UInt8) : Prop := w.ownsRow B 5 1 v l.length (u8s l)

/-- A slice '.slice A n c' reads as the bytes l. -/
def BytesIn (w : World) (A : Option Addr) (n c : Nat) (l : List UInt8) : Prop := l.length = n ∧ (A = none → c = 0) ∧ Src w 1 A n (u8s l) ∧ (0 < n → ∀ ad, A = some ad → ad.block < w.heap.size)

/-- One bit turned. -/
def flip8 (x : UInt8) (m : Nat) : UInt8 := x ^^^ UInt8.ofNat (2 ^ m)
theorem flip8_nat (x : UInt8) (m : Nat) (hm : m < 8) : (flip8 x m).toNat = x.toNat ^^^ 2 ^ m := by
  have h : 2 ^ m < 256 := Nat.lt_of_lt_of_le (Nat.pow_lt_pow_right (by omega) hm) (by omega)
  simp [flip8, UInt8.toNat_ofNat', Nat.mod_eq_of_lt h]
theorem flip8_val (x : UInt8) (m : Nat) (hm : m < 8) : bits .xor .u8 (x.toNat : Int) (2 ^ m % 256) = ((flip8 x m).toNat : Int) := by
  have h : 2 ^ m < 256 := Nat.lt_of_lt_of_le (Nat.pow_lt_pow_right (by omega) hm) (by omega)
  have e : (2 : Int) ^ m % 256 = ((2 ^ m : Nat) : Int) := by
    rw [Int.natCast_pow]
    refine Int.emod_eq_of_lt (by have := Int.natCast_nonneg (2 ^ m); rwa [Int.natCast_pow] at this) ?_
    have : ((2 ^ m : Nat) : Int) < 256 := by omega
    rwa [Int.natCast_pow] at this
  rw [e, u8_xor_nat _ _ (UInt8.toNat_lt x) h, flip8_nat x m hm]

def remN (n m : Int) : Int := (if n < 0 then -(n + 1) else n) % m
theorem remN_bd (n m : Int) (h : 1 ≤ m) : 0 ≤ remN n m ∧ remN n m < m := ⟨Int.emod_nonneg _ (by omega), Int.emod_lt_of_pos _ (by omega)⟩

theorem rem_any (n m : Int) (w : World) (hn : -9223372036854775808 ≤ n ∧ n ≤ 9223372036854775807) (hm : 1 ≤ m) : Calls Try.prog 25 #[.int .i64 n, .int .i64 m] w fun e w' => e = .returned (.int .i64 (remN n m)) ∧ w = w' := by
  by_cases h : n < 0
  · have e : remN n m = (-(n + 1)) % m := by unfold remN; rw [if_pos h]
    rw [e, ← Int.tmod_eq_emod_of_nonneg (by omega), Int.neg_tmod]
    go_enter Try.func25, Try.ntmps25
    go_wp2
    go_ret
    exact ⟨rfl, rfl⟩
  · have e : remN n m = n % m := by unfold remN; rw [if_neg h]
    rw [e]
    have h' : 0 ≤ n := by omega
    go_enter Try.func25, Try.ntmps25
    go_wp2
    go_ret
    exact ⟨rfl, rfl⟩

set_option maxHeartbeats 400000 in
theorem clone_any (w : World) (A : Option Addr) (n c : Nat) (l : List UInt8) (h : BytesIn w A n c l) (hn : n ≤ 1048576) :
    Calls Try.prog 24 #[.slice A n c] w fun e w' => ∃ v, e = .returned v ∧ Bytes w' w.heap.size v l ∧ Mod (fun _ => False) w w' := by
  obtain ⟨hl, hc0, hsrc, hlt⟩ := h
  obtain ⟨i0, hi0, hz0, hz1, hz2⟩ := info_parts u8_info
  have q : ∀ (w : World) (a : Option Addr) (n c n' c' : Nat), (binOp .eql 29 (.slice a n c) (.slice none n' c')).run Try.prog w = .ok (.bool a.isNone) w := fun w a n c n' c' => Lib.run_eql_slice_nil w _ _ a n c n' c' Try.underlying29
  cases A with
  | none =>
    obtain rfl := hc0 rfl
    obtain rfl := hsrc.2.1 rfl
    obtain rfl : l = [] := List.eq_nil_of_length_eq_zero hl
    go_enter Try.func24, Try.ntmps24
    go_wp2
    go_ret
    exact ⟨_, rfl, World.ownsRow_nil _ _ _ _, Mod.refl _ _⟩
  | some ad =>
    subst hl
    have hs1 : Src (w.alloc (.cells #[] 5)) 1 (some ad) l.length (u8s l) := hsrc.keep' fun h0 ad' e j => World.cell?_alloc_lt _ _ _ (by rw [addr_block]; exact hlt h0 ad' e)
    have ho1 : (w.alloc (.cells #[] 5)).ownsRow w.heap.size 5 1 (.slice (some ⟨w.heap.size, 0, none⟩) 0 0) 0 [] := World.ownsRow_made w #[] 0 (Nat.le_refl _) (by decide) rfl
    have x1 : 0 + l.length ≤ maxLen := by unfold maxLen; omega
    have x2 : (0 + l.length) * 1 ≤ 140737488355328 := by omega
    have x3 : w.heap.size ≤ (w.alloc (.cells #[] 5)).heap.size := by simp
    have HX := Lib.hid (And.intro x1 (And.intro x2 (And.intro x3 (And.intro hs1 ho1))))
    clear x1 x2 x3 hs1 ho1 hsrc hlt hc0
    go_enter Try.func24, Try.ntmps24
    go_wp2_with (at_builtin; have _t := HX; refine wpList_append_src _ rfl (.tmp 5) (.tmp 6) _ rfl w.heap.size 5 i0 _ 1 1 Try.underlying29 hi0 hz0 hz1 hz2 rfl (by omega) (.slice (some ⟨w.heap.size, 0, none⟩) 0 0) 0 [] rfl HX.out.2.2.2.2 (some ad) l.length c (u8s l) rfl HX.out.2.2.2.1 (fun h => by cases h) (u8s_one l) HX.out.1 HX.out.2.1 HX.out.2.2.1 ?_; intro v1 w1 hown1 hg1 hat1; clear HX _t)
    go_ret
    refine ⟨_, rfl, ?_, ((Mod.refl _ _).alloc _).grown hg1 (fun k hk => .inr (by simp [Value.ownBlock] at hk; omega))⟩
    simpa [Bytes] using hown1

def bentL (l : List UInt8) (kind n : Int) : List UInt8 :=
  if l.length = 0 then l
  else if kind = 3 then l.take (remN n l.length).toNat
  else if kind = 4 then l.set (remN n (8 * (l.length : Int)) / 8).toNat (flip8 (l.getD (remN n (8 * (l.length : Int)) / 8).toNat 0) (remN n (8 * (l.length : Int)) % 8).toNat)
  else l

theorem Bytes.take {w : World} {B r n c : Nat} {l : List UInt8} (h : Bytes w B (.slice (some ⟨r, 0, none⟩) n c) l) (m : Nat) (hm : m ≤ l.length) : Bytes w B (.slice (some ⟨r, 0, none⟩) m c) (l.take m) := by
  have hl : (l.take m).length = m := by rw [List.length_take]; omega
  refine ⟨by simp [u8s], ?_⟩
  rcases h.2 with ⟨hv, _⟩ | ⟨g, cap, cur, hv, hB, hg, hnc, hcm, hs, ht⟩
  · cases hv
  · obtain ⟨rfl, e2, rfl⟩ : r = g ∧ n = l.length ∧ c = cap := by injection hv with e1 e2 e3; injection e1 with e1; injection e1; exact ⟨by assumption, e2, e3⟩
    refine .inr ⟨r, c, cur, by rw [hl], hB, hg, by omega, hcm, hs, ?_⟩
    have e : u8s (l.take m) = (u8s l).take m := by simp [u8s, List.map_take]
    rw [hl, e, ← ht, List.take_take]
    simp
    omega

set_option maxHeartbeats 2000000 in
theorem bend_any (w : World) (A : Option Addr) (n c : Nat) (l : List UInt8) (kind delay num : Int) (h : BytesIn w A n c l) (hn : n ≤ 1048576) (hnum : -9223372036854775808 ≤ num ∧ num ≤ 9223372036854775807) :
    Calls Try.prog 19 #[.slice A n c, .agg #[.int .i64 kind, .int .i64 delay, .int .i64 num]] w fun e w' => ∃ v, e = .returned v ∧ Bytes w' w.heap.size v (bentL l kind num) ∧ Mod (fun _ => False) w w' := by
  have hin : BytesIn (w.alloc (.cells #[.int .i64 kind, .int .i64 delay, .int .i64 num] 31)) A n c l := ⟨h.1, h.2.1, h.2.2.1.keep' fun h0 ad e j => World.cell?_alloc_lt _ _ _ (by rw [addr_block]; exact h.2.2.2 h0 ad e), fun h0 ad e => by have := h.2.2.2 h0 ad e; simp; omega⟩
  have hbox : Blk (w.alloc (.cells #[.int .i64 kind, .int .i64 delay, .int .i64 num] 31)) w.heap.size 31 #[.int .i64 kind, .int .i64 delay, .int .i64 num] := Blk.new _ _ _
  have M0 : Mod (fun _ => False) w (w.alloc (.cells #[.int .i64 kind, .int .i64 delay, .int .i64 num] 31)) := (Mod.refl _ _).alloc _
  have hz : w.heap.size ≤ (w.alloc (.cells #[.int .i64 kind, .int .i64 delay, .int .i64 num] 31)).heap.size := by simp
  have hnl : n ≤ l.length ∧ l.length ≤ n := by have := h.1; omega
  clear h
  go_enter Try.func19, Try.ntmps19
  go_wp2_with fail
  generalize w.alloc (.cells #[.int .i64 kind, .int .i64 delay, .int .i64 num] 31) = w1 at *
  refine (clone_any w1 A n c l hin hn).mono ?_
  rintro e w2 ⟨v, rfl, hv, M2⟩
  obtain ⟨A2, c2, rfl⟩ := own_shape hv
  have hbox2 := hbox.keep M2 (fun h => h)
  obtain ⟨hc, hf⟩ := hbox2.both
  have hv' : Bytes w2 w.heap.size (.slice A2 l.length c2) l := ⟨hv.1, hv.2.imp id (fun ⟨g, cap, cur, h1, h2, h3⟩ => ⟨g, cap, cur, h1, by omega, h3⟩)⟩
  have HV := Lib.hid hv'
  have MM := M0.trans M2
  clear hv hv' hbox hbox2 hin M0 M2
  by_cases hl0 : l.length = 0
  · have hne : ((l.length : Int) == 0) = true := beq_iff_eq.2 (by omega)
    have hne2 : (l.length == 0) = true := beq_iff_eq.2 (by omega)
    have HB : Hid (bentL l kind num = l) := if_pos hl0
    clear hl0
    go_wp2_with fail
    go_ret
    exact ⟨_, rfl, by rw [HB.out]; exact HV.out, MM⟩
  · have hne : ((l.length : Int) == 0) = false := beq_eq_false_iff_ne.2 (by omega)
    have hne2 : (l.length == 0) = false := beq_eq_false_iff_ne.2 (by omega)
    have hl1 : 1 ≤ l.length := by omega
    obtain ⟨r, cap, hr, _, _⟩ := HV.out.form (by omega)
    injection hr with hr1 _ hr3
    subst hr1
    subst hr3
    have hcap : l.length ≤ c2 := by
      rcases HV.out.2 with ⟨hv, h0⟩ | ⟨_, _, _, hv, _, _, h, _⟩
      · omega
      · injection hv with _ _ h3; omega
    by_cases hk3 : kind = 3
    · have HB : Hid (bentL l kind num = l.take (remN num l.length).toNat) := by show _ = _; unfold bentL; rw [if_neg hl0, if_pos hk3]
      have k3 : (kind == 3) = true := beq_iff_eq.2 hk3
      clear hl0 hk3
      go_wp2_with fail
      refine (rem_any num _ _ hnum (by omega)).mono ?_
      rintro e w3 ⟨rfl, rfl⟩
      have hb := remN_bd num (l.length : Int) (by omega)
      generalize remN num (l.length : Int) = k at *
      obtain ⟨m, rfl⟩ := Int.eq_ofNat_of_zero_le hb.1
      rw [Int.toNat_natCast] at HB
      have hb2 : m < l.length := by omega
      have i1 : (0 : Int) ≤ (m : Int) := by omega
      have i2 : (m : Int) ≤ (c2 : Int) := by omega
      clear hb
      go_wp2_with fail
      go_ret
      exact ⟨_, rfl, by rw [HB.out]; exact HV.out.take m (by omega), MM⟩
    · have k3 : (kind == 3) = false := beq_eq_false_iff_ne.2 hk3
      by_cases hk4 : kind = 4
      · have HB : Hid (bentL l kind num = l.set (remN num (8 * (l.length : Int)) / 8).toNat (flip8 (l.getD (remN num (8 * (l.length : Int)) / 8).toNat 0) (remN num (8 * (l.length : Int)) % 8).toNat)) := by show _ = _; unfold bentL; rw [if_neg hl0, if_neg hk3, if_pos hk4]
        have k4 : (kind == 4) = true := beq_iff_eq.2 hk4
        clear hl0 hk3 hk4
        go_wp2_with fail
        refine (rem_any num _ _ hnum (by omega)).mono ?_
        rintro e w3 ⟨rfl, rfl⟩
        have hb := remN_bd num (8 * (l.length : Int)) (by omega)
        generalize remN num (8 * (l.length : Int)) = k at *
        obtain ⟨hb1, hb2⟩ := hb
        have hcl : ∀ i, i < l.length → w2.cell? ⟨r, i, none⟩ = some (.int .u8 ((l.getD i 0).toNat : Int)) := by
          intro i hi
          have := HV.out.cells (g := r) rfl i (.int .u8 ((l.getD i 0).toNat : Int)) (by simp [u8s, List.getD_eq_getElem?_getD, hi])
          rwa [addr_add] at this
        have hk8 : k / 8 < l.length := by omega
        obtain ⟨q, hq⟩ : ∃ q : Nat, k / 8 = (q : Int) := ⟨(k / 8).toNat, by omega⟩
        obtain ⟨m, hm⟩ : ∃ m : Nat, k % 8 = (m : Int) := ⟨(k % 8).toNat, by omega⟩
        have HB' : Hid (bentL l kind num = l.set q (flip8 (l.getD q 0) m)) := by have := HB.out; rw [hq, hm, Int.toNat_natCast, Int.toNat_natCast] at this; exact this
        have hql : q < l.length := by omega
        have hm8 : m < 8 := by omega
        have hcq := hcl q hql
        have hfl := flip8_val (l.getD q 0) m hm8
        generalize l.getD q 0 = x at *
        have hfr : ∀ o, w2.frozen? ⟨r, o, none⟩ = false := by
          rcases HV.out.2 with ⟨hv, h0⟩ | ⟨_, _, cur, hv, _, hh, _, _⟩
          · cases hv
          · injection hv with h1; injection h1 with h1; injection h1 with h1; subst h1
            exact fun o => Blk.frozen (cs := cur) hh o
        clear hcl HB
        go_wp2_with fail
        go_region
        go_wp2_with fail
        go_ret
        refine ⟨_, rfl, ?_, ?_⟩
        · rw [HB'.out]
          have h1 := (HV.out.stored q (.int .u8 ((flip8 x m).toNat : Int))).1
          have e : u8s (l.set q (flip8 x m)) = (u8s l).set q (.int .u8 ((flip8 x m).toNat : Int)) := by simp [u8s, List.map_set]
          unfold Bytes
          rw [e, List.length_set]
          exact own_mod h1 ((Mod.refl (fun _ => False) _).drew) (fun _ _ h => h)
        · exact (Mod.setCell MM (by exact .inr (by show w.heap.size ≤ r; omega)) _).drew
      · have HB : Hid (bentL l kind num = l) := by show _ = _; unfold bentL; rw [if_neg hl0, if_neg hk3, if_neg hk4]
        have k4 : (kind == 4) = false := beq_eq_false_iff_ne.2 hk4
        clear hl0 hk3 hk4
        go_wp2_with fail
        go_ret
        exact ⟨_, rfl, by rw [HB.out]; exact HV.out, MM⟩
end Go.Proofs.Ytblllengohabjaa
