/-
  OriginRanges, walked.
-/
import Derived.Test.YtnnpoodcdibpiaaGreatDoorBOrBase
namespace Go.Proofs.YtnnpoodcdibpiaaGreatDoor
open Go.RowKit

theorem i64_and63 (n : Int) : bits .and .i64 n 63 = n % 64 := by
  have h15 : (BitVec.ofInt 64 63).toNat = 2 ^ 6 - 1 := by decide
  have key : (BitVec.ofInt 64 n &&& BitVec.ofInt 64 63).toNat = (n % ((2 ^ 64 : Nat) : Int)).toNat % 2 ^ 6 := by
    rw [BitVec.toNat_and, BitVec.toNat_ofInt, h15, Nat.and_two_pow_sub_one_eq_mod]
  show IntKind.i64.wrap ((BitVec.ofInt 64 n &&& BitVec.ofInt 64 63).toNat : Nat) = n % 64
  rw [key, IntKind.wrap_i64]
  omega
def kAB : List UInt8 := [97, 47, 98]
/-- A range of a file that is there. -/
theorem range_in {b : List UInt8} {id a k : Nat} (hid : id ≤ 1048575) (ha : a ≤ b.length) (hk : a ≤ k) :
    svR (fun q => ([(kAB, b)] : FsL).lookup q) (id : Int) kAB (a : Int) (k : Int) = (1, (a : Int), (b.length : Int), (b.drop a).take (min k b.length - a)) := by
  have hf : ([(kAB, b)] : FsL).lookup kAB = some b := rfl
  have hr : rangeOk b.length (a : Int) (k : Int) = true := by
    unfold rangeOk
    rw [show decide ((a : Int) < 0) = false from decide_eq_false (by omega), show decide ((b.length : Int) < (a : Int)) = false from decide_eq_false (by omega), show decide ((k : Int) < (a : Int)) = false from decide_eq_false (by omega)]
    simp
  have hl : rangeL b (a : Int) (k : Int) = (b.drop a).take (min k b.length - a) := by
    unfold rangeL rangeEnd
    rw [show (a : Int).toNat = a from rfl]
    congr 2
    by_cases h : (k : Int) < 0 ∨ (b.length : Int) < (k : Int)
    · rw [if_pos h]; omega
    · rw [if_neg h]; omega
  unfold svR
  rw [if_neg (fun h => h.elim (fun h => by omega) (fun h => h.elim (fun h => by omega) (fun h => absurd h (by decide))))]
  dsimp only
  rw [hf]
  dsimp only
  rw [hr, if_pos rfl, hl]
theorem range_rest {b : List UInt8} {a : Nat} (ha : a ≤ b.length) :
    svR (fun q => ([(kAB, b)] : FsL).lookup q) 0 kAB (a : Int) (-1) = (1, (a : Int), (b.length : Int), b.drop a) := by
  have hf : ([(kAB, b)] : FsL).lookup kAB = some b := rfl
  have hr : rangeOk b.length (a : Int) (-1) = true := by
    unfold rangeOk
    rw [show decide ((a : Int) < 0) = false from decide_eq_false (by omega), show decide ((b.length : Int) < (a : Int)) = false from decide_eq_false (by omega)]
    rfl
  have hl : rangeL b (a : Int) (-1) = b.drop a := by
    unfold rangeL rangeEnd
    rw [if_pos (.inl (by decide)), show (a : Int).toNat = a from rfl]
    exact List.take_of_length_le (by simp)
  unfold svR
  rw [if_neg (by decide)]
  dsimp only
  rw [hf]
  dsimp only
  rw [hr, if_pos rfl, hl]
theorem range_past {b : List UInt8} : svR (fun q => ([(kAB, b)] : FsL).lookup q) 0 kAB ((b.length : Int) + 1) (-1) = (3, 0, (b.length : Int), []) := by
  have hf : ([(kAB, b)] : FsL).lookup kAB = some b := rfl
  have hr : rangeOk b.length ((b.length : Int) + 1) (-1) = false := by
    unfold rangeOk
    rw [show decide ((b.length : Int) < (b.length : Int) + 1) = true from decide_eq_true (by omega)]
    simp
  unfold svR
  rw [if_neg (by decide)]
  dsimp only
  rw [hf]
  dsimp only
  rw [hr, if_neg (by decide)]
def RngRel (w : World) (b : List UInt8) (v6 v7 v8 : Value) (wr : World) : Prop :=
  ∃ i a : Nat, i ≤ 60 ∧ v8 = .int .i64 (i : Int) ∧ v6 = .int .i64 (a : Int) ∧ a ≤ b.length ∧ Bytes wr w.heap.size v7 (b.take a) ∧ Mod (fun _ => False) w wr
set_option maxRecDepth 100000 in
set_option maxHeartbeats 4000000 in
theorem originRanges_walk (w : World) (he : EnvP w) (hv : EnvW w) (A : Option Addr) (n c : Nat) (b : List UInt8) (hb : BytesIn w A n c b) (hn : n ≤ 9223372036854775807) (A2 : Option Addr) (m c2 : Nat) (ns : List Int) (hi : IntsIn w A2 m c2 ns) (hm : m ≤ 9223372036854775807) :
    Calls Tryz.prog 3 #[.slice A n c, .slice A2 m c2] w fun e w' => e = .returned (.bool true) ∧ Mod (fun _ => False) w w' := by
  obtain rfl : n = b.length := hb.1.symm
  have H0 := Lib.hid (And.intro he (And.intro hv (And.intro hb hi)))
  clear he hv hb hi
  cases d4 : decide ((400 : Int) < (b.length : Int)) with
  | true =>
    go_enter Tryz.func3, Tryz.ntmps3
    go_wp2_with fail
    refine (orNew w).mono ?_
    rintro e w1 ⟨ob, b0, rfl, _, _, _, hm1⟩
    go_wp2_with fail
    go_ret
    exact ⟨rfl, hm1⟩
  | false =>
    go_enter Tryz.func3, Tryz.ntmps3
    go_wp2_with fail
    refine (orNew w).mono ?_
    rintro e w1 ⟨ob, b0, rfl, ho, hob, hb0, hm1⟩
    have H1 := Lib.hid (And.intro ho (And.intro hob (And.intro hb0 hm1)))
    clear ho hob hb0 hm1
    go_wp2_with fail
    refine (orPut w1 ob b0 _ [] H1.out.1 kAB (by decide) A b.length c b (H0.out.2.2.1.quiet H1.out.2.2.2)).mono ?_
    rintro e w2 hpost
    cases hpl : putL [] kAB b with
    | none =>
      rw [hpl] at hpost
      obtain ⟨rfl, rfl⟩ := hpost
      have hn0 : b.length = 0 := by
        have h4 := of_decide_eq_false d4
        unfold putL at hpl
        split at hpl
        · cases hpl
        · rename_i hx
          have : ¬ (1 ≤ b.length ∧ b.length ≤ 1048576) := fun h => hx (by rw [show pathB kAB = true by decide, decide_eq_true h]; rfl)
          omega
      have d0 : decide ((b.length : Int) = 0) = true := decide_eq_true (by omega)
      have d1 : (b.length : Int) = 0 := by omega
      dsimp only []
      go_wp2_with fail
      refine (alive19 w1 (H0.out.1.quiet H1.out.2.2.2) (H0.out.2.1.quiet H1.out.2.2.2)).mono ?_
      rintro e w3 ⟨rfl, hm3⟩
      go_wp2_with fail
      refine (orPaths w3 ob b0 _ [] (H1.out.1.quiet hm3)).mono ?_
      rintro e w4 ⟨v4, rfl, hl4, hm4⟩
      obtain ⟨A4, c4, hv4⟩ := hl4.shape
      rw [upTxt_length] at hv4
      have hv4 : v4 = .slice A4 0 c4 := hv4
      subst hv4
      have HM := Lib.hid (H1.out.2.2.2.trans (hm3.trans hm4))
      clear hl4 hm3 hm4
      go_wp2_with fail
      go_ret
      exact ⟨rfl, HM.out⟩
    | some L' =>
      rw [hpl] at hpost
      obtain ⟨rfl, ⟨D', ho2⟩, hm2⟩ := hpost
      obtain ⟨hL, _, h1, _⟩ := putL_some hpl
      subst hL
      have hm2w : Mod (fun _ => False) w w2 := H1.out.2.2.2.into hm2 (fun i e => .inr (e ▸ H1.out.2.2.1))
      have ho2 : OrSt w2 ob b0 D' [(kAB, b)] := ho2
      have H2 := Lib.hid (And.intro ho2 (And.intro hm2w h1))
      clear ho2 hm2 hm2w hpl h1
      dsimp only []
      go_wp2_with fail
      have hlen : b.length ≤ 400 := by have := of_decide_eq_false d4; omega
      go_loopw [6, 7, 8] (RngRel w2 b) (fun _ _ i _ => 60 - (intOf i).toNat)
      case atStart => exact ⟨0, 0, by omega, rfl, rfl, Nat.zero_le _, World.ownsRow_nil _ _ _ _, Mod.refl _ _⟩
      case round =>
        obtain ⟨i, a, hi, rfl, rfl, ha, hby, hM⟩ := hrel
        rename World => wr
        obtain ⟨A7, c7, h7⟩ := own_shape hby
        have htk : (b.take a).length = a := by rw [List.length_take]; omega
        rw [htk] at h7
        subst h7
        have HK := Lib.hid (And.intro hby (And.intro hM htk))
        clear hby hM htk
        by_cases hgo : i < m ∧ i < 60 ∧ a < b.length
        · obtain ⟨h1, h2, h3⟩ := hgo
          have d1 : decide ((i : Int) < (m : Int)) = true := decide_eq_true (by omega)
          have d2 : decide ((i : Int) < 60) = true := decide_eq_true (by omega)
          have d3 : decide ((a : Int) < (b.length : Int)) = true := decide_eq_true (by omega)
          have hMw := H2.out.2.1.trans HK.out.2.1
          obtain ⟨pb, po, hA2, _, hpl⟩ := (H0.out.2.2.2.quiet hMw).place (by omega)
          subst hA2
          have k0 : wr.cell? ⟨pb, po + i, none⟩ = some (.int .i64 (ns.getD i 0)) := hpl i h1
          obtain ⟨x, hx⟩ : ∃ x, x = ns.getD i 0 := ⟨_, rfl⟩
          rw [← hx] at k0
          obtain ⟨q, hq, hq64⟩ : ∃ q : Nat, x % 64 = (q : Int) ∧ q < 64 := ⟨(x % 64).toNat, by omega, by omega⟩
          have hand : bits .and .i64 x 63 = (q : Int) := (i64_and63 x).trans hq
          have HM := Lib.hid hMw
          clear hMw hpl hx hq
          go_upto_region 12 with (fail)
          go_wp2_with fail
          refine (orServe wr ob b0 _ D' _ (H2.out.1.quiet HK.out.2.1).org (i : Int) kAB (by decide) (a : Int) ((a : Int) + 1 + (q : Int))).mono ?_
          rw [show (a : Int) + 1 + (q : Int) = ((a + 1 + q : Nat) : Int) by omega, range_in (b := b) (id := i) (a := a) (k := a + 1 + q) (by omega) (by omega) (by omega)]
          rintro e w4 ⟨hm4, u, rfl, hu⟩
          obtain ⟨Au, cu, hue⟩ := own_shape hu
          subst hue
          obtain ⟨P, hP⟩ : ∃ P, P = (b.drop a).take (min (a + 1 + q) b.length - a) := ⟨_, rfl⟩
          obtain ⟨N, hN⟩ : ∃ N, N = P.length := ⟨_, rfl⟩
          have hNe : N = min (a + 1 + q) b.length - a := by rw [hN, hP, List.length_take, List.length_drop]; omega
          have htk : b.take (a + N) = b.take a ++ P := by
            rw [hP, List.take_add, hNe]
          unfold rsV
          dsimp only [] at hu ⊢
          rw [← hP, ← hN] at hu ⊢
          have hb5 := Blk.new w4 33 #[.int .i64 (i : Int), .int .i64 1, .int .i64 (a : Int), .int .i64 (b.length : Int), .slice Au N cu]
          have hma : Mod (fun _ => False) w4 (w4.alloc (.cells #[.int .i64 (i : Int), .int .i64 1, .int .i64 (a : Int), .int .i64 (b.length : Int), .slice Au N cu] 33)) := (Mod.refl _ w4).alloc _
          have hsum : a + N ≤ b.length ∧ 1 ≤ N := by omega
          have d5 : min ((a : Int) + 1 + (q : Int)) (b.length : Int) - (a : Int) = (N : Int) := by omega
          have H5 := Lib.hid (And.intro (hu.quiet hma) (And.intro (hm4.trans hma) (And.intro hb5 (And.intro hN (And.intro htk hNe)))))
          clear hu hm4 hma hb5 hP hN htk hNe k0 hand
          go_upto_region 13 with (fail)
          obtain ⟨sb, hsb⟩ : ∃ sb, sb = w4.heap.size := ⟨_, rfl⟩
          rw [← hsb] at H5 ⊢
          clear hsb
          generalize w4.alloc (.cells #[.int .i64 (i : Int), .int .i64 1, .int .i64 (a : Int), .int .i64 (b.length : Int), .slice Au N cu] 33) = w5 at *
          have bc := H5.out.2.2.1.both.1
          have bl := H5.out.2.2.1.lt
          go_upto_region 15 with (fail)
          clear d5
          go_wp2_with (at_builtin; refine Hid.out ?_)
          refine Lib.hid ?_
          have hby5 : Bytes w5 w2.heap.size (.slice A7 a c7) (b.take a) := HK.out.1.quiet H5.out.2.1
          refine wpList_app_u8s w5 rfl (.tmp 103) (.tmp 105) rfl w2.heap.size (.slice A7 a c7) (b.take a) Au N cu P rfl rfl hby5 (Bytes.in_ H5.out.1) (Nat.le_trans HK.out.2.1.size H5.out.2.1.size) (by rw [HK.out.2.2]; omega) ?_
          intro v6 w6 hv6 hmo hM6 _
          have hs6 := H5.out.2.2.1.keep hmo (fun hk => own_ne_blk hby5 H5.out.2.2.1 (by decide) hk)
          rw [← H5.out.2.2.2.2.1] at hv6
          obtain ⟨A6, c6, he6⟩ := own_shape hv6
          have hl6 : (b.take (a + N)).length = a + N := by rw [List.length_take]; omega
          rw [hl6] at he6
          subst he6
          have hM6' := hM6 w2 (fun _ => False) (Nat.le_refl _) (HK.out.2.1.trans H5.out.2.1)
          have H6 := Lib.hid (And.intro hv6 hM6')
          clear hv6 hmo hM6 hM6' hby5 hl6 bc bl
          have bc := hs6.both.1
          have bl := hs6.lt
          clear hs6
          go_wp2_with fail
          go_roundw
          case rel => exact ⟨i + 1, a + N, by omega, by go_num, by go_num, hsum.1, H6.out.1, H6.out.2⟩
          case measure => simp [intOf]; omega
        · have hc : (¬ i < m ∧ decide ((i : Int) < (m : Int)) = false) ∨ (i < m ∧ decide ((i : Int) < (m : Int)) = true ∧ ¬ i < 60 ∧ decide ((i : Int) < 60) = false) ∨ (i < m ∧ decide ((i : Int) < (m : Int)) = true ∧ i < 60 ∧ decide ((i : Int) < 60) = true ∧ ¬ a < b.length ∧ decide ((a : Int) < (b.length : Int)) = false) := by
            by_cases h1 : i < m
            · by_cases h2 : i < 60
              · exact .inr (.inr ⟨h1, decide_eq_true (by omega), h2, decide_eq_true (by omega), by omega, decide_eq_false (by omega)⟩)
              · exact .inr (.inl ⟨h1, decide_eq_true (by omega), h2, decide_eq_false (by omega)⟩)
            · exact .inl ⟨h1, decide_eq_false (by omega)⟩
          rcases hc with ⟨n1, e1⟩ | ⟨n1, e1, n2, e2⟩ | ⟨n1, e1, n2, e2, n3, e3⟩ <;> (
          go_wp2_with fail
          refine (orServe wr ob b0 _ D' _ (H2.out.1.quiet HK.out.2.1).org 0 kAB (by decide) (a : Int) (-1)).mono ?_
          rw [range_rest (b := b) ha]
          rintro e w4 ⟨hm4, u, rfl, hu⟩
          obtain ⟨Au, cu, hue⟩ := own_shape hu
          subst hue
          unfold rsV
          dsimp only [] at hu ⊢
          obtain ⟨N, hN⟩ : ∃ N, N = (b.drop a).length := ⟨_, rfl⟩
          rw [← hN] at hu ⊢
          have hb5 := Blk.new w4 33 #[.int .i64 0, .int .i64 1, .int .i64 (a : Int), .int .i64 (b.length : Int), .slice Au N cu]
          have hma : Mod (fun _ => False) w4 (w4.alloc (.cells #[.int .i64 0, .int .i64 1, .int .i64 (a : Int), .int .i64 (b.length : Int), .slice Au N cu] 33)) := (Mod.refl _ w4).alloc _
          have H5 := Lib.hid (And.intro (hu.quiet hma) (And.intro (hm4.trans hma) (And.intro hb5 hN)))
          clear hu hm4 hma hb5 hN
          go_upto_region 18 with (fail)
          obtain ⟨sb, hsb⟩ : ∃ sb, sb = w4.heap.size := ⟨_, rfl⟩
          rw [← hsb] at H5 ⊢
          clear hsb
          generalize w4.alloc (.cells #[.int .i64 0, .int .i64 1, .int .i64 (a : Int), .int .i64 (b.length : Int), .slice Au N cu] 33) = w5 at *
          go_wp2_with fail
          refine (orServe w5 ob b0 _ D' _ ((H2.out.1.quiet HK.out.2.1).quiet H5.out.2.1).org 0 kAB (by decide) ((b.length : Int) + 1) (-1)).mono ?_
          rw [range_past (b := b)]
          rintro e w6 ⟨hm6, u2, rfl, hu2⟩
          obtain ⟨Av, cv, hve⟩ := own_shape hu2
          subst hve
          unfold rsV
          dsimp only [List.length_nil] at hu2 ⊢
          have hb7 := Blk.new w6 33 #[.int .i64 0, .int .i64 3, .int .i64 0, .int .i64 (b.length : Int), .slice Av 0 cv]
          have hma : Mod (fun _ => False) w6 (w6.alloc (.cells #[.int .i64 0, .int .i64 3, .int .i64 0, .int .i64 (b.length : Int), .slice Av 0 cv] 33)) := (Mod.refl _ w6).alloc _
          have H7 := Lib.hid (And.intro (hm6.trans hma) hb7)
          clear hm6 hma hb7 hu2
          go_upto_region 19 with (fail)
          obtain ⟨sb2, hsb2⟩ : ∃ sb2, sb2 = w6.heap.size := ⟨_, rfl⟩
          rw [← hsb2] at H7 ⊢
          clear hsb2
          generalize w6.alloc (.cells #[.int .i64 0, .int .i64 3, .int .i64 0, .int .i64 (b.length : Int), .slice Av 0 cv] 33) = w7 at *
          have HM7 := Lib.hid (H2.out.2.1.trans (HK.out.2.1.trans (H5.out.2.1.trans H7.out.1)))
          go_wp2_with fail
          refine (alive19 w7 (H0.out.1.quiet HM7.out) (H0.out.2.1.quiet HM7.out)).mono ?_
          rintro e w8 ⟨rfl, hm8⟩
          have hM8 := HM7.out.trans hm8
          have s1 : (convert 22 9 (.slice A7 a c7)).run Tryz.prog w8 = .ok (.string (strOf (b.take a))) w8 := str_bytes (HK.out.1.quiet (H5.out.2.1.trans (H7.out.1.trans hm8)))
          have s2 : (convert 22 9 (.slice Au N cu)).run Tryz.prog w8 = .ok (.string (strOf (b.drop a))) w8 := str_bytes (H5.out.1.quiet (H7.out.1.trans hm8))
          have s3 : (convert 22 9 (.slice A b.length c)).run Tryz.prog w8 = .ok (.string (strOf b)) w8 := str_src w8 A b.length c b rfl (H0.out.2.2.1.quiet hM8).2.2.1
          have z1 := strOf_size (b.take a)
          have z2 := strOf_size (b.drop a)
          have z3 : (b.take a).length ≤ 400 := by rw [List.length_take]; omega
          have z4 : (b.drop a).length ≤ 400 := by rw [List.length_drop]; omega
          have hb5 := H5.out.2.2.1.keep (H7.out.1.trans hm8) (fun h => h)
          have hb7 := H7.out.2.keep hm8 (fun h => h)
          have bc := hb5.both.1
          have bl := hb5.lt
          have bc2 := hb7.both.1
          have bl2 := hb7.lt
          have HM8 := Lib.hid hM8
          have hcat : strOf (b.take a) ++ strOf (b.drop a) = strOf b := by rw [strCat, List.take_append_drop]
          clear hm8 hM8 hb5 hb7
          go_wp2_with fail
          go_ret
          exact ⟨rfl, HM8.out⟩)
end Go.Proofs.YtnnpoodcdibpiaaGreatDoor
