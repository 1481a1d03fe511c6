/-
  A decoder's Frame of one byte.
-/
import Derived.Test.YteppnjgfebcmjaaGreatM15
import Derived.BigQuiet
import Derived.ProofKit
import Derived.OpenShut
import Derived.Lib.SmallJoins
namespace Go.Proofs.YteppnjgfebcmjaaGreat
open Go.RowKit

set_option maxRecDepth 100000 in
set_option maxHeartbeats 4000000 in
theorem built_short (w : World) (g : Nat) (K : Bool) (N Q : Int) (A : Option Addr) (n c : Nat) (h : n < 4) : Calls Tryz.prog 26 #[.pointer (some ⟨g, 0, none⟩), .agg #[.bool K, .int .i64 N, .int .i64 Q], .slice A n c] w fun e w' => e = .returned (.tuple #[.agg noFrame.toArray, .int .i64 41]) ∧ Mod (fun _ => False) w w' := by
  go_enter Tryz.func26, Tryz.ntmps26
  go_wp2_with fail
  refine (coderOpen_short _ A n c h).mono ?_
  rintro e w1 ⟨rfl, rfl⟩
  go_wp2_with fail
  exact bodyPost_ret (v := .tuple #[.agg noFrame.toArray, .int .i64 41]) (by simp [results, Tryz.results26, go_sem, noFrame]) rfl ⟨rfl, ((Mod.refl _ _).alloc _).alloc _⟩

set_option maxRecDepth 100000 in
set_option maxHeartbeats 4000000 in
theorem frame_short (w : World) (g : Nat) (fr : List Value) (hb : Blk w g 60 (decCells 16 16 4 0 fr)) (A : Option Addr) (c : Nat) (hin : BytesIn w A 1 c [192]) : Calls Tryz.prog 13 #[.pointer (some ⟨g, 0, none⟩), .slice A 1 c] w fun e w' => e = .returned (.tuple #[.agg noFrame.toArray, .int .i64 132]) ∧ Mod (fun _ => False) w w' := by
  have c0 : w.cell? ⟨g, 0, none⟩ = some (.int .i64 16) := hb.cell 0
  have c1 : w.cell? ⟨g, 1, none⟩ = some (.int .i64 16) := hb.cell 1
  have c2 : w.cell? ⟨g, 2, none⟩ = some (.int .i64 4) := hb.cell 2
  have hF : Blk (w.alloc (.cells noFrame.toArray 37)) w.heap.size 37 noFrame.toArray := Blk.new _ _ _
  have M0 : Mod (fun _ => False) w (w.alloc (.cells noFrame.toArray 37)) := (Mod.refl _ _).alloc _
  have p1 := parseHdr _ A 1 c [192] 16 16 4 (hin.quiet M0) (by omega)
  have hg := hb.lt
  clear hin hb
  unfold noFrame at *
  go_enter Tryz.func13, Tryz.ntmps13
  go_wp2_with fail
  refine p1.mono ?_
  clear p1
  rintro e w1 ⟨hm1, ⟨hnone, rfl⟩ | ⟨K, N, Q, a4, v, hsome, rfl, hv⟩⟩
  · rw [hdr4] at hnone
    cases hnone
  rw [hdr4] at hsome
  obtain ⟨⟨rfl, rfl, rfl⟩, rfl⟩ : (K = true ∧ 0 = N ∧ 0 = Q) ∧ 8 = a4 := by simpa using hsome
  have hF1 := hF.keep hm1 (fun h => h)
  have M1 := M0.trans hm1
  obtain ⟨A1, d1, rfl⟩ := own_shape hv
  have HH := Lib.hid (And.intro hF1 M1)
  clear hF hm1 M0 hsome hv hF1 M1 c0 c1 c2
  go_upto_region 6 with (fail)
  go_quiet (fail)
  go_wp2_with fail
  refine (built_short _ g true 0 0 A1 _ d1 (by simp)).mono ?_
  rintro e w3 ⟨rfl, hm3⟩
  have hF3 := Blk.keep ((HH.out.1.alloc _).drewN _) hm3 (fun h => h)
  have M3 := Mod.trans ((HH.out.2.alloc _).drewN _) hm3
  obtain ⟨hc, hf⟩ := hF3.both
  have hl := hF3.lt
  have HM := Lib.hid (And.intro hF3 M3)
  clear HH hm3 hF3 M3
  unfold noFrame
  go_wp2_with fail
  refine bodyPost_ret (v := .tuple #[.agg noFrame.toArray, .int .i64 132]) (by simp [results, Tryz.results13, go_sem, noFrame, hc, hl]) rfl ⟨rfl, ?_⟩
  have M3 := HM.out.2
  exact (by repeat' (first | with_reducible exact M3 | with_reducible refine Mod.alloc ?_ _ | with_reducible refine Mod.setCell ?_ ?_ _ | exact Or.inr (Nat.le_refl _)))
end Go.Proofs.YteppnjgfebcmjaaGreat

/-
  The live question of layer 13.
-/
namespace Go.Proofs.YteppnjgfebcmjaaGreat
open Go.RowKit

theorem IntsOwn.of_blk {w : World} {B g : Nat} {l : List Int} (hB : B ≤ g) (h : Blk w g 3 (i64s l).toArray) (hl : l.length ≤ maxLen) : IntsOwn w B (.slice (some ⟨g, 0, none⟩) l.length l.length) l :=
  ⟨by simp [i64s], .inr ⟨g, l.length, _, rfl, hB, h, Nat.le_refl _, hl, by simp [i64s], by rw [Nat.mul_one]; exact List.take_of_length_le (by simp [i64s])⟩⟩
def lv30 : List Int := 30 :: List.replicate 63 0
theorem build30 : buildL (List.replicate 64 0) lv30 0 = some (List.replicate 64 30) := by decide +kernel

set_option maxRecDepth 100000 in
set_option maxHeartbeats 4000000 in
theorem alive13 (w : World) : Calls Tryz.prog 10 #[] w fun e w' => e = .returned (.bool true) ∧ Mod (fun _ => False) w w' := by
  obtain ⟨i0, hi0, hz0, hz1, hz2⟩ := info_parts u8_info
  obtain ⟨i1, hi1, hy0, hy1, hy2⟩ := info_parts int_info
  have x1 : i0.bytes * 64 ≤ 281474976710656 := by rw [hz2]; omega
  have x2 : 64 ≤ maxLen := by unfold maxLen; omega
  have x3 : i1.bytes * 64 ≤ 281474976710656 := by rw [hy2]; omega
  have HX := Lib.hid (And.intro x1 (And.intro x2 x3))
  clear x1 x2 x3
  go_enter Tryz.func10, Tryz.ntmps10
  go_upto_region 2 with (refine wpList_make_full _ rfl (.const (.int .i64 64)) (.const (.int .i64 64)) _ rfl w.heap.size 5 i0 (.int .u8 0) 1 Tryz.underlying22 hi0 hz0 hz1 _ _ _ _ 64 rfl rfl rfl rfl HX.out.1 HX.out.2.1 (Nat.le_refl _) ?_; intro w4 hown4 hg4; have HO := Lib.hid (And.intro hown4 hg4); clear hown4 hg4)
  have M4 : Mod (fun _ => False) w w4 := (Mod.refl _ _).grown HO.out.2 (fun k hk => by cases hk)
  have G4 : Bytes w4 w.heap.size (.slice (some ⟨w.heap.size, 0, none⟩) 64 64) (List.replicate 64 0) := by
    have h := HO.out.1
    rw [Nat.mul_one, made_u8] at h
    exact h
  have HG := Lib.hid (And.intro M4 G4)
  clear M4 G4 HO
  go_upto_region 3 with (refine wpList_make_full _ rfl (.const (.int .i64 64)) (.const (.int .i64 64)) _ rfl w4.heap.size 3 i1 (.int .i64 0) 1 Tryz.underlying48 hi1 hy0 hy1 _ _ _ _ 64 rfl rfl rfl rfl HX.out.2.2 HX.out.2.1 (Nat.le_refl _) ?_; intro w5 hown5 hg5; have HO := Lib.hid (And.intro hown5 hg5); clear hown5 hg5)
  have m5 : Mod (fun _ => False) w4 w5 := (Mod.refl _ _).grown HO.out.2 (fun k hk => by cases hk)
  obtain ⟨hob, _⟩ := own_whole HO.out.1
  rw [Nat.mul_one, made_int] at hob
  obtain ⟨hc, hf⟩ := hob.both
  have c0 : w5.cell? ⟨w4.heap.size, 0, none⟩ = some (.int .i64 0) := by rw [hc]; rfl
  have f0 : w5.frozen? ⟨w4.heap.size, 0, none⟩ = false := hf 0
  have hl := hob.lt
  have hob' := hob.put (i := 0) (u := .int .i64 30) (cs' := (i64s lv30).toArray) (by rfl)
  have m6 : Mod (fun _ => False) w4 (w5.setCell ⟨w4.heap.size, 0, none⟩ (.int .i64 30)) := m5.setCell (.inr (Nat.le_refl _)) _
  have hin : BytesIn (w5.setCell ⟨w4.heap.size, 0, none⟩ (.int .i64 30)) (some ⟨w.heap.size, 0, none⟩) 64 64 (List.replicate 64 0) := HG.out.2.in_.quiet m6
  have hli : IntsIn (w5.setCell ⟨w4.heap.size, 0, none⟩ (.int .i64 30)) (some ⟨w4.heap.size, 0, none⟩) 64 64 lv30 := (IntsOwn.of_blk (Nat.zero_le _) hob' HX.out.2.1).in_
  have B1 := decBuild _ _ 64 64 _ _ 64 64 _ 0 hin hli (by omega) (by omega)
  have HM := Lib.hid (HG.out.1.trans m6)
  clear hc hf hob hob' m5 m6 hin hli HO HG
  go_wp2_with fail
  refine B1.mono ?_
  clear B1
  rintro e w6 ⟨hm6, ⟨hnone, rfl⟩ | ⟨v, bs, hsome, rfl, hv⟩⟩
  · rw [build30] at hnone
    cases hnone
  rw [build30] at hsome
  obtain rfl : List.replicate 64 30 = bs := by injection hsome
  obtain ⟨A1, d1, rfl⟩ := own_shape hv
  have HV := Lib.hid (And.intro (own_base hv HM.out.size) (HM.out.trans hm6))
  rw [List.length_replicate]
  clear hv hm6 HM hsome
  go_wp2_with fail
  refine (refSeq4 _).mono ?_
  rintro e w7 ⟨s7, rfl, hs7, hm7⟩
  obtain ⟨A7, d7, rfl⟩ := own_shape hs7
  have HS := Lib.hid (And.intro hs7 hm7)
  clear hs7 hm7
  go_wp2_with fail
  refine (decNew _ A7 _ d7 [75, 73, 200] HS.out.1.in_ (by simp)).mono ?_
  rintro e w8 ⟨hm8, ⟨hnone, rfl⟩ | ⟨W, H, G, g, hsome, rfl, hb8, hg8⟩⟩
  · rw [seq4] at hnone
    cases hnone
  rw [seq4] at hsome
  obtain ⟨rfl, rfl, rfl⟩ : 16 = W ∧ 16 = H ∧ 4 = G := by simpa using hsome
  have HB := Lib.hid (And.intro hb8 (And.intro hm8 (And.intro hg8 (HV.out.2.trans (HS.out.2.trans hm8)))))
  have hb9 : Bytes w8 w.heap.size (.slice A1 64 d1) (List.replicate 64 30) := own_mod HV.out.1 (HS.out.2.trans hm8) (fun _ _ h => h)
  obtain ⟨r, rfl, hd⟩ := hb9.some_ (by simp)
  have H9 := Lib.hid hb9
  have hl8 := hb8.lt
  clear hsome hb8 hm8 hg8 hb9
  go_upto_region 9 with (fail)
  have F9 := frame_short (w8.alloc (.cells #[.int .u8 192] 5)) g noFrame (HB.out.1.alloc _) (some ⟨w8.heap.size, 0, none⟩) 1 (Bytes.of_blk (l := [192]) (Nat.zero_le _) (Blk.new w8 5 #[.int .u8 192]) (by unfold maxLen; decide)).in_
  go_wp2_with fail
  refine F9.mono ?_
  clear F9
  rintro e w9 ⟨rfl, hm9⟩
  have M9 : Mod (fun _ => False) w8 w9 := ((Mod.refl _ _).alloc _).trans hm9
  have hc9 := own_mod H9.out M9 (fun _ _ h => h)
  have c0 : w9.cell? ⟨r, 0, none⟩ = some (.int .u8 30) := Bytes.cell hc9 0 (by simp)
  have c63 : w9.cell? ⟨r, 63, none⟩ = some (.int .u8 30) := Bytes.cell hc9 63 (by simp)
  have hb9 := HB.out.1.keep M9 (fun h => h)
  have hr : r < w9.heap.size := (Bytes.in_ hc9).2.2.2 (by omega) _ rfl
  have S9 := decSeq _ g 16 16 4 0 noFrame (hb9.alloc (.cells noFrame.toArray 37))
  have HK := Lib.hid (And.intro hb9 (HB.out.2.2.2.trans M9))
  clear hm9 M9 hc9 hb9
  unfold noFrame
  go_wp2_with fail
  refine S9.mono ?_
  clear S9
  rintro e w10 ⟨rfl, hm10⟩
  have N10 := decNext w10 g 16 16 4 0 noFrame ((HK.out.1.alloc _).keep hm10 (fun h => h))
  have HL := Lib.hid ((HK.out.2.alloc _).trans hm10)
  clear hm10
  have fk : ∀ w, (Instr.field 43 (.agg #[.int .i64 16, .int .i64 16, .int .i64 4]) 2).run Tryz.prog w = .ok (.int .i64 4) w := fun _ => by kernel_rfl
  go_wp2_with fail
  refine N10.mono ?_
  rintro e w11 ⟨rfl, rfl⟩
  go_wp2_with fail
  go_ret
  exact ⟨rfl, HL.out⟩
end Go.Proofs.YteppnjgfebcmjaaGreat

/-
  Arguments opened: bytes, ints.
-/
namespace Go.Proofs.YteppnjgfebcmjaaGreat
open Go.RowKit Go.ChangeShapes Go.WideShapes Go.ChangeAt Go.Joins

section
variable {H : Type} {enc : TypeId × Value → H} {w : World} {base : Nat} {held : Bool}

theorem u8_back (zs : List Int) (h : ∀ n ∈ zs, (Lit.int .u8 n).wf = true) : u8s (zs.map fun n => UInt8.ofNat n.toNat) = zs.map (Value.int .u8) := by
  unfold u8s
  rw [List.map_map]
  refine List.map_congr_left fun n hn => ?_
  have hb := bounds_u8 (h n hn)
  have e : ((UInt8.ofNat n.toNat).toNat : Int) = n := by
    rw [UInt8.toNat_ofNat', Nat.mod_eq_of_lt (by omega)]
    omega
  simp only [Function.comp, e]

/-- A []byte cell that came in. -/
theorem bytes_form {fuel : Nat} {v : Value} {x : DataW H × List MemPlace} (h : DataW.trod enc Tryz.prog w base (fun _ => true) held fuel 22 [v] = some x) :
    ∃ (A : Option Addr) (n c : Nat) (l : List UInt8), v = .slice A n c ∧ n ≤ maxLen ∧ BytesIn w A n c l := by
  rcases open_ints Tryz.underlying22 Tryz.underlying5 (by kernel_rfl) h with ⟨hcs, _⟩ | ⟨a, n, c, zs, hcs, _, hl, hm, hz, _, hcell, hwz⟩
  · injection hcs with hcs
    exact ⟨none, 0, 0, [], hcs, by decide, rfl, fun _ => rfl, Src.nil, fun h0 => absurd h0 (by omega)⟩
  · injection hcs with hcs
    have hz' : zs.length = c := by simpa using hz
    have hb := u8_back (zs.take n) (fun m hm => hwz m (List.mem_of_mem_take hm))
    refine ⟨some a, n, c, (zs.take n).map fun m => UInt8.ofNat m.toNat, hcs, by omega, ?_, (fun h => by cases h), ?_, fun h0 ad e => ?_⟩
    · simp; omega
    · rw [hb]
      refine ⟨by simp; omega, (fun h => by cases h), fun ad e j u hu => ?_⟩
      injection e with e
      subst e
      have hj : j < n := by
        have := (List.getElem?_eq_some_iff.1 hu).1
        simp at this
        omega
      have := hcell j (by omega)
      rw [this, ← hu]
      simp [List.getD_eq_getElem?_getD, hj, show j < zs.length by omega]
    · injection e with e
      subst e
      have := World.block_lt_of_cell? w _ (hcell 0 (by omega))
      rwa [addr_block] at this

theorem bytes_cap {fuel : Nat} {A : Option Addr} {n c : Nat} {x : DataW H × List MemPlace} (h : DataW.trod enc Tryz.prog w base (fun _ => true) held fuel 22 [.slice A n c] = some x) : n ≤ c := by
  rcases open_ints Tryz.underlying22 Tryz.underlying5 (by kernel_rfl) h with ⟨hcs, _⟩ | ⟨a, n', c', zs, hcs, _, hl, _⟩
  · injection hcs with hcs
    injection hcs with _ e2 e3
    omega
  · injection hcs with hcs
    injection hcs with _ e2 e3
    omega
/-- A []int cell that came in. -/
theorem ints_form {fuel : Nat} {v : Value} {x : DataW H × List MemPlace} (h : DataW.trod enc Tryz.prog w base (fun _ => true) held fuel 48 [v] = some x) :
    ∃ (A : Option Addr) (n c : Nat) (l : List Int), v = .slice A n c ∧ n ≤ maxLen ∧ IntsIn w A n c l ∧ (∀ x ∈ l, -9223372036854775808 ≤ x ∧ x ≤ 9223372036854775807) := by
  rcases open_ints Tryz.underlying48 Tryz.underlying3 (by kernel_rfl) h with ⟨hcs, _⟩ | ⟨a, n, c, zs, hcs, _, hl, hm, hz, _, hcell, hwz⟩
  · injection hcs with hcs
    exact ⟨none, 0, 0, [], hcs, by decide, ⟨rfl, fun _ => rfl, Src.nil, fun h0 => absurd h0 (by omega)⟩, fun _ h => by cases h⟩
  · injection hcs with hcs
    have hz' : zs.length = c := by simpa using hz
    refine ⟨some a, n, c, zs.take n, hcs, by omega, ⟨?_, (fun h => by cases h), ?_, fun h0 ad e => ?_⟩, fun x hx => bounds_i64 (hwz x (List.mem_of_mem_take hx))⟩
    · simp; omega
    · refine ⟨by simp [i64s]; omega, (fun h => by cases h), fun ad e j u hu => ?_⟩
      injection e with e
      subst e
      have hj : j < n := by
        have := (List.getElem?_eq_some_iff.1 hu).1
        simp [i64s] at this
        omega
      have := hcell j (by omega)
      rw [this, ← hu]
      simp [i64s, List.getD_eq_getElem?_getD, hj, show j < zs.length by omega]
    · injection e with e
      subst e
      have := World.block_lt_of_cell? w _ (hcell 0 (by omega))
      rwa [addr_block] at this
end
end Go.Proofs.YteppnjgfebcmjaaGreat
