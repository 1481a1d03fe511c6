/-
  The live question of layer 13.
-/
import Derived.Test.YteppnjgfebcmjaaGreatDecShort
namespace Go.Proofs.YteppnjgfebcmjaaGreat
open Go.RowKit

theorem IntsOwn.of_blk {w : World} {B g : Nat} {l : List Int} (hB : B ≤ g) (h : Blk w g 3 (i64s l).toArray) (hl : l.length ≤ maxLen) : IntsOwn w B (.slice (some ⟨g, 0, none⟩) l.length l.length) l :=
  ⟨by simp [i64s], .inr ⟨g, l.length, _, rfl, hB, h, Nat.le_refl _, hl, by simp [i64s], by rw [Nat.mul_one]; exact List.take_of_length_le (by simp [i64s])⟩⟩
def lv30 : List Int := 30 :: List.replicate 63 0
theorem build30 : buildL (List.replicate 64 0) lv30 0 = some (List.replicate 64 30) := by decide +kernel

set_option maxRecDepth 100000 in
set_option maxHeartbeats 4000000 in
theorem alive13 (w : World) : Calls Tryz.prog 10 #[] w fun e w' => e = .returned (.bool true) ∧ Mod (fun _ => False) w w' := by
  obtain ⟨i0, hi0, hz0, hz1, hz2⟩ := info_parts u8_info
  obtain ⟨i1, hi1, hy0, hy1, hy2⟩ := info_parts int_info
  have x1 : i0.bytes * 64 ≤ 281474976710656 := by rw [hz2]; omega
  have x2 : 64 ≤ maxLen := by unfold maxLen; omega
  have x3 : i1.bytes * 64 ≤ 281474976710656 := by rw [hy2]; omega
  have HX := Lib.hid (And.intro x1 (And.intro x2 x3))
  clear x1 x2 x3
  go_enter Tryz.func10, Tryz.ntmps10
  go_upto_region 2 with (refine wpList_make_full _ rfl (.const (.int .i64 64)) (.const (.int .i64 64)) _ rfl w.heap.size 5 i0 (.int .u8 0) 1 Tryz.underlying22 hi0 hz0 hz1 _ _ _ _ 64 rfl rfl rfl rfl HX.out.1 HX.out.2.1 (Nat.le_refl _) ?_; intro w4 hown4 hg4; have HO := Lib.hid (And.intro hown4 hg4); clear hown4 hg4)
  have M4 : Mod (fun _ => False) w w4 := (Mod.refl _ _).grown HO.out.2 (fun k hk => by cases hk)
  have G4 : Bytes w4 w.heap.size (.slice (some ⟨w.heap.size, 0, none⟩) 64 64) (List.replicate 64 0) := by
    have h := HO.out.1
    rw [Nat.mul_one, made_u8] at h
    exact h
  have HG := Lib.hid (And.intro M4 G4)
  clear M4 G4 HO
  go_upto_region 3 with (refine wpList_make_full _ rfl (.const (.int .i64 64)) (.const (.int .i64 64)) _ rfl w4.heap.size 3 i1 (.int .i64 0) 1 Tryz.underlying48 hi1 hy0 hy1 _ _ _ _ 64 rfl rfl rfl rfl HX.out.2.2 HX.out.2.1 (Nat.le_refl _) ?_; intro w5 hown5 hg5; have HO := Lib.hid (And.intro hown5 hg5); clear hown5 hg5)
  have m5 : Mod (fun _ => False) w4 w5 := (Mod.refl _ _).grown HO.out.2 (fun k hk => by cases hk)
  obtain ⟨hob, _⟩ := own_whole HO.out.1
  rw [Nat.mul_one, made_int] at hob
  obtain ⟨hc, hf⟩ := hob.both
  have c0 : w5.cell? ⟨w4.heap.size, 0, none⟩ = some (.int .i64 0) := by rw [hc]; rfl
  have f0 : w5.frozen? ⟨w4.heap.size, 0, none⟩ = false := hf 0
  have hl := hob.lt
  have hob' := hob.put (i := 0) (u := .int .i64 30) (cs' := (i64s lv30).toArray) (by rfl)
  have m6 : Mod (fun _ => False) w4 (w5.setCell ⟨w4.heap.size, 0, none⟩ (.int .i64 30)) := m5.setCell (.inr (Nat.le_refl _)) _
  have hin : BytesIn (w5.setCell ⟨w4.heap.size, 0, none⟩ (.int .i64 30)) (some ⟨w.heap.size, 0, none⟩) 64 64 (List.replicate 64 0) := HG.out.2.in_.quiet m6
  have hli : IntsIn (w5.setCell ⟨w4.heap.size, 0, none⟩ (.int .i64 30)) (some ⟨w4.heap.size, 0, none⟩) 64 64 lv30 := (IntsOwn.of_blk (Nat.zero_le _) hob' HX.out.2.1).in_
  have B1 := decBuild _ _ 64 64 _ _ 64 64 _ 0 hin hli (by omega) (by omega)
  have HM := Lib.hid (HG.out.1.trans m6)
  clear hc hf hob hob' m5 m6 hin hli HO HG
  go_wp2_with fail
  refine B1.mono ?_
  clear B1
  rintro e w6 ⟨hm6, ⟨hnone, rfl⟩ | ⟨v, bs, hsome, rfl, hv⟩⟩
  · rw [build30] at hnone
    cases hnone
  rw [build30] at hsome
  obtain rfl : List.replicate 64 30 = bs := by injection hsome
  obtain ⟨A1, d1, rfl⟩ := own_shape hv
  have HV := Lib.hid (And.intro (own_base hv HM.out.size) (HM.out.trans hm6))
  rw [List.length_replicate]
  clear hv hm6 HM hsome
  go_wp2_with fail
  refine (refSeq4 _).mono ?_
  rintro e w7 ⟨s7, rfl, hs7, hm7⟩
  obtain ⟨A7, d7, rfl⟩ := own_shape hs7
  have HS := Lib.hid (And.intro hs7 hm7)
  clear hs7 hm7
  go_wp2_with fail
  refine (decNew _ A7 _ d7 [75, 73, 200] HS.out.1.in_ (by simp)).mono ?_
  rintro e w8 ⟨hm8, ⟨hnone, rfl⟩ | ⟨W, H, G, g, hsome, rfl, hb8, hg8⟩⟩
  · rw [seq4] at hnone
    cases hnone
  rw [seq4] at hsome
  obtain ⟨rfl, rfl, rfl⟩ : 16 = W ∧ 16 = H ∧ 4 = G := by simpa using hsome
  have HB := Lib.hid (And.intro hb8 (And.intro hm8 (And.intro hg8 (HV.out.2.trans (HS.out.2.trans hm8)))))
  have hb9 : Bytes w8 w.heap.size (.slice A1 64 d1) (List.replicate 64 30) := own_mod HV.out.1 (HS.out.2.trans hm8) (fun _ _ h => h)
  obtain ⟨r, rfl, hd⟩ := hb9.some_ (by simp)
  have H9 := Lib.hid hb9
  have hl8 := hb8.lt
  clear hsome hb8 hm8 hg8 hb9
  go_upto_region 9 with (fail)
  have F9 := frame_short (w8.alloc (.cells #[.int .u8 192] 5)) g noFrame (HB.out.1.alloc _) (some ⟨w8.heap.size, 0, none⟩) 1 (Bytes.of_blk (l := [192]) (Nat.zero_le _) (Blk.new w8 5 #[.int .u8 192]) (by unfold maxLen; decide)).in_
  go_wp2_with fail
  refine F9.mono ?_
  clear F9
  rintro e w9 ⟨rfl, hm9⟩
  have M9 : Mod (fun _ => False) w8 w9 := ((Mod.refl _ _).alloc _).trans hm9
  have hc9 := own_mod H9.out M9 (fun _ _ h => h)
  have c0 : w9.cell? ⟨r, 0, none⟩ = some (.int .u8 30) := Bytes.cell hc9 0 (by simp)
  have c63 : w9.cell? ⟨r, 63, none⟩ = some (.int .u8 30) := Bytes.cell hc9 63 (by simp)
  have hb9 := HB.out.1.keep M9 (fun h => h)
  have hr : r < w9.heap.size := (Bytes.in_ hc9).2.2.2 (by omega) _ rfl
  have S9 := decSeq _ g 16 16 4 0 noFrame (hb9.alloc (.cells noFrame.toArray 37))
  have HK := Lib.hid (And.intro hb9 (HB.out.2.2.2.trans M9))
  clear hm9 M9 hc9 hb9
  unfold noFrame
  go_wp2_with fail
  refine S9.mono ?_
  clear S9
  rintro e w10 ⟨rfl, hm10⟩
  have N10 := decNext w10 g 16 16 4 0 noFrame ((HK.out.1.alloc _).keep hm10 (fun h => h))
  have HL := Lib.hid ((HK.out.2.alloc _).trans hm10)
  clear hm10
  have fk : ∀ w, (Instr.field 43 (.agg #[.int .i64 16, .int .i64 16, .int .i64 4]) 2).run Tryz.prog w = .ok (.int .i64 4) w := fun _ => by kernel_rfl
  go_wp2_with fail
  refine N10.mono ?_
  rintro e w11 ⟨rfl, rfl⟩
  go_wp2_with fail
  go_ret
  exact ⟨rfl, HL.out⟩
end Go.Proofs.YteppnjgfebcmjaaGreat
