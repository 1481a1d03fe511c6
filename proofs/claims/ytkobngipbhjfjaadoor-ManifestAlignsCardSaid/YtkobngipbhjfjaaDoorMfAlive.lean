/-
  The statements' live question.
-/
import Derived.Test.YtkobngipbhjfjaaDoorMfParse
import Derived.Test.YtkobngipbhjfjaaDoorMfAlign
import Derived.Test.YtkobngipbhjfjaaDoorMfTotal
namespace Go.Proofs.YtkobngipbhjfjaaDoor
open Go.RowKit

def smallP : Pc := ⟨4, 99, [104, 105, 47, 48]⟩
def smallL : Ls := ⟨[104, 105], 32, 16, 900, ⟨0, 41, [104, 105, 47, 105, 110, 105, 116]⟩, [smallP]⟩
def smallM : Mf := ⟨30, 1, [smallL]⟩
theorem small_right : rightB smallM = true := by decide
theorem small_align : alignO smallM = 0 := by decide
theorem small_total : totL smallL.pieces = 4 := by
  show wrap64 (0 + (if (0 : Int) < 4 then 4 else 0)) = 4
  rw [if_pos (by decide)]
  exact IntWalk.wrap64_in _ ⟨by decide, by decide⟩
def smallS : Str := [107, 105, 110, 111, 114, 97, 32, 49, 10, 115, 99, 97, 108, 101, 32, 51, 48, 32, 116, 105, 99, 107, 32, 49, 10, 114, 101, 110, 100, 105, 116, 105, 111, 110, 32, 104, 105, 32, 51, 50, 32, 49, 54, 32, 57, 48, 48, 10, 105, 110, 105, 116, 32, 52, 49, 32, 104, 105, 47, 105, 110, 105, 116, 10, 112, 105, 101, 99, 101, 32, 52, 32, 57, 57, 32, 104, 105, 47, 48, 10, 101, 110, 100, 10]
theorem dec1 {n : Nat} (h : n < 10) : Lib.decDigits n = [UInt8.ofNat (48 + n)] := by
  rw [Lib.decDigits, dif_pos h]
theorem dec2 {n : Nat} (h : ¬ n < 10) : Lib.decDigits n = Lib.decDigits (n / 10) ++ [UInt8.ofNat (48 + n % 10)] := by
  rw [Lib.decDigits, dif_neg h]
theorem small_write : writeL smallM = smallS := by
  have d30 : dec 30 = [51, 48] := by show Lib.decDigits 30 = _; rw [dec2 (by decide), dec1 (by decide)]; rfl
  have d1 : dec 1 = [49] := by show Lib.decDigits 1 = _; rw [dec1 (by decide)]; rfl
  have d32 : dec 32 = [51, 50] := by show Lib.decDigits 32 = _; rw [dec2 (by decide), dec1 (by decide)]; rfl
  have d16 : dec 16 = [49, 54] := by show Lib.decDigits 16 = _; rw [dec2 (by decide), dec1 (by decide)]; rfl
  have d900 : dec 900 = [57, 48, 48] := by show Lib.decDigits 900 = _; rw [dec2 (by decide), dec2 (by decide), dec1 (by decide)]; rfl
  have d41 : dec 41 = [52, 49] := by show Lib.decDigits 41 = _; rw [dec2 (by decide), dec1 (by decide)]; rfl
  have d4 : dec 4 = [52] := by show Lib.decDigits 4 = _; rw [dec1 (by decide)]; rfl
  have d99 : dec 99 = [57, 57] := by show Lib.decDigits 99 = _; rw [dec2 (by decide), dec1 (by decide)]; rfl
  simp only [writeL, linesM, linesR, linesP, smallM, smallL, smallP, List.flatMap_cons, List.flatMap_nil, List.map_cons, List.map_nil, d30, d1, d32, d16, d900, d41, d4, d99, List.append_nil]
  rfl
theorem small_parse : parseO numP smallS = some smallM := by
  rw [← small_write]
  exact parse_write numP_spells small_right
theorem small_in {W : World} {p l : Nat} (hp : Blk W p 32 (pcV smallP).toArray) (hl : Blk W l 35 (lsV smallL (some ⟨p, 0, none⟩) 1 1).toArray) : MfIn W (some ⟨l, 0, none⟩) 1 smallM := by
  have hpok : smallP.Ok := ⟨⟨by decide, by decide⟩, ⟨by decide, by decide⟩, by decide⟩
  refine ⟨⟨⟨by decide, by decide⟩, ⟨by decide, by decide⟩, by decide⟩, rfl, fun i x hx => ?_⟩
  match i, hx with
  | 0, hx =>
    injection hx with hx
    subst hx
    refine ⟨l, 0, some ⟨p, 0, none⟩, 1, 1, rfl, hl.lt, ?_, ⟨by decide, ⟨by decide, by decide⟩, ⟨by decide, by decide⟩, ⟨by decide, by decide⟩, ⟨⟨by decide, by decide⟩, ⟨by decide, by decide⟩, by decide⟩, by decide⟩, rfl, fun y hy => ?_, fun j y hy => ?_⟩
    · intro j v hv
      rw [Nat.zero_mul, Nat.add_zero, Nat.zero_add, hl.cell, List.getElem?_toArray]
      exact hv
    · have : y ∈ [smallP] := hy
      rw [List.mem_singleton] at this
      subst this
      exact hpok
    · match j, hy with
      | 0, hy =>
        injection hy with hy
        subst hy
        exact ⟨p, 0, rfl, hp.lt, hp.cell 0, hp.cell 1, hp.cell 2⟩
set_option maxRecDepth 100000 in
set_option maxHeartbeats 4000000 in
theorem pSmall (w : World) : Calls Tryd.prog 23 #[] w fun e w' => ∃ A, e = .returned (.agg (mfV smallM A 1 1).toArray) ∧ MfIn w' A 1 smallM ∧ Mod (fun _ => False) w w' := by
  go_enter Tryd.func23, Tryd.ntmps23
  go_wp2_with fail
  have hr := ((Blk.new w 24 #[.int .i64 30, .int .i64 1, .slice (some ⟨w.heap.size + 1 + 1, 0, none⟩) 1 1]).alloc (.cells (pcV smallP).toArray 32)).alloc (.cells (lsV smallL (some ⟨w.heap.size + 1, 0, none⟩) 1 1).toArray 35)
  have hp := (Blk.new (w.alloc (.cells #[.int .i64 30, .int .i64 1, .slice (some ⟨w.heap.size + 1 + 1, 0, none⟩) 1 1] 24)) 32 (pcV smallP).toArray).alloc (.cells (lsV smallL (some ⟨w.heap.size + 1, 0, none⟩) 1 1).toArray 35)
  have hl := Blk.new ((w.alloc (.cells #[.int .i64 30, .int .i64 1, .slice (some ⟨w.heap.size + 1 + 1, 0, none⟩) 1 1] 24)).alloc (.cells (pcV smallP).toArray 32)) 35 (lsV smallL (some ⟨w.heap.size + 1, 0, none⟩) 1 1).toArray
  rw [World.size_alloc] at hp
  rw [World.size_alloc, World.size_alloc] at hl
  have hin := small_in hp hl
  exact bodyPost_ret (v := .agg (mfV smallM (some ⟨w.heap.size + 1 + 1, 0, none⟩) 1 1).toArray) (results_cell_row rfl _ _ w.heap.size 24 _ (0, 0) _ rfl hr Tryd.underlying24 rfl (by kernel_rfl)) rfl ⟨_, rfl, hin, (((Mod.refl (fun _ => False) w).alloc _).alloc _).alloc _⟩
set_option maxRecDepth 100000 in
set_option maxHeartbeats 4000000 in
theorem pAlive (w : World) (he : Env w) : Calls Tryd.prog 10 #[] w fun e w' => e = .returned (.bool true) ∧ Mod (fun _ => False) w w' := by
  go_enter Tryd.func10, Tryd.ntmps10
  go_wp2_with fail
  refine (pSmall _).mono ?_
  rintro e w1 ⟨A, rfl, hin1, hm1⟩
  unfold mfV smallM
  go_wp2_with fail
  have mA : Mod (fun _ => False) w1 (w1.alloc (.cells #[.int .i64 30, .int .i64 1, .slice A 1 1] 24)) := (Mod.refl _ w1).alloc _
  refine (pWrite _ smallM A 1 1 (hin1.quiet mA) (he.quiet (hm1.trans mA))).mono ?_
  rintro e w2 ⟨rfl, hm2⟩
  rw [show writeOut smallM = #[.string (strOf smallS), .int .i64 0] from by unfold writeOut; rw [if_pos small_right, small_write]]
  have hin2 := (hin1.quiet mA).quiet hm2
  have hM2 := (hm1.trans mA).trans hm2
  have hb2 := (Blk.new w1 24 #[.int .i64 30, .int .i64 1, .slice A 1 1]).keep hm2 (fun h => h)
  have H2 := Lib.hid (And.intro hin2 (And.intro hM2 hb2))
  clear hin1 hm1 mA hm2 hin2 hM2 hb2
  go_wp2_with fail
  refine (pParse _ smallS (by decide) (he.quiet H2.out.2.1)).mono ?_
  rintro e w3 ⟨hm3, h3⟩
  rcases h3 with ⟨h3, _⟩ | ⟨m, A3, n3, c3, h3, rfl, hin3⟩
  · rw [small_parse] at h3
    cases h3
  rw [small_parse] at h3
  injection h3 with h3
  subst h3
  have hin2 := H2.out.1.quiet hm3
  have hM3 := H2.out.2.1.trans hm3
  have hb3 := H2.out.2.2.keep hm3 (fun h => h)
  have hbx : Blk (w3.alloc (.cells (mfV smallM A3 n3 c3).toArray 24)) w3.heap.size 24 (mfV smallM A3 n3 c3).toArray := Blk.new _ _ _
  have hbm := hb3.alloc (.cells (mfV smallM A3 n3 c3).toArray 24)
  have mA : Mod (fun _ => False) w3 (w3.alloc (.cells (mfV smallM A3 n3 c3).toArray 24)) := (Mod.refl _ w3).alloc _
  have hse : (strOf smallS).toList = [107, 105, 110, 111, 114, 97, 32, 49, 10, 115, 99, 97, 108, 101, 32, 51, 48, 32, 116, 105, 99, 107, 32, 49, 10, 114, 101, 110, 100, 105, 116, 105, 111, 110, 32, 104, 105, 32, 51, 50, 32, 49, 54, 32, 57, 48, 48, 10, 105, 110, 105, 116, 32, 52, 49, 32, 104, 105, 47, 105, 110, 105, 116, 10, 112, 105, 101, 99, 101, 32, 52, 32, 57, 57, 32, 104, 105, 47, 48, 10, 101, 110, 100, 10] := strOf_toList smallS
  have cx := hbx.cell
  have cm := hbm.cell
  have H3 := Lib.hid (And.intro (hin3.quiet mA) (And.intro (hin2.quiet mA) (And.intro (hM3.trans mA) hbm)))
  clear hin3 hin2 hM3 hb3 hbx hbm mA hm3
  unfold mfV smallM
  unfold mfV smallM at cx cm
  go_wp2_with fail
  refine (pSame _ smallM smallM A3 A n3 c3 1 1 H3.out.1 H3.out.2.1).mono ?_
  rintro e w4 ⟨rfl, hm4⟩
  rw [decide_eq_true (rfl : smallM = smallM)]
  have hin4 := H3.out.2.1.quiet hm4
  have hM4 := H3.out.2.2.1.trans hm4
  have hb4 := H3.out.2.2.2.keep hm4 (fun h => h)
  obtain ⟨L, hL⟩ : ∃ L, L = smallL := ⟨_, rfl⟩
  obtain ⟨b, o, A1, n1, c1, hA, hbl, hls⟩ := hin4.rs.at_ 0 L (by rw [hL]; rfl)
  subst hA
  have e0 := hls.cells 0 _ rfl
  have e1 := hls.cells 1 _ rfl
  have e2 := hls.cells 2 _ rfl
  have e3 := hls.cells 3 _ rfl
  have e4 := hls.cells 4 _ rfl
  have e5 := hls.cells 5 _ rfl
  have e6 := hls.cells 6 _ rfl
  have e7 := hls.cells 7 _ rfl
  rw [Nat.zero_mul, Nat.add_zero] at e0 e1 e2 e3 e4 e5 e6 e7
  have hpcs := hls.pcs
  have hn1 : n1 = 1 := by rw [← hpcs.len, hL]; rfl
  have hT := pTotal w4 L A1 n1 c1 hpcs (by rw [hn1]; decide)
  rw [show totL L.pieces = 4 from by rw [hL]; exact small_total] at hT
  unfold lsV at hT
  have c4 := hb4.cell
  have H4 := Lib.hid (And.intro hin4 (And.intro hM4 (And.intro hb4 hT)))
  clear hT hL hn1
  clear hin4 hM4 hb4 hpcs hls hm4 cx cm
  go_wp2_with fail
  refine H4.out.2.2.2.mono ?_
  rintro e w5 ⟨rfl, hm5⟩
  have hin5 := H4.out.1.quiet hm5
  have hM5 := H4.out.2.1.trans hm5
  have hb5 := H4.out.2.2.1.keep hm5 (fun h => h)
  have c5 := hb5.cell
  have H5 := Lib.hid (And.intro hin5 hM5)
  clear hin5 hM5 hb5 hm5 e0 e1 e2 e3 e4 e5 e6 e7 c4
  go_wp2_with fail
  refine (pAlign _ smallM (some ⟨b, o, none⟩) 1 1 H5.out.1).mono ?_
  rintro e w6 ⟨rfl, hm6⟩
  rw [small_align]
  have H6 := Lib.hid (H5.out.2.trans hm6)
  clear hm6 c5
  go_wp2_with fail
  go_ret
  exact ⟨rfl, H6.out⟩
end Go.Proofs.YtkobngipbhjfjaaDoor
