/-
  A decoder's Frame of one byte.
-/
import Derived.Test.YteppnjgfebcmjaaGreatRefSeq
import Derived.BigQuiet
namespace Go.Proofs.YteppnjgfebcmjaaGreat
open Go.RowKit

set_option maxRecDepth 100000 in
set_option maxHeartbeats 4000000 in
theorem built_short (w : World) (g : Nat) (K : Bool) (N Q : Int) (A : Option Addr) (n c : Nat) (h : n < 4) : Calls Tryz.prog 26 #[.pointer (some ⟨g, 0, none⟩), .agg #[.bool K, .int .i64 N, .int .i64 Q], .slice A n c] w fun e w' => e = .returned (.tuple #[.agg noFrame.toArray, .int .i64 41]) ∧ Mod (fun _ => False) w w' := by
  go_enter Tryz.func26, Tryz.ntmps26
  go_wp2_with fail
  refine (coderOpen_short _ A n c h).mono ?_
  rintro e w1 ⟨rfl, rfl⟩
  go_wp2_with fail
  exact bodyPost_ret (v := .tuple #[.agg noFrame.toArray, .int .i64 41]) (by simp [results, Tryz.results26, go_sem, noFrame]) rfl ⟨rfl, ((Mod.refl _ _).alloc _).alloc _⟩

set_option maxRecDepth 100000 in
set_option maxHeartbeats 4000000 in
theorem frame_short (w : World) (g : Nat) (fr : List Value) (hb : Blk w g 60 (decCells 16 16 4 0 fr)) (A : Option Addr) (c : Nat) (hin : BytesIn w A 1 c [192]) : Calls Tryz.prog 13 #[.pointer (some ⟨g, 0, none⟩), .slice A 1 c] w fun e w' => e = .returned (.tuple #[.agg noFrame.toArray, .int .i64 132]) ∧ Mod (fun _ => False) w w' := by
  have c0 : w.cell? ⟨g, 0, none⟩ = some (.int .i64 16) := hb.cell 0
  have c1 : w.cell? ⟨g, 1, none⟩ = some (.int .i64 16) := hb.cell 1
  have c2 : w.cell? ⟨g, 2, none⟩ = some (.int .i64 4) := hb.cell 2
  have hF : Blk (w.alloc (.cells noFrame.toArray 37)) w.heap.size 37 noFrame.toArray := Blk.new _ _ _
  have M0 : Mod (fun _ => False) w (w.alloc (.cells noFrame.toArray 37)) := (Mod.refl _ _).alloc _
  have p1 := parseHdr _ A 1 c [192] 16 16 4 (hin.quiet M0) (by omega)
  have hg := hb.lt
  clear hin hb
  unfold noFrame at *
  go_enter Tryz.func13, Tryz.ntmps13
  go_wp2_with fail
  refine p1.mono ?_
  clear p1
  rintro e w1 ⟨hm1, ⟨hnone, rfl⟩ | ⟨K, N, Q, a4, v, hsome, rfl, hv⟩⟩
  · rw [hdr4] at hnone
    cases hnone
  rw [hdr4] at hsome
  obtain ⟨⟨rfl, rfl, rfl⟩, rfl⟩ : (K = true ∧ 0 = N ∧ 0 = Q) ∧ 8 = a4 := by simpa using hsome
  have hF1 := hF.keep hm1 (fun h => h)
  have M1 := M0.trans hm1
  obtain ⟨A1, d1, rfl⟩ := own_shape hv
  have HH := Lib.hid (And.intro hF1 M1)
  clear hF hm1 M0 hsome hv hF1 M1 c0 c1 c2
  go_upto_region 6 with (fail)
  go_quiet (fail)
  go_wp2_with fail
  refine (built_short _ g true 0 0 A1 _ d1 (by simp)).mono ?_
  rintro e w3 ⟨rfl, hm3⟩
  have hF3 := Blk.keep ((HH.out.1.alloc _).drewN _) hm3 (fun h => h)
  have M3 := Mod.trans ((HH.out.2.alloc _).drewN _) hm3
  obtain ⟨hc, hf⟩ := hF3.both
  have hl := hF3.lt
  have HM := Lib.hid (And.intro hF3 M3)
  clear HH hm3 hF3 M3
  unfold noFrame
  go_wp2_with fail
  refine bodyPost_ret (v := .tuple #[.agg noFrame.toArray, .int .i64 132]) (by simp [results, Tryz.results13, go_sem, noFrame, hc, hl]) rfl ⟨rfl, ?_⟩
  have M3 := HM.out.2
  exact (by repeat' (first | with_reducible exact M3 | with_reducible refine Mod.alloc ?_ _ | with_reducible refine Mod.setCell ?_ ?_ _ | exact Or.inr (Nat.le_refl _)))
end Go.Proofs.YteppnjgfebcmjaaGreat
