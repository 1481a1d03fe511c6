/-
  kinoralaw22.alive returns true and leaves what was there.
-/
import Derived.Test.YtaflmnnnmbklfaaPolRate
import Derived.Test.YtaflmnnnmbklfaaPolPick
import Derived.Test.YtaflmnnnmbklfaaPolSmall
import Derived.Test.YtaflmnnnmbklfaaPolScrPut
import Derived.Test.YtaflmnnnmbklfaaAppend
namespace Go.Proofs.Ytaflmnnnmbklfaa
open Go.RowKit

theorem Mod.into {S S' : Nat → Prop} {a b c : World} (h : Mod S a b) (k : Mod S' b c) (hs : ∀ i, S' i → S i ∨ a.heap.size ≤ i) : Mod S a c :=
  ⟨k.os.trans h.os, k.tape.trans h.tape, k.output.trans h.output, Nat.le_trans h.size k.size,
   fun i hi hn => (k.block i (Nat.lt_of_lt_of_le hi h.size) (fun x => (hs i x).elim hn (by omega))).trans (h.block i hi hn)⟩
theorem MeterIs.off {S : Nat → Prop} {w w' : World} {g : Nat} {L : List Dl} (h : MeterIs w g L) (hm : Mod S w w') (hg : ¬ S g) : MeterIs w' g L := h.keep hm hg

set_option maxHeartbeats 1000000 in
theorem alive22 (w : World) : Calls Try.prog 13 #[] w fun e w' => e = .returned (.bool true) ∧ Mod (fun _ => False) w w' := by
  go_enter Try.func13, Try.ntmps13
  go_wp2_with fail
  refine (newMeter w).mono ?_
  rintro e w1 ⟨rfl, hm1, hmod1, hsz1⟩
  have hmod1' := Lib.hid hmod1
  have HSZ := Lib.hid hsz1
  have hgt : w.heap.size < w1.heap.size := by omega
  clear hmod1 hsz1
  go_wp2_with fail
  refine (mtrAdd w.heap.size 100 10 [] w1 (by decide) hm1).mono ?_
  rintro e w2 ⟨rfl, hm2, hmod2⟩
  go_wp2_with fail
  refine (mtrAdd w.heap.size 100 30 _ w2 (by decide) hm2).mono ?_
  rintro e w3 ⟨rfl, hm3, hmod3⟩
  have M3 : Mod (fun _ => False) w w3 := (hmod1'.out.into hmod2 (fun i h => .inr (by omega))).into hmod3 (fun i h => .inr (by omega))
  have hlt3 := hm3.lt
  clear hm1 hm2 hmod2 hmod3 hmod1' HSZ hgt
  go_wp2_with fail
  refine (scrNew w3 2 1 2 (by decide)).mono ?_
  rintro e w4 ⟨rfl, hw4⟩
  have hb4 : Blk w4 w3.heap.size 61 (Scr.cells ⟨2, 1, 2, 0, 0, 0, false⟩) := hw4 ▸ Blk.new _ _ _
  have M4' : Mod (fun _ => False) w3 w4 := hw4 ▸ (Mod.refl _ _).alloc _
  have M4 := M3.trans M4'
  have hm4 := hm3.keep M4' (fun h => h)
  clear hw4 M4' hm3
  go_wp2_with fail
  have c1 := scrPut w4 w3.heap.size _ (newOk_ok (by decide)) hb4 1 ⟨by omega, by omega⟩
  rw [show Scr.put ⟨2, 1, 2, 0, 0, 0, false⟩ 1 = (0, ⟨2, 1, 2, 1, 0, 0, true⟩) by simp [Scr.put]] at c1
  refine c1.mono ?_
  clear c1
  rintro e w5 ⟨rfl, hb5, hmod5⟩
  have M5 := M4.into hmod5 (fun i h => .inr (by have := M3.size; omega))
  have hm5 := hm4.keep hmod5 (by omega)
  clear hm4 hb4 hmod5 M4
  go_wp2_with fail
  have c1 := scrStep w5 w3.heap.size ⟨2, 1, 2, 1, 0, 0, true⟩ ⟨by decide, by decide, by decide, by decide, by decide, by decide, by decide⟩ hb5
  rw [show Scr.step ⟨2, 1, 2, 1, 0, 0, true⟩ = (0, ⟨2, 1, 2, 1, 0, 1, true⟩) by simp [Scr.step]] at c1
  refine c1.mono ?_
  clear c1
  rintro e w6 ⟨rfl, hb6, hmod6⟩
  have M6 := M5.into hmod6 (fun i h => .inr (by have := M3.size; omega))
  have hm6 := hm5.keep hmod6 (by omega)
  clear hm5 hb5 hmod6 M5
  go_wp2_with fail
  have c1 := scrStep w6 w3.heap.size ⟨2, 1, 2, 1, 0, 1, true⟩ ⟨by decide, by decide, by decide, by decide, by decide, by decide, by decide⟩ hb6
  rw [show Scr.step ⟨2, 1, 2, 1, 0, 1, true⟩ = (1, ⟨2, 1, 2, 0, 1, 0, true⟩) by simp [Scr.step]] at c1
  refine c1.mono ?_
  clear c1
  rintro e w7 ⟨rfl, hb7, hmod7⟩
  have M7 := M6.into hmod7 (fun i h => .inr (by have := M3.size; omega))
  have hm7 := hm6.keep hmod7 (by omega)
  clear hm6 hb6 hmod7 M6
  go_wp2_with fail
  have c1 := scrStep w7 w3.heap.size ⟨2, 1, 2, 0, 1, 0, true⟩ ⟨by decide, by decide, by decide, by decide, by decide, by decide, by decide⟩ hb7
  rw [show Scr.step ⟨2, 1, 2, 0, 1, 0, true⟩ = (2, ⟨2, 1, 2, 0, 1, 0, true⟩) by simp [Scr.step]] at c1
  refine c1.mono ?_
  clear c1
  rintro e w8 ⟨rfl, hb8, hmod8⟩
  have M8 := M7.into hmod8 (fun i h => .inr (by have := M3.size; omega))
  have hm8 := hm7.keep hmod8 (by omega)
  clear hm7 hb7 hmod8 M7
  go_wp2_with fail
  have c1 := mtrRate w.heap.size 30 _ w8 hm8
  rw [show rate ([] ++ [(100, 10)] ++ [(100, 30)]) 30 = 150 by decide +kernel] at c1
  refine c1.mono ?_
  clear c1
  rintro e w9 ⟨rfl, hmod9⟩
  have M9 := M8.trans hmod9
  clear hmod9 M8
  go_wp2_with fail
  have hi : Ints (w9.alloc (.cells #[.int .i64 10, .int .i64 90, .int .i64 200] 3)) (some ⟨w9.heap.size, 0, none⟩) 3 [10, 90, 200] := by
    refine ⟨rfl, fun _ => ⟨w9.heap.size, 0, rfl, fun i hi => ?_⟩⟩
    rw [Nat.zero_add, (Blk.new w9 _ _).cell i]
    rcases (by omega : i = 0 ∨ i = 1 ∨ i = 2) with rfl | rfl | rfl <;> rfl
  have c1 := pick_any _ 3 3 [10, 90, 200] 150 5 3 _ hi (by omega)
  rw [show pick [10, 90, 200] 150 5 3 = 1 by decide +kernel] at c1
  refine c1.mono ?_
  clear c1
  rintro e w10 ⟨rfl, hw10⟩
  have M10 : Mod (fun _ => False) w w10 := hw10 ▸ M9.alloc _
  clear hw10
  go_wp2_with fail
  go_ret
  exact ⟨rfl, M10⟩
end Go.Proofs.Ytaflmnnnmbklfaa
