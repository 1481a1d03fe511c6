/-
  DecoderNil, walked.
-/
import Derived.Test.YteppnjgfebcmjaaGreatAlive13
namespace Go.Proofs.YteppnjgfebcmjaaGreat
open Go.RowKit

set_option maxRecDepth 100000 in
set_option maxHeartbeats 4000000 in
theorem decoderNil_walk (A : Option Addr) (n c : Nat) (w : World) (hn : n ≤ 9223372036854775807) : Calls Tryz.prog 5 #[.slice A n c] w fun e w' => e = .returned (.bool true) ∧ Below w.heap.size w w' := by
  by_cases h : 3000 < n
  · go_enter Tryz.func5, Tryz.ntmps5
    go_wp2_with fail
    refine (alive13 _).mono ?_
    rintro e w1 ⟨rfl, hm⟩
    have HM := Lib.hid hm
    clear hm
    go_wp2_with fail
    go_ret
    exact ⟨rfl, HM.out.below (fun _ h => h.elim)⟩
  · go_enter Tryz.func5, Tryz.ntmps5
    go_wp2_with fail
    refine (decFrame_nil _ A n c).mono ?_
    rintro e w1 ⟨rfl, hm⟩
    unfold noFrame
    have hb2 : Blk (w1.alloc (.cells noFrame.toArray 37)) w1.heap.size _ _ := Blk.new _ _ _
    have a2 := alive13 (w1.alloc (.cells noFrame.toArray 37))
    have HM := Lib.hid (And.intro hm hb2)
    clear hm hb2
    go_wp2_with fail
    refine a2.mono ?_
    clear a2
    rintro e w2 ⟨rfl, hm2⟩
    have hb3 := HM.out.2.keep hm2 (fun h => h)
    have c2 : w2.cell? ⟨w1.heap.size, 2, none⟩ = some (.slice none 0 0) := hb3.cell 2
    have hlt := hb3.lt
    have HM2 := Lib.hid ((HM.out.1.alloc _).trans hm2)
    clear hb3 hm2 HM
    go_wp2_with fail
    refine (decSeq_nil _).mono ?_
    rintro e w3 ⟨rfl, hm3⟩
    have HM3 := Lib.hid (HM2.out.trans hm3)
    clear hm3
    go_wp2_with fail
    refine (decNext_nil _).mono ?_
    rintro e w4 ⟨rfl, rfl⟩
    go_wp2_with fail
    refine (decReset_nil _ A n c).mono ?_
    rintro e w4 ⟨rfl, rfl⟩
    go_wp2_with fail
    go_ret
    exact ⟨rfl, HM3.out.below (fun _ h => h.elim)⟩
end Go.Proofs.YteppnjgfebcmjaaGreat
