/-
  kinoralaw19.OriginRanges: the closed facts of its row and card.
-/
import Derived.Test.YtnnpoodcdibpiaaGreatDoorBOrBase
namespace Go.Proofs.YtnnpoodcdibpiaaGreatDoor.originRanges
open Go.ChangeShapes Go.WideShapes Go.ChangeAt Go.RowKit
theorem c_wf : Rows.originRangesRow.wf (OpenSpec.ofChange (OpenSpec.ofChange Rows.originRangesSpec).bare) = true := by kernel_rfl
theorem c_place : Tryz.prog.inPlace 3 = Rows.originRangesRow.inPlace := by kernel_rfl
theorem c_unf : Tryz.prog.unfollowed 3 = Rows.originRangesRow.unfollowed := by kernel_rfl
theorem c_rec : Tryz.prog.recurses 3 = Rows.originRangesRow.recurses := by kernel_rfl
theorem c_named : Tryz.prog.varsNamed 3 = Rows.originRangesRow.named := by kernel_rfl
theorem c_lift : Tryz.prog.liftsFinal = Rows.originRangesRow.lifted := by kernel_rfl
theorem joined : joinedFacts Tryz.prog 3 Tryz.f3 (OpenSpec.ofChange Rows.originRangesSpec).bare Rows.originRangesRow = true := by
  unfold joinedFacts
  rw [c_wf, s_laid, s_rowed, c_place, c_unf, c_rec, c_named, s_enter, c_lift, s_heard]
  kernel_rfl
theorem f_wf : Rows.originRangesRow.wfByText (OpenSpec.ofChange Rows.originRangesSpec) = true := by kernel_rfl
theorem f_main : Tryz.pinned.checked.prog.mainIs = some (true, ("1704448d77b9eeea178ae9a664f38474699b0bfd6d6c177a6de0df4c4809f08f" : String).toList) := s_main
theorem f_looks : true = Tryz.pinned.checked.prog.looks [] := s_looks
theorem f_goes : false = Rows.originRangesRow.goesBy Tryz.pinned.checked.prog := by kernel_rfl
theorem f_named : Tryz.prog.funcNamed "kinora/kinoralaw19.OriginRanges" = some 3 := by kernel_rfl
end Go.Proofs.YtnnpoodcdibpiaaGreatDoor.originRanges
