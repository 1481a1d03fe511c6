/-
  kinoralaw19.OriginPlays: the closed facts of its row and card.
-/
import Derived.Test.YtnnpoodcdibpiaaGreatDoorBOrBase
namespace Go.Proofs.YtnnpoodcdibpiaaGreatDoor.originPlays
open Go.ChangeShapes Go.WideShapes Go.ChangeAt Go.RowKit
theorem c_wf : Rows.originPlaysRow.wf (OpenSpec.ofChange (OpenSpec.ofChange Rows.originPlaysSpec).bare) = true := by kernel_rfl
theorem c_place : Tryz.prog.inPlace 4 = Rows.originPlaysRow.inPlace := by kernel_rfl
theorem c_unf : Tryz.prog.unfollowed 4 = Rows.originPlaysRow.unfollowed := by kernel_rfl
theorem c_rec : Tryz.prog.recurses 4 = Rows.originPlaysRow.recurses := by kernel_rfl
theorem c_named : Tryz.prog.varsNamed 4 = Rows.originPlaysRow.named := by kernel_rfl
theorem c_lift : Tryz.prog.liftsFinal = Rows.originPlaysRow.lifted := by kernel_rfl
theorem joined : joinedFacts Tryz.prog 4 Tryz.f4 (OpenSpec.ofChange Rows.originPlaysSpec).bare Rows.originPlaysRow = true := by
  unfold joinedFacts
  rw [c_wf, s_laid, s_rowed, c_place, c_unf, c_rec, c_named, s_enter, c_lift, s_heard]
  kernel_rfl
theorem f_wf : Rows.originPlaysRow.wfByText (OpenSpec.ofChange Rows.originPlaysSpec) = true := by kernel_rfl
theorem f_main : Tryz.pinned.checked.prog.mainIs = some (true, ("1704448d77b9eeea178ae9a664f38474699b0bfd6d6c177a6de0df4c4809f08f" : String).toList) := s_main
theorem f_looks : true = Tryz.pinned.checked.prog.looks [] := s_looks
theorem f_goes : false = Rows.originPlaysRow.goesBy Tryz.pinned.checked.prog := by kernel_rfl
theorem f_named : Tryz.prog.funcNamed "kinora/kinoralaw19.OriginPlays" = some 4 := by kernel_rfl
end Go.Proofs.YtnnpoodcdibpiaaGreatDoor.originPlays
