/-
  kinoralaw19.OriginNil: the closed facts of its row and card.
-/
import Derived.Test.YtnnpoodcdibpiaaGreatDoorBOrBase
namespace Go.Proofs.YtnnpoodcdibpiaaGreatDoor.originNil
open Go.ChangeShapes Go.WideShapes Go.ChangeAt Go.RowKit
theorem c_wf : Rows.originNilRow.wf (OpenSpec.ofChange (OpenSpec.ofChange Rows.originNilSpec).bare) = true := by kernel_rfl
theorem c_place : Tryz.prog.inPlace 6 = Rows.originNilRow.inPlace := by kernel_rfl
theorem c_unf : Tryz.prog.unfollowed 6 = Rows.originNilRow.unfollowed := by kernel_rfl
theorem c_rec : Tryz.prog.recurses 6 = Rows.originNilRow.recurses := by kernel_rfl
theorem c_named : Tryz.prog.varsNamed 6 = Rows.originNilRow.named := by kernel_rfl
theorem c_lift : Tryz.prog.liftsFinal = Rows.originNilRow.lifted := by kernel_rfl
theorem joined : joinedFacts Tryz.prog 6 Tryz.f6 (OpenSpec.ofChange Rows.originNilSpec).bare Rows.originNilRow = true := by
  unfold joinedFacts
  rw [c_wf, s_laid, s_rowed, c_place, c_unf, c_rec, c_named, s_enter, c_lift, s_heard]
  kernel_rfl
theorem f_wf : Rows.originNilRow.wfByText (OpenSpec.ofChange Rows.originNilSpec) = true := by kernel_rfl
theorem f_main : Tryz.pinned.checked.prog.mainIs = some (true, ("1704448d77b9eeea178ae9a664f38474699b0bfd6d6c177a6de0df4c4809f08f" : String).toList) := s_main
theorem f_looks : true = Tryz.pinned.checked.prog.looks [] := s_looks
theorem f_goes : false = Rows.originNilRow.goesBy Tryz.pinned.checked.prog := by kernel_rfl
theorem f_named : Tryz.prog.funcNamed "kinora/kinoralaw19.OriginNil" = some 6 := by kernel_rfl
end Go.Proofs.YtnnpoodcdibpiaaGreatDoor.originNil
