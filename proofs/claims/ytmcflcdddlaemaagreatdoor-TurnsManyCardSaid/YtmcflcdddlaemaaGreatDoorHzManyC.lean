/- The closed facts of the card of turnsMany, one by one. -/
import Derived.Test.YtmcflcdddlaemaaGreatDoorCards
import Derived.JoinedOf
import Derived.KernelRfl
import Derived.SevenTiedAt
set_option linter.unusedVariables false
namespace Go.Proofs.YtmcflcdddlaemaaGreatDoor.turnsManyC
open Go
theorem goes : false = Rows.turnsManyRow.goesBy Tryz.prog := by kernel_rfl
theorem wfT : Rows.turnsManyRow.wfByText (OpenSpec.ofChange Rows.turnsManySpec) = true := by kernel_rfl
theorem mainIs : Tryz.prog.mainIs = some ((true, "9e7ca6943e9e553c65a2d8629a41ae1bf53fb5dbb821d4a4fde446fea5ecf536").1, (true, "9e7ca6943e9e553c65a2d8629a41ae1bf53fb5dbb821d4a4fde446fea5ecf536").2.toList) := by kernel_rfl
theorem looks : true = Tryz.prog.looks [] := by kernel_rfl
theorem stand : ([5].all fun u => !Tryz.prog.wantsStandIn u) = true := by kernel_rfl
theorem fnamed : Tryz.prog.funcNamed "hallmark/hallmarklaw22.TurnsMany" = some 3 := by kernel_rfl
theorem isInst : Tryz.f3.isInstance Tryz.prog Rows.turnsManyRow.origin Rows.turnsManyRow.targs := of_decide_eq_true (by kernel_rfl)
end Go.Proofs.YtmcflcdddlaemaaGreatDoor.turnsManyC
