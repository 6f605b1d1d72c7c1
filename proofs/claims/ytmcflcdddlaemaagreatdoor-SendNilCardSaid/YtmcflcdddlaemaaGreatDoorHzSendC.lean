/- The closed facts of the card of sendNil, one by one. -/
import Derived.Test.YtmcflcdddlaemaaGreatDoorCards
import Derived.JoinedOf
import Derived.KernelRfl
import Derived.SevenTiedAt
set_option linter.unusedVariables false
namespace Go.Proofs.YtmcflcdddlaemaaGreatDoor.sendNilC
open Go
theorem goes : false = Rows.sendNilRow.goesBy Tryz.prog := by kernel_rfl
theorem wfT : Rows.sendNilRow.wfByText (OpenSpec.ofChange Rows.sendNilSpec) = true := by kernel_rfl
theorem mainIs : Tryz.prog.mainIs = some ((true, "9e7ca6943e9e553c65a2d8629a41ae1bf53fb5dbb821d4a4fde446fea5ecf536").1, (true, "9e7ca6943e9e553c65a2d8629a41ae1bf53fb5dbb821d4a4fde446fea5ecf536").2.toList) := by kernel_rfl
theorem looks : true = Tryz.prog.looks [] := by kernel_rfl
theorem stand : ([35].all fun u => !Tryz.prog.wantsStandIn u) = true := by kernel_rfl
theorem fnamed : Tryz.prog.funcNamed "hallmark/hallmarklaw24.SendNil" = some 4 := by kernel_rfl
theorem isInst : Tryz.f4.isInstance Tryz.prog Rows.sendNilRow.origin Rows.sendNilRow.targs := of_decide_eq_true (by kernel_rfl)
end Go.Proofs.YtmcflcdddlaemaaGreatDoor.sendNilC
