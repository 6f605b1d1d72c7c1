/- The closed facts of the card of turnsNil, one by one. -/
import Derived.Test.YtdjdiibloohddaaGreatDoorCards
import Derived.JoinedOf
import Derived.KernelRfl
import Derived.SevenTiedAt
set_option linter.unusedVariables false
namespace Go.Proofs.YtdjdiibloohddaaGreatDoor.turnsNilC
open Go
theorem goes : false = Rows.turnsNilRow.goesBy Tryz.prog := by kernel_rfl
theorem wfT : Rows.turnsNilRow.wfByText (OpenSpec.ofChange Rows.turnsNilSpec) = true := by kernel_rfl
theorem mainIs : Tryz.prog.mainIs = some ((true, "16fdc6ff6e1495f347c9dc760352233fe795b898f285266c36ac274dd97ab08b").1, (true, "16fdc6ff6e1495f347c9dc760352233fe795b898f285266c36ac274dd97ab08b").2.toList) := by kernel_rfl
theorem looks : true = Tryz.prog.looks [] := by kernel_rfl
theorem stand : ([3,3,45].all fun u => !Tryz.prog.wantsStandIn u) = true := by kernel_rfl
theorem fnamed : Tryz.prog.funcNamed "hallmark/hallmarklaw22.TurnsNil" = some 4 := by kernel_rfl
theorem isInst : Tryz.f4.isInstance Tryz.prog Rows.turnsNilRow.origin Rows.turnsNilRow.targs := of_decide_eq_true (by kernel_rfl)
end Go.Proofs.YtdjdiibloohddaaGreatDoor.turnsNilC
