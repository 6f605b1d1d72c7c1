/- Many turns, at some numbers. -/
import Derived.Test.YtmcflcdddlaemaaGreatDoorHzEnc
namespace Go.Hx
open Go.Proofs
set_option maxRecDepth 100000
theorem many64 : comesTo EM 4000 3 [.int .u8 64] (.bool true) = true := by kernel_rfl
theorem many65 : comesTo EM 4000 3 [.int .u8 65] (.bool true) = true := by kernel_rfl
theorem many66 : comesTo EM 4000 3 [.int .u8 66] (.bool true) = true := by kernel_rfl
theorem many67 : comesTo EM 4000 3 [.int .u8 67] (.bool true) = true := by kernel_rfl
theorem many68 : comesTo EM 4000 3 [.int .u8 68] (.bool true) = true := by kernel_rfl
theorem many69 : comesTo EM 4000 3 [.int .u8 69] (.bool true) = true := by kernel_rfl
theorem many70 : comesTo EM 4000 3 [.int .u8 70] (.bool true) = true := by kernel_rfl
theorem many71 : comesTo EM 4000 3 [.int .u8 71] (.bool true) = true := by kernel_rfl
theorem many72 : comesTo EM 4000 3 [.int .u8 72] (.bool true) = true := by kernel_rfl
theorem many73 : comesTo EM 4000 3 [.int .u8 73] (.bool true) = true := by kernel_rfl
theorem many74 : comesTo EM 4000 3 [.int .u8 74] (.bool true) = true := by kernel_rfl
theorem many75 : comesTo EM 4000 3 [.int .u8 75] (.bool true) = true := by kernel_rfl
theorem many76 : comesTo EM 4000 3 [.int .u8 76] (.bool true) = true := by kernel_rfl
theorem many77 : comesTo EM 4000 3 [.int .u8 77] (.bool true) = true := by kernel_rfl
theorem many78 : comesTo EM 4000 3 [.int .u8 78] (.bool true) = true := by kernel_rfl
theorem many79 : comesTo EM 4000 3 [.int .u8 79] (.bool true) = true := by kernel_rfl
theorem many80 : comesTo EM 4000 3 [.int .u8 80] (.bool true) = true := by kernel_rfl
theorem many81 : comesTo EM 4000 3 [.int .u8 81] (.bool true) = true := by kernel_rfl
theorem many82 : comesTo EM 4000 3 [.int .u8 82] (.bool true) = true := by kernel_rfl
theorem many83 : comesTo EM 4000 3 [.int .u8 83] (.bool true) = true := by kernel_rfl
theorem many84 : comesTo EM 4000 3 [.int .u8 84] (.bool true) = true := by kernel_rfl
theorem many85 : comesTo EM 4000 3 [.int .u8 85] (.bool true) = true := by kernel_rfl
theorem many86 : comesTo EM 4000 3 [.int .u8 86] (.bool true) = true := by kernel_rfl
theorem many87 : comesTo EM 4000 3 [.int .u8 87] (.bool true) = true := by kernel_rfl
theorem many88 : comesTo EM 4000 3 [.int .u8 88] (.bool true) = true := by kernel_rfl
theorem many89 : comesTo EM 4000 3 [.int .u8 89] (.bool true) = true := by kernel_rfl
theorem many90 : comesTo EM 4000 3 [.int .u8 90] (.bool true) = true := by kernel_rfl
theorem many91 : comesTo EM 4000 3 [.int .u8 91] (.bool true) = true := by kernel_rfl
theorem many92 : comesTo EM 4000 3 [.int .u8 92] (.bool true) = true := by kernel_rfl
theorem many93 : comesTo EM 4000 3 [.int .u8 93] (.bool true) = true := by kernel_rfl
theorem many94 : comesTo EM 4000 3 [.int .u8 94] (.bool true) = true := by kernel_rfl
theorem many95 : comesTo EM 4000 3 [.int .u8 95] (.bool true) = true := by kernel_rfl
theorem manyL2 : ∀ n ∈ [64, 65, 66, 67, 68, 69, 70, 71, 72, 73, 74, 75, 76, 77, 78, 79, 80, 81, 82, 83, 84, 85, 86, 87, 88, 89, 90, 91, 92, 93, 94, 95], comesTo EM 4000 3 [.int .u8 (Int.ofNat n)] (.bool true) = true :=
  List.forall_mem_cons.2 ⟨many64, List.forall_mem_cons.2 ⟨many65, List.forall_mem_cons.2 ⟨many66, List.forall_mem_cons.2 ⟨many67, List.forall_mem_cons.2 ⟨many68, List.forall_mem_cons.2 ⟨many69, List.forall_mem_cons.2 ⟨many70, List.forall_mem_cons.2 ⟨many71, List.forall_mem_cons.2 ⟨many72, List.forall_mem_cons.2 ⟨many73, List.forall_mem_cons.2 ⟨many74, List.forall_mem_cons.2 ⟨many75, List.forall_mem_cons.2 ⟨many76, List.forall_mem_cons.2 ⟨many77, List.forall_mem_cons.2 ⟨many78, List.forall_mem_cons.2 ⟨many79, List.forall_mem_cons.2 ⟨many80, List.forall_mem_cons.2 ⟨many81, List.forall_mem_cons.2 ⟨many82, List.forall_mem_cons.2 ⟨many83, List.forall_mem_cons.2 ⟨many84, List.forall_mem_cons.2 ⟨many85, List.forall_mem_cons.2 ⟨many86, List.forall_mem_cons.2 ⟨many87, List.forall_mem_cons.2 ⟨many88, List.forall_mem_cons.2 ⟨many89, List.forall_mem_cons.2 ⟨many90, List.forall_mem_cons.2 ⟨many91, List.forall_mem_cons.2 ⟨many92, List.forall_mem_cons.2 ⟨many93, List.forall_mem_cons.2 ⟨many94, List.forall_mem_cons.2 ⟨many95, List.forall_mem_nil _⟩⟩⟩⟩⟩⟩⟩⟩⟩⟩⟩⟩⟩⟩⟩⟩⟩⟩⟩⟩⟩⟩⟩⟩⟩⟩⟩⟩⟩⟩⟩⟩
end Go.Hx
