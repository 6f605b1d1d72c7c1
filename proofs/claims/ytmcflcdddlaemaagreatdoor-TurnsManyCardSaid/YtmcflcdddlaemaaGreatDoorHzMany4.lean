/- Many turns, at some numbers. -/
import Derived.Test.YtmcflcdddlaemaaGreatDoorHzEnc
namespace Go.Hx
open Go.Proofs
set_option maxRecDepth 100000
theorem many128 : comesTo EM 4000 3 [.int .u8 128] (.bool true) = true := by kernel_rfl
theorem many129 : comesTo EM 4000 3 [.int .u8 129] (.bool true) = true := by kernel_rfl
theorem many130 : comesTo EM 4000 3 [.int .u8 130] (.bool true) = true := by kernel_rfl
theorem many131 : comesTo EM 4000 3 [.int .u8 131] (.bool true) = true := by kernel_rfl
theorem many132 : comesTo EM 4000 3 [.int .u8 132] (.bool true) = true := by kernel_rfl
theorem many133 : comesTo EM 4000 3 [.int .u8 133] (.bool true) = true := by kernel_rfl
theorem many134 : comesTo EM 4000 3 [.int .u8 134] (.bool true) = true := by kernel_rfl
theorem many135 : comesTo EM 4000 3 [.int .u8 135] (.bool true) = true := by kernel_rfl
theorem many136 : comesTo EM 4000 3 [.int .u8 136] (.bool true) = true := by kernel_rfl
theorem many137 : comesTo EM 4000 3 [.int .u8 137] (.bool true) = true := by kernel_rfl
theorem many138 : comesTo EM 4000 3 [.int .u8 138] (.bool true) = true := by kernel_rfl
theorem many139 : comesTo EM 4000 3 [.int .u8 139] (.bool true) = true := by kernel_rfl
theorem many140 : comesTo EM 4000 3 [.int .u8 140] (.bool true) = true := by kernel_rfl
theorem many141 : comesTo EM 4000 3 [.int .u8 141] (.bool true) = true := by kernel_rfl
theorem many142 : comesTo EM 4000 3 [.int .u8 142] (.bool true) = true := by kernel_rfl
theorem many143 : comesTo EM 4000 3 [.int .u8 143] (.bool true) = true := by kernel_rfl
theorem many144 : comesTo EM 4000 3 [.int .u8 144] (.bool true) = true := by kernel_rfl
theorem many145 : comesTo EM 4000 3 [.int .u8 145] (.bool true) = true := by kernel_rfl
theorem many146 : comesTo EM 4000 3 [.int .u8 146] (.bool true) = true := by kernel_rfl
theorem many147 : comesTo EM 4000 3 [.int .u8 147] (.bool true) = true := by kernel_rfl
theorem many148 : comesTo EM 4000 3 [.int .u8 148] (.bool true) = true := by kernel_rfl
theorem many149 : comesTo EM 4000 3 [.int .u8 149] (.bool true) = true := by kernel_rfl
theorem many150 : comesTo EM 4000 3 [.int .u8 150] (.bool true) = true := by kernel_rfl
theorem many151 : comesTo EM 4000 3 [.int .u8 151] (.bool true) = true := by kernel_rfl
theorem many152 : comesTo EM 4000 3 [.int .u8 152] (.bool true) = true := by kernel_rfl
theorem many153 : comesTo EM 4000 3 [.int .u8 153] (.bool true) = true := by kernel_rfl
theorem many154 : comesTo EM 4000 3 [.int .u8 154] (.bool true) = true := by kernel_rfl
theorem many155 : comesTo EM 4000 3 [.int .u8 155] (.bool true) = true := by kernel_rfl
theorem many156 : comesTo EM 4000 3 [.int .u8 156] (.bool true) = true := by kernel_rfl
theorem many157 : comesTo EM 4000 3 [.int .u8 157] (.bool true) = true := by kernel_rfl
theorem many158 : comesTo EM 4000 3 [.int .u8 158] (.bool true) = true := by kernel_rfl
theorem many159 : comesTo EM 4000 3 [.int .u8 159] (.bool true) = true := by kernel_rfl
theorem manyL4 : ∀ n ∈ [128, 129, 130, 131, 132, 133, 134, 135, 136, 137, 138, 139, 140, 141, 142, 143, 144, 145, 146, 147, 148, 149, 150, 151, 152, 153, 154, 155, 156, 157, 158, 159], comesTo EM 4000 3 [.int .u8 (Int.ofNat n)] (.bool true) = true :=
  List.forall_mem_cons.2 ⟨many128, List.forall_mem_cons.2 ⟨many129, List.forall_mem_cons.2 ⟨many130, List.forall_mem_cons.2 ⟨many131, List.forall_mem_cons.2 ⟨many132, List.forall_mem_cons.2 ⟨many133, List.forall_mem_cons.2 ⟨many134, List.forall_mem_cons.2 ⟨many135, List.forall_mem_cons.2 ⟨many136, List.forall_mem_cons.2 ⟨many137, List.forall_mem_cons.2 ⟨many138, List.forall_mem_cons.2 ⟨many139, List.forall_mem_cons.2 ⟨many140, List.forall_mem_cons.2 ⟨many141, List.forall_mem_cons.2 ⟨many142, List.forall_mem_cons.2 ⟨many143, List.forall_mem_cons.2 ⟨many144, List.forall_mem_cons.2 ⟨many145, List.forall_mem_cons.2 ⟨many146, List.forall_mem_cons.2 ⟨many147, List.forall_mem_cons.2 ⟨many148, List.forall_mem_cons.2 ⟨many149, List.forall_mem_cons.2 ⟨many150, List.forall_mem_cons.2 ⟨many151, List.forall_mem_cons.2 ⟨many152, List.forall_mem_cons.2 ⟨many153, List.forall_mem_cons.2 ⟨many154, List.forall_mem_cons.2 ⟨many155, List.forall_mem_cons.2 ⟨many156, List.forall_mem_cons.2 ⟨many157, List.forall_mem_cons.2 ⟨many158, List.forall_mem_cons.2 ⟨many159, List.forall_mem_nil _⟩⟩⟩⟩⟩⟩⟩⟩⟩⟩⟩⟩⟩⟩⟩⟩⟩⟩⟩⟩⟩⟩⟩⟩⟩⟩⟩⟩⟩⟩⟩⟩
end Go.Hx
