/- Many turns, at some numbers. -/
import Derived.Test.YtmcflcdddlaemaaGreatDoorHzEnc
namespace Go.Hx
open Go.Proofs
set_option maxRecDepth 100000
theorem many192 : comesTo EM 4000 3 [.int .u8 192] (.bool true) = true := by kernel_rfl
theorem many193 : comesTo EM 4000 3 [.int .u8 193] (.bool true) = true := by kernel_rfl
theorem many194 : comesTo EM 4000 3 [.int .u8 194] (.bool true) = true := by kernel_rfl
theorem many195 : comesTo EM 4000 3 [.int .u8 195] (.bool true) = true := by kernel_rfl
theorem many196 : comesTo EM 4000 3 [.int .u8 196] (.bool true) = true := by kernel_rfl
theorem many197 : comesTo EM 4000 3 [.int .u8 197] (.bool true) = true := by kernel_rfl
theorem many198 : comesTo EM 4000 3 [.int .u8 198] (.bool true) = true := by kernel_rfl
theorem many199 : comesTo EM 4000 3 [.int .u8 199] (.bool true) = true := by kernel_rfl
theorem many200 : comesTo EM 4000 3 [.int .u8 200] (.bool true) = true := by kernel_rfl
theorem many201 : comesTo EM 4000 3 [.int .u8 201] (.bool true) = true := by kernel_rfl
theorem many202 : comesTo EM 4000 3 [.int .u8 202] (.bool true) = true := by kernel_rfl
theorem many203 : comesTo EM 4000 3 [.int .u8 203] (.bool true) = true := by kernel_rfl
theorem many204 : comesTo EM 4000 3 [.int .u8 204] (.bool true) = true := by kernel_rfl
theorem many205 : comesTo EM 4000 3 [.int .u8 205] (.bool true) = true := by kernel_rfl
theorem many206 : comesTo EM 4000 3 [.int .u8 206] (.bool true) = true := by kernel_rfl
theorem many207 : comesTo EM 4000 3 [.int .u8 207] (.bool true) = true := by kernel_rfl
theorem many208 : comesTo EM 4000 3 [.int .u8 208] (.bool true) = true := by kernel_rfl
theorem many209 : comesTo EM 4000 3 [.int .u8 209] (.bool true) = true := by kernel_rfl
theorem many210 : comesTo EM 4000 3 [.int .u8 210] (.bool true) = true := by kernel_rfl
theorem many211 : comesTo EM 4000 3 [.int .u8 211] (.bool true) = true := by kernel_rfl
theorem many212 : comesTo EM 4000 3 [.int .u8 212] (.bool true) = true := by kernel_rfl
theorem many213 : comesTo EM 4000 3 [.int .u8 213] (.bool true) = true := by kernel_rfl
theorem many214 : comesTo EM 4000 3 [.int .u8 214] (.bool true) = true := by kernel_rfl
theorem many215 : comesTo EM 4000 3 [.int .u8 215] (.bool true) = true := by kernel_rfl
theorem many216 : comesTo EM 4000 3 [.int .u8 216] (.bool true) = true := by kernel_rfl
theorem many217 : comesTo EM 4000 3 [.int .u8 217] (.bool true) = true := by kernel_rfl
theorem many218 : comesTo EM 4000 3 [.int .u8 218] (.bool true) = true := by kernel_rfl
theorem many219 : comesTo EM 4000 3 [.int .u8 219] (.bool true) = true := by kernel_rfl
theorem many220 : comesTo EM 4000 3 [.int .u8 220] (.bool true) = true := by kernel_rfl
theorem many221 : comesTo EM 4000 3 [.int .u8 221] (.bool true) = true := by kernel_rfl
theorem many222 : comesTo EM 4000 3 [.int .u8 222] (.bool true) = true := by kernel_rfl
theorem many223 : comesTo EM 4000 3 [.int .u8 223] (.bool true) = true := by kernel_rfl
theorem manyL6 : ∀ n ∈ [192, 193, 194, 195, 196, 197, 198, 199, 200, 201, 202, 203, 204, 205, 206, 207, 208, 209, 210, 211, 212, 213, 214, 215, 216, 217, 218, 219, 220, 221, 222, 223], comesTo EM 4000 3 [.int .u8 (Int.ofNat n)] (.bool true) = true :=
  List.forall_mem_cons.2 ⟨many192, List.forall_mem_cons.2 ⟨many193, List.forall_mem_cons.2 ⟨many194, List.forall_mem_cons.2 ⟨many195, List.forall_mem_cons.2 ⟨many196, List.forall_mem_cons.2 ⟨many197, List.forall_mem_cons.2 ⟨many198, List.forall_mem_cons.2 ⟨many199, List.forall_mem_cons.2 ⟨many200, List.forall_mem_cons.2 ⟨many201, List.forall_mem_cons.2 ⟨many202, List.forall_mem_cons.2 ⟨many203, List.forall_mem_cons.2 ⟨many204, List.forall_mem_cons.2 ⟨many205, List.forall_mem_cons.2 ⟨many206, List.forall_mem_cons.2 ⟨many207, List.forall_mem_cons.2 ⟨many208, List.forall_mem_cons.2 ⟨many209, List.forall_mem_cons.2 ⟨many210, List.forall_mem_cons.2 ⟨many211, List.forall_mem_cons.2 ⟨many212, List.forall_mem_cons.2 ⟨many213, List.forall_mem_cons.2 ⟨many214, List.forall_mem_cons.2 ⟨many215, List.forall_mem_cons.2 ⟨many216, List.forall_mem_cons.2 ⟨many217, List.forall_mem_cons.2 ⟨many218, List.forall_mem_cons.2 ⟨many219, List.forall_mem_cons.2 ⟨many220, List.forall_mem_cons.2 ⟨many221, List.forall_mem_cons.2 ⟨many222, List.forall_mem_cons.2 ⟨many223, List.forall_mem_nil _⟩⟩⟩⟩⟩⟩⟩⟩⟩⟩⟩⟩⟩⟩⟩⟩⟩⟩⟩⟩⟩⟩⟩⟩⟩⟩⟩⟩⟩⟩⟩⟩
end Go.Hx
