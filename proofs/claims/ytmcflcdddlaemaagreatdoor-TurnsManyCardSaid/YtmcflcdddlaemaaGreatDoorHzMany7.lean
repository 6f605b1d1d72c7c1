/- Many turns, at some numbers. -/
import Derived.Test.YtmcflcdddlaemaaGreatDoorHzEnc
namespace Go.Hx
open Go.Proofs
set_option maxRecDepth 100000
theorem many224 : comesTo EM 4000 3 [.int .u8 224] (.bool true) = true := by kernel_rfl
theorem many225 : comesTo EM 4000 3 [.int .u8 225] (.bool true) = true := by kernel_rfl
theorem many226 : comesTo EM 4000 3 [.int .u8 226] (.bool true) = true := by kernel_rfl
theorem many227 : comesTo EM 4000 3 [.int .u8 227] (.bool true) = true := by kernel_rfl
theorem many228 : comesTo EM 4000 3 [.int .u8 228] (.bool true) = true := by kernel_rfl
theorem many229 : comesTo EM 4000 3 [.int .u8 229] (.bool true) = true := by kernel_rfl
theorem many230 : comesTo EM 4000 3 [.int .u8 230] (.bool true) = true := by kernel_rfl
theorem many231 : comesTo EM 4000 3 [.int .u8 231] (.bool true) = true := by kernel_rfl
theorem many232 : comesTo EM 4000 3 [.int .u8 232] (.bool true) = true := by kernel_rfl
theorem many233 : comesTo EM 4000 3 [.int .u8 233] (.bool true) = true := by kernel_rfl
theorem many234 : comesTo EM 4000 3 [.int .u8 234] (.bool true) = true := by kernel_rfl
theorem many235 : comesTo EM 4000 3 [.int .u8 235] (.bool true) = true := by kernel_rfl
theorem many236 : comesTo EM 4000 3 [.int .u8 236] (.bool true) = true := by kernel_rfl
theorem many237 : comesTo EM 4000 3 [.int .u8 237] (.bool true) = true := by kernel_rfl
theorem many238 : comesTo EM 4000 3 [.int .u8 238] (.bool true) = true := by kernel_rfl
theorem many239 : comesTo EM 4000 3 [.int .u8 239] (.bool true) = true := by kernel_rfl
theorem many240 : comesTo EM 4000 3 [.int .u8 240] (.bool true) = true := by kernel_rfl
theorem many241 : comesTo EM 4000 3 [.int .u8 241] (.bool true) = true := by kernel_rfl
theorem many242 : comesTo EM 4000 3 [.int .u8 242] (.bool true) = true := by kernel_rfl
theorem many243 : comesTo EM 4000 3 [.int .u8 243] (.bool true) = true := by kernel_rfl
theorem many244 : comesTo EM 4000 3 [.int .u8 244] (.bool true) = true := by kernel_rfl
theorem many245 : comesTo EM 4000 3 [.int .u8 245] (.bool true) = true := by kernel_rfl
theorem many246 : comesTo EM 4000 3 [.int .u8 246] (.bool true) = true := by kernel_rfl
theorem many247 : comesTo EM 4000 3 [.int .u8 247] (.bool true) = true := by kernel_rfl
theorem many248 : comesTo EM 4000 3 [.int .u8 248] (.bool true) = true := by kernel_rfl
theorem many249 : comesTo EM 4000 3 [.int .u8 249] (.bool true) = true := by kernel_rfl
theorem many250 : comesTo EM 4000 3 [.int .u8 250] (.bool true) = true := by kernel_rfl
theorem many251 : comesTo EM 4000 3 [.int .u8 251] (.bool true) = true := by kernel_rfl
theorem many252 : comesTo EM 4000 3 [.int .u8 252] (.bool true) = true := by kernel_rfl
theorem many253 : comesTo EM 4000 3 [.int .u8 253] (.bool true) = true := by kernel_rfl
theorem many254 : comesTo EM 4000 3 [.int .u8 254] (.bool true) = true := by kernel_rfl
theorem many255 : comesTo EM 4000 3 [.int .u8 255] (.bool true) = true := by kernel_rfl
theorem manyL7 : ∀ n ∈ [224, 225, 226, 227, 228, 229, 230, 231, 232, 233, 234, 235, 236, 237, 238, 239, 240, 241, 242, 243, 244, 245, 246, 247, 248, 249, 250, 251, 252, 253, 254, 255], comesTo EM 4000 3 [.int .u8 (Int.ofNat n)] (.bool true) = true :=
  List.forall_mem_cons.2 ⟨many224, List.forall_mem_cons.2 ⟨many225, List.forall_mem_cons.2 ⟨many226, List.forall_mem_cons.2 ⟨many227, List.forall_mem_cons.2 ⟨many228, List.forall_mem_cons.2 ⟨many229, List.forall_mem_cons.2 ⟨many230, List.forall_mem_cons.2 ⟨many231, List.forall_mem_cons.2 ⟨many232, List.forall_mem_cons.2 ⟨many233, List.forall_mem_cons.2 ⟨many234, List.forall_mem_cons.2 ⟨many235, List.forall_mem_cons.2 ⟨many236, List.forall_mem_cons.2 ⟨many237, List.forall_mem_cons.2 ⟨many238, List.forall_mem_cons.2 ⟨many239, List.forall_mem_cons.2 ⟨many240, List.forall_mem_cons.2 ⟨many241, List.forall_mem_cons.2 ⟨many242, List.forall_mem_cons.2 ⟨many243, List.forall_mem_cons.2 ⟨many244, List.forall_mem_cons.2 ⟨many245, List.forall_mem_cons.2 ⟨many246, List.forall_mem_cons.2 ⟨many247, List.forall_mem_cons.2 ⟨many248, List.forall_mem_cons.2 ⟨many249, List.forall_mem_cons.2 ⟨many250, List.forall_mem_cons.2 ⟨many251, List.forall_mem_cons.2 ⟨many252, List.forall_mem_cons.2 ⟨many253, List.forall_mem_cons.2 ⟨many254, List.forall_mem_cons.2 ⟨many255, List.forall_mem_nil _⟩⟩⟩⟩⟩⟩⟩⟩⟩⟩⟩⟩⟩⟩⟩⟩⟩⟩⟩⟩⟩⟩⟩⟩⟩⟩⟩⟩⟩⟩⟩⟩
end Go.Hx
