/- Many turns, at some numbers. -/
import Derived.Test.YtmcflcdddlaemaaGreatDoorHzEnc
namespace Go.Hx
open Go.Proofs
set_option maxRecDepth 100000
theorem many32 : comesTo EM 4000 3 [.int .u8 32] (.bool true) = true := by kernel_rfl
theorem many33 : comesTo EM 4000 3 [.int .u8 33] (.bool true) = true := by kernel_rfl
theorem many34 : comesTo EM 4000 3 [.int .u8 34] (.bool true) = true := by kernel_rfl
theorem many35 : comesTo EM 4000 3 [.int .u8 35] (.bool true) = true := by kernel_rfl
theorem many36 : comesTo EM 4000 3 [.int .u8 36] (.bool true) = true := by kernel_rfl
theorem many37 : comesTo EM 4000 3 [.int .u8 37] (.bool true) = true := by kernel_rfl
theorem many38 : comesTo EM 4000 3 [.int .u8 38] (.bool true) = true := by kernel_rfl
theorem many39 : comesTo EM 4000 3 [.int .u8 39] (.bool true) = true := by kernel_rfl
theorem many40 : comesTo EM 4000 3 [.int .u8 40] (.bool true) = true := by kernel_rfl
theorem many41 : comesTo EM 4000 3 [.int .u8 41] (.bool true) = true := by kernel_rfl
theorem many42 : comesTo EM 4000 3 [.int .u8 42] (.bool true) = true := by kernel_rfl
theorem many43 : comesTo EM 4000 3 [.int .u8 43] (.bool true) = true := by kernel_rfl
theorem many44 : comesTo EM 4000 3 [.int .u8 44] (.bool true) = true := by kernel_rfl
theorem many45 : comesTo EM 4000 3 [.int .u8 45] (.bool true) = true := by kernel_rfl
theorem many46 : comesTo EM 4000 3 [.int .u8 46] (.bool true) = true := by kernel_rfl
theorem many47 : comesTo EM 4000 3 [.int .u8 47] (.bool true) = true := by kernel_rfl
theorem many48 : comesTo EM 4000 3 [.int .u8 48] (.bool true) = true := by kernel_rfl
theorem many49 : comesTo EM 4000 3 [.int .u8 49] (.bool true) = true := by kernel_rfl
theorem many50 : comesTo EM 4000 3 [.int .u8 50] (.bool true) = true := by kernel_rfl
theorem many51 : comesTo EM 4000 3 [.int .u8 51] (.bool true) = true := by kernel_rfl
theorem many52 : comesTo EM 4000 3 [.int .u8 52] (.bool true) = true := by kernel_rfl
theorem many53 : comesTo EM 4000 3 [.int .u8 53] (.bool true) = true := by kernel_rfl
theorem many54 : comesTo EM 4000 3 [.int .u8 54] (.bool true) = true := by kernel_rfl
theorem many55 : comesTo EM 4000 3 [.int .u8 55] (.bool true) = true := by kernel_rfl
theorem many56 : comesTo EM 4000 3 [.int .u8 56] (.bool true) = true := by kernel_rfl
theorem many57 : comesTo EM 4000 3 [.int .u8 57] (.bool true) = true := by kernel_rfl
theorem many58 : comesTo EM 4000 3 [.int .u8 58] (.bool true) = true := by kernel_rfl
theorem many59 : comesTo EM 4000 3 [.int .u8 59] (.bool true) = true := by kernel_rfl
theorem many60 : comesTo EM 4000 3 [.int .u8 60] (.bool true) = true := by kernel_rfl
theorem many61 : comesTo EM 4000 3 [.int .u8 61] (.bool true) = true := by kernel_rfl
theorem many62 : comesTo EM 4000 3 [.int .u8 62] (.bool true) = true := by kernel_rfl
theorem many63 : comesTo EM 4000 3 [.int .u8 63] (.bool true) = true := by kernel_rfl
theorem manyL1 : ∀ n ∈ [32, 33, 34, 35, 36, 37, 38, 39, 40, 41, 42, 43, 44, 45, 46, 47, 48, 49, 50, 51, 52, 53, 54, 55, 56, 57, 58, 59, 60, 61, 62, 63], comesTo EM 4000 3 [.int .u8 (Int.ofNat n)] (.bool true) = true :=
  List.forall_mem_cons.2 ⟨many32, List.forall_mem_cons.2 ⟨many33, List.forall_mem_cons.2 ⟨many34, List.forall_mem_cons.2 ⟨many35, List.forall_mem_cons.2 ⟨many36, List.forall_mem_cons.2 ⟨many37, List.forall_mem_cons.2 ⟨many38, List.forall_mem_cons.2 ⟨many39, List.forall_mem_cons.2 ⟨many40, List.forall_mem_cons.2 ⟨many41, List.forall_mem_cons.2 ⟨many42, List.forall_mem_cons.2 ⟨many43, List.forall_mem_cons.2 ⟨many44, List.forall_mem_cons.2 ⟨many45, List.forall_mem_cons.2 ⟨many46, List.forall_mem_cons.2 ⟨many47, List.forall_mem_cons.2 ⟨many48, List.forall_mem_cons.2 ⟨many49, List.forall_mem_cons.2 ⟨many50, List.forall_mem_cons.2 ⟨many51, List.forall_mem_cons.2 ⟨many52, List.forall_mem_cons.2 ⟨many53, List.forall_mem_cons.2 ⟨many54, List.forall_mem_cons.2 ⟨many55, List.forall_mem_cons.2 ⟨many56, List.forall_mem_cons.2 ⟨many57, List.forall_mem_cons.2 ⟨many58, List.forall_mem_cons.2 ⟨many59, List.forall_mem_cons.2 ⟨many60, List.forall_mem_cons.2 ⟨many61, List.forall_mem_cons.2 ⟨many62, List.forall_mem_cons.2 ⟨many63, List.forall_mem_nil _⟩⟩⟩⟩⟩⟩⟩⟩⟩⟩⟩⟩⟩⟩⟩⟩⟩⟩⟩⟩⟩⟩⟩⟩⟩⟩⟩⟩⟩⟩⟩⟩
end Go.Hx
