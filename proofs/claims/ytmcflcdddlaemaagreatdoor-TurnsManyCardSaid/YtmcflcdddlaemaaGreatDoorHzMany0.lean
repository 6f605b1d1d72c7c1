/- Many turns, at some numbers. -/
import Derived.Test.YtmcflcdddlaemaaGreatDoorHzEnc
namespace Go.Hx
open Go.Proofs
set_option maxRecDepth 100000
theorem many0 : comesTo EM 4000 3 [.int .u8 0] (.bool true) = true := by kernel_rfl
theorem many1 : comesTo EM 4000 3 [.int .u8 1] (.bool true) = true := by kernel_rfl
theorem many2 : comesTo EM 4000 3 [.int .u8 2] (.bool true) = true := by kernel_rfl
theorem many3 : comesTo EM 4000 3 [.int .u8 3] (.bool true) = true := by kernel_rfl
theorem many4 : comesTo EM 4000 3 [.int .u8 4] (.bool true) = true := by kernel_rfl
theorem many5 : comesTo EM 4000 3 [.int .u8 5] (.bool true) = true := by kernel_rfl
theorem many6 : comesTo EM 4000 3 [.int .u8 6] (.bool true) = true := by kernel_rfl
theorem many7 : comesTo EM 4000 3 [.int .u8 7] (.bool true) = true := by kernel_rfl
theorem many8 : comesTo EM 4000 3 [.int .u8 8] (.bool true) = true := by kernel_rfl
theorem many9 : comesTo EM 4000 3 [.int .u8 9] (.bool true) = true := by kernel_rfl
theorem many10 : comesTo EM 4000 3 [.int .u8 10] (.bool true) = true := by kernel_rfl
theorem many11 : comesTo EM 4000 3 [.int .u8 11] (.bool true) = true := by kernel_rfl
theorem many12 : comesTo EM 4000 3 [.int .u8 12] (.bool true) = true := by kernel_rfl
theorem many13 : comesTo EM 4000 3 [.int .u8 13] (.bool true) = true := by kernel_rfl
theorem many14 : comesTo EM 4000 3 [.int .u8 14] (.bool true) = true := by kernel_rfl
theorem many15 : comesTo EM 4000 3 [.int .u8 15] (.bool true) = true := by kernel_rfl
theorem many16 : comesTo EM 4000 3 [.int .u8 16] (.bool true) = true := by kernel_rfl
theorem many17 : comesTo EM 4000 3 [.int .u8 17] (.bool true) = true := by kernel_rfl
theorem many18 : comesTo EM 4000 3 [.int .u8 18] (.bool true) = true := by kernel_rfl
theorem many19 : comesTo EM 4000 3 [.int .u8 19] (.bool true) = true := by kernel_rfl
theorem many20 : comesTo EM 4000 3 [.int .u8 20] (.bool true) = true := by kernel_rfl
theorem many21 : comesTo EM 4000 3 [.int .u8 21] (.bool true) = true := by kernel_rfl
theorem many22 : comesTo EM 4000 3 [.int .u8 22] (.bool true) = true := by kernel_rfl
theorem many23 : comesTo EM 4000 3 [.int .u8 23] (.bool true) = true := by kernel_rfl
theorem many24 : comesTo EM 4000 3 [.int .u8 24] (.bool true) = true := by kernel_rfl
theorem many25 : comesTo EM 4000 3 [.int .u8 25] (.bool true) = true := by kernel_rfl
theorem many26 : comesTo EM 4000 3 [.int .u8 26] (.bool true) = true := by kernel_rfl
theorem many27 : comesTo EM 4000 3 [.int .u8 27] (.bool true) = true := by kernel_rfl
theorem many28 : comesTo EM 4000 3 [.int .u8 28] (.bool true) = true := by kernel_rfl
theorem many29 : comesTo EM 4000 3 [.int .u8 29] (.bool true) = true := by kernel_rfl
theorem many30 : comesTo EM 4000 3 [.int .u8 30] (.bool true) = true := by kernel_rfl
theorem many31 : comesTo EM 4000 3 [.int .u8 31] (.bool true) = true := by kernel_rfl
theorem manyL0 : ∀ n ∈ [0, 1, 2, 3, 4, 5, 6, 7, 8, 9, 10, 11, 12, 13, 14, 15, 16, 17, 18, 19, 20, 21, 22, 23, 24, 25, 26, 27, 28, 29, 30, 31], comesTo EM 4000 3 [.int .u8 (Int.ofNat n)] (.bool true) = true :=
  List.forall_mem_cons.2 ⟨many0, List.forall_mem_cons.2 ⟨many1, List.forall_mem_cons.2 ⟨many2, List.forall_mem_cons.2 ⟨many3, List.forall_mem_cons.2 ⟨many4, List.forall_mem_cons.2 ⟨many5, List.forall_mem_cons.2 ⟨many6, List.forall_mem_cons.2 ⟨many7, List.forall_mem_cons.2 ⟨many8, List.forall_mem_cons.2 ⟨many9, List.forall_mem_cons.2 ⟨many10, List.forall_mem_cons.2 ⟨many11, List.forall_mem_cons.2 ⟨many12, List.forall_mem_cons.2 ⟨many13, List.forall_mem_cons.2 ⟨many14, List.forall_mem_cons.2 ⟨many15, List.forall_mem_cons.2 ⟨many16, List.forall_mem_cons.2 ⟨many17, List.forall_mem_cons.2 ⟨many18, List.forall_mem_cons.2 ⟨many19, List.forall_mem_cons.2 ⟨many20, List.forall_mem_cons.2 ⟨many21, List.forall_mem_cons.2 ⟨many22, List.forall_mem_cons.2 ⟨many23, List.forall_mem_cons.2 ⟨many24, List.forall_mem_cons.2 ⟨many25, List.forall_mem_cons.2 ⟨many26, List.forall_mem_cons.2 ⟨many27, List.forall_mem_cons.2 ⟨many28, List.forall_mem_cons.2 ⟨many29, List.forall_mem_cons.2 ⟨many30, List.forall_mem_cons.2 ⟨many31, List.forall_mem_nil _⟩⟩⟩⟩⟩⟩⟩⟩⟩⟩⟩⟩⟩⟩⟩⟩⟩⟩⟩⟩⟩⟩⟩⟩⟩⟩⟩⟩⟩⟩⟩⟩
end Go.Hx
