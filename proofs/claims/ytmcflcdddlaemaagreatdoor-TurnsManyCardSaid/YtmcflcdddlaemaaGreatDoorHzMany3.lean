/- Many turns, at some numbers. -/
import Derived.Test.YtmcflcdddlaemaaGreatDoorHzEnc
namespace Go.Hx
open Go.Proofs
set_option maxRecDepth 100000
theorem many96 : comesTo EM 4000 3 [.int .u8 96] (.bool true) = true := by kernel_rfl
theorem many97 : comesTo EM 4000 3 [.int .u8 97] (.bool true) = true := by kernel_rfl
theorem many98 : comesTo EM 4000 3 [.int .u8 98] (.bool true) = true := by kernel_rfl
theorem many99 : comesTo EM 4000 3 [.int .u8 99] (.bool true) = true := by kernel_rfl
theorem many100 : comesTo EM 4000 3 [.int .u8 100] (.bool true) = true := by kernel_rfl
theorem many101 : comesTo EM 4000 3 [.int .u8 101] (.bool true) = true := by kernel_rfl
theorem many102 : comesTo EM 4000 3 [.int .u8 102] (.bool true) = true := by kernel_rfl
theorem many103 : comesTo EM 4000 3 [.int .u8 103] (.bool true) = true := by kernel_rfl
theorem many104 : comesTo EM 4000 3 [.int .u8 104] (.bool true) = true := by kernel_rfl
theorem many105 : comesTo EM 4000 3 [.int .u8 105] (.bool true) = true := by kernel_rfl
theorem many106 : comesTo EM 4000 3 [.int .u8 106] (.bool true) = true := by kernel_rfl
theorem many107 : comesTo EM 4000 3 [.int .u8 107] (.bool true) = true := by kernel_rfl
theorem many108 : comesTo EM 4000 3 [.int .u8 108] (.bool true) = true := by kernel_rfl
theorem many109 : comesTo EM 4000 3 [.int .u8 109] (.bool true) = true := by kernel_rfl
theorem many110 : comesTo EM 4000 3 [.int .u8 110] (.bool true) = true := by kernel_rfl
theorem many111 : comesTo EM 4000 3 [.int .u8 111] (.bool true) = true := by kernel_rfl
theorem many112 : comesTo EM 4000 3 [.int .u8 112] (.bool true) = true := by kernel_rfl
theorem many113 : comesTo EM 4000 3 [.int .u8 113] (.bool true) = true := by kernel_rfl
theorem many114 : comesTo EM 4000 3 [.int .u8 114] (.bool true) = true := by kernel_rfl
theorem many115 : comesTo EM 4000 3 [.int .u8 115] (.bool true) = true := by kernel_rfl
theorem many116 : comesTo EM 4000 3 [.int .u8 116] (.bool true) = true := by kernel_rfl
theorem many117 : comesTo EM 4000 3 [.int .u8 117] (.bool true) = true := by kernel_rfl
theorem many118 : comesTo EM 4000 3 [.int .u8 118] (.bool true) = true := by kernel_rfl
theorem many119 : comesTo EM 4000 3 [.int .u8 119] (.bool true) = true := by kernel_rfl
theorem many120 : comesTo EM 4000 3 [.int .u8 120] (.bool true) = true := by kernel_rfl
theorem many121 : comesTo EM 4000 3 [.int .u8 121] (.bool true) = true := by kernel_rfl
theorem many122 : comesTo EM 4000 3 [.int .u8 122] (.bool true) = true := by kernel_rfl
theorem many123 : comesTo EM 4000 3 [.int .u8 123] (.bool true) = true := by kernel_rfl
theorem many124 : comesTo EM 4000 3 [.int .u8 124] (.bool true) = true := by kernel_rfl
theorem many125 : comesTo EM 4000 3 [.int .u8 125] (.bool true) = true := by kernel_rfl
theorem many126 : comesTo EM 4000 3 [.int .u8 126] (.bool true) = true := by kernel_rfl
theorem many127 : comesTo EM 4000 3 [.int .u8 127] (.bool true) = true := by kernel_rfl
theorem manyL3 : ∀ n ∈ [96, 97, 98, 99, 100, 101, 102, 103, 104, 105, 106, 107, 108, 109, 110, 111, 112, 113, 114, 115, 116, 117, 118, 119, 120, 121, 122, 123, 124, 125, 126, 127], comesTo EM 4000 3 [.int .u8 (Int.ofNat n)] (.bool true) = true :=
  List.forall_mem_cons.2 ⟨many96, List.forall_mem_cons.2 ⟨many97, List.forall_mem_cons.2 ⟨many98, List.forall_mem_cons.2 ⟨many99, List.forall_mem_cons.2 ⟨many100, List.forall_mem_cons.2 ⟨many101, List.forall_mem_cons.2 ⟨many102, List.forall_mem_cons.2 ⟨many103, List.forall_mem_cons.2 ⟨many104, List.forall_mem_cons.2 ⟨many105, List.forall_mem_cons.2 ⟨many106, List.forall_mem_cons.2 ⟨many107, List.forall_mem_cons.2 ⟨many108, List.forall_mem_cons.2 ⟨many109, List.forall_mem_cons.2 ⟨many110, List.forall_mem_cons.2 ⟨many111, List.forall_mem_cons.2 ⟨many112, List.forall_mem_cons.2 ⟨many113, List.forall_mem_cons.2 ⟨many114, List.forall_mem_cons.2 ⟨many115, List.forall_mem_cons.2 ⟨many116, List.forall_mem_cons.2 ⟨many117, List.forall_mem_cons.2 ⟨many118, List.forall_mem_cons.2 ⟨many119, List.forall_mem_cons.2 ⟨many120, List.forall_mem_cons.2 ⟨many121, List.forall_mem_cons.2 ⟨many122, List.forall_mem_cons.2 ⟨many123, List.forall_mem_cons.2 ⟨many124, List.forall_mem_cons.2 ⟨many125, List.forall_mem_cons.2 ⟨many126, List.forall_mem_cons.2 ⟨many127, List.forall_mem_nil _⟩⟩⟩⟩⟩⟩⟩⟩⟩⟩⟩⟩⟩⟩⟩⟩⟩⟩⟩⟩⟩⟩⟩⟩⟩⟩⟩⟩⟩⟩⟩⟩
end Go.Hx
