/- Many turns, at some numbers. -/
import Derived.Test.YtmcflcdddlaemaaGreatDoorHzEnc
namespace Go.Hx
open Go.Proofs
set_option maxRecDepth 100000
theorem many160 : comesTo EM 4000 3 [.int .u8 160] (.bool true) = true := by kernel_rfl
theorem many161 : comesTo EM 4000 3 [.int .u8 161] (.bool true) = true := by kernel_rfl
theorem many162 : comesTo EM 4000 3 [.int .u8 162] (.bool true) = true := by kernel_rfl
theorem many163 : comesTo EM 4000 3 [.int .u8 163] (.bool true) = true := by kernel_rfl
theorem many164 : comesTo EM 4000 3 [.int .u8 164] (.bool true) = true := by kernel_rfl
theorem many165 : comesTo EM 4000 3 [.int .u8 165] (.bool true) = true := by kernel_rfl
theorem many166 : comesTo EM 4000 3 [.int .u8 166] (.bool true) = true := by kernel_rfl
theorem many167 : comesTo EM 4000 3 [.int .u8 167] (.bool true) = true := by kernel_rfl
theorem many168 : comesTo EM 4000 3 [.int .u8 168] (.bool true) = true := by kernel_rfl
theorem many169 : comesTo EM 4000 3 [.int .u8 169] (.bool true) = true := by kernel_rfl
theorem many170 : comesTo EM 4000 3 [.int .u8 170] (.bool true) = true := by kernel_rfl
theorem many171 : comesTo EM 4000 3 [.int .u8 171] (.bool true) = true := by kernel_rfl
theorem many172 : comesTo EM 4000 3 [.int .u8 172] (.bool true) = true := by kernel_rfl
theorem many173 : comesTo EM 4000 3 [.int .u8 173] (.bool true) = true := by kernel_rfl
theorem many174 : comesTo EM 4000 3 [.int .u8 174] (.bool true) = true := by kernel_rfl
theorem many175 : comesTo EM 4000 3 [.int .u8 175] (.bool true) = true := by kernel_rfl
theorem many176 : comesTo EM 4000 3 [.int .u8 176] (.bool true) = true := by kernel_rfl
theorem many177 : comesTo EM 4000 3 [.int .u8 177] (.bool true) = true := by kernel_rfl
theorem many178 : comesTo EM 4000 3 [.int .u8 178] (.bool true) = true := by kernel_rfl
theorem many179 : comesTo EM 4000 3 [.int .u8 179] (.bool true) = true := by kernel_rfl
theorem many180 : comesTo EM 4000 3 [.int .u8 180] (.bool true) = true := by kernel_rfl
theorem many181 : comesTo EM 4000 3 [.int .u8 181] (.bool true) = true := by kernel_rfl
theorem many182 : comesTo EM 4000 3 [.int .u8 182] (.bool true) = true := by kernel_rfl
theorem many183 : comesTo EM 4000 3 [.int .u8 183] (.bool true) = true := by kernel_rfl
theorem many184 : comesTo EM 4000 3 [.int .u8 184] (.bool true) = true := by kernel_rfl
theorem many185 : comesTo EM 4000 3 [.int .u8 185] (.bool true) = true := by kernel_rfl
theorem many186 : comesTo EM 4000 3 [.int .u8 186] (.bool true) = true := by kernel_rfl
theorem many187 : comesTo EM 4000 3 [.int .u8 187] (.bool true) = true := by kernel_rfl
theorem many188 : comesTo EM 4000 3 [.int .u8 188] (.bool true) = true := by kernel_rfl
theorem many189 : comesTo EM 4000 3 [.int .u8 189] (.bool true) = true := by kernel_rfl
theorem many190 : comesTo EM 4000 3 [.int .u8 190] (.bool true) = true := by kernel_rfl
theorem many191 : comesTo EM 4000 3 [.int .u8 191] (.bool true) = true := by kernel_rfl
theorem manyL5 : ∀ n ∈ [160, 161, 162, 163, 164, 165, 166, 167, 168, 169, 170, 171, 172, 173, 174, 175, 176, 177, 178, 179, 180, 181, 182, 183, 184, 185, 186, 187, 188, 189, 190, 191], comesTo EM 4000 3 [.int .u8 (Int.ofNat n)] (.bool true) = true :=
  List.forall_mem_cons.2 ⟨many160, List.forall_mem_cons.2 ⟨many161, List.forall_mem_cons.2 ⟨many162, List.forall_mem_cons.2 ⟨many163, List.forall_mem_cons.2 ⟨many164, List.forall_mem_cons.2 ⟨many165, List.forall_mem_cons.2 ⟨many166, List.forall_mem_cons.2 ⟨many167, List.forall_mem_cons.2 ⟨many168, List.forall_mem_cons.2 ⟨many169, List.forall_mem_cons.2 ⟨many170, List.forall_mem_cons.2 ⟨many171, List.forall_mem_cons.2 ⟨many172, List.forall_mem_cons.2 ⟨many173, List.forall_mem_cons.2 ⟨many174, List.forall_mem_cons.2 ⟨many175, List.forall_mem_cons.2 ⟨many176, List.forall_mem_cons.2 ⟨many177, List.forall_mem_cons.2 ⟨many178, List.forall_mem_cons.2 ⟨many179, List.forall_mem_cons.2 ⟨many180, List.forall_mem_cons.2 ⟨many181, List.forall_mem_cons.2 ⟨many182, List.forall_mem_cons.2 ⟨many183, List.forall_mem_cons.2 ⟨many184, List.forall_mem_cons.2 ⟨many185, List.forall_mem_cons.2 ⟨many186, List.forall_mem_cons.2 ⟨many187, List.forall_mem_cons.2 ⟨many188, List.forall_mem_cons.2 ⟨many189, List.forall_mem_cons.2 ⟨many190, List.forall_mem_cons.2 ⟨many191, List.forall_mem_nil _⟩⟩⟩⟩⟩⟩⟩⟩⟩⟩⟩⟩⟩⟩⟩⟩⟩⟩⟩⟩⟩⟩⟩⟩⟩⟩⟩⟩⟩⟩⟩⟩
end Go.Hx
