/- The first run of layer 20. -/
import Derived.Test.YtdjdiibloohddaaGreatDoorHzTX
import Derived.Test.YtdjdiibloohddaaGreatDoorHzTK
namespace Go.Hx
variable [Inp]
set_option linter.unusedSectionVars false
open Go.Proofs
set_option maxRecDepth 100000
def tabX : List SubE := [eX0, eX1, eX2, eX3, eX4, eX5, eX6, ePublic, eLeaf]
theorem tabX_ok : ∀ p ∈ tabX, p.Valid Tryz.prog := by
  intro p hp
  simp only [tabX, List.mem_cons, List.not_mem_nil, or_false] at hp
  rcases hp with rfl | rfl | rfl | rfl | rfl | rfl | rfl | rfl | rfl
  · exact eX0_ok
  · exact eX1_ok
  · exact eX2_ok
  · exact eX3_ok
  · exact eX4_ok
  · exact eX5_ok
  · exact eX6_ok
  · exact ePublic_ok
  · exact eLeaf_ok
noncomputable def EX : Env := E0.with tabX
theorem EX_ok : EnvOK EX := Env.with_valid E0_ok tabX_ok
def eAwake : SubE := ⟨38, [], [], [], .bool true⟩
theorem eAwake_ok : eAwake.Valid Tryz.prog := SubE.valid_of EX_ok (n := 4000) (by kernel_rfl : eAwake.check EX 4000 = true)
def tabA : List SubE := [eAwake]
theorem tabA_ok : ∀ p ∈ tabA, p.Valid Tryz.prog := by
  intro p hp
  simp only [tabA, List.mem_cons, List.not_mem_nil, or_false] at hp
  rcases hp with rfl
  · exact eAwake_ok
noncomputable def EA : Env := EX.with tabA
theorem EA_ok : EnvOK EA := Env.with_valid EX_ok tabA_ok
end Go.Hx
