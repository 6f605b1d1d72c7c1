/- Sums of bytes that are not known. -/
import Derived.Test.YtdjdiibloohddaaGreatDoorHzB0
import Derived.Test.YtdjdiibloohddaaGreatDoorHzB1
import Derived.Test.YtdjdiibloohddaaGreatDoorHzB2
import Derived.Test.YtdjdiibloohddaaGreatDoorHzB3
namespace Go.Hx
variable [Inp]
set_option linter.unusedSectionVars false
open Go.Proofs
set_option maxRecDepth 100000
def tabB : List SubE := [eBlk0, eBlk1, eBlk2, eBlk3, eBlk4, eBlk5, eBlk6, eBlk7, eBlk8, eBlk9, eBlk10, eBlk11, eBlk12, eBlk13, eBlk14, eBlk15, eBlk16, eBlk17, eBlk18, eBlk19, eBlk20, eBlk21, eBlk22, eBlk23, eBlk24, eBlk25, eBlk26, eBlk27, eBlk28, eBlk29, eBlk30, eBlk31, eBlk32]
theorem tabB_ok : ∀ p ∈ tabB, p.Valid Tryz.prog := by
  intro p hp
  simp only [tabB, List.mem_cons, List.not_mem_nil, or_false] at hp
  rcases hp with rfl | rfl | rfl | rfl | rfl | rfl | rfl | rfl | rfl | rfl | rfl | rfl | rfl | rfl | rfl | rfl | rfl | rfl | rfl | rfl | rfl | rfl | rfl | rfl | rfl | rfl | rfl | rfl | rfl | rfl | rfl | rfl | rfl
  · exact eBlk0_ok
  · exact eBlk1_ok
  · exact eBlk2_ok
  · exact eBlk3_ok
  · exact eBlk4_ok
  · exact eBlk5_ok
  · exact eBlk6_ok
  · exact eBlk7_ok
  · exact eBlk8_ok
  · exact eBlk9_ok
  · exact eBlk10_ok
  · exact eBlk11_ok
  · exact eBlk12_ok
  · exact eBlk13_ok
  · exact eBlk14_ok
  · exact eBlk15_ok
  · exact eBlk16_ok
  · exact eBlk17_ok
  · exact eBlk18_ok
  · exact eBlk19_ok
  · exact eBlk20_ok
  · exact eBlk21_ok
  · exact eBlk22_ok
  · exact eBlk23_ok
  · exact eBlk24_ok
  · exact eBlk25_ok
  · exact eBlk26_ok
  · exact eBlk27_ok
  · exact eBlk28_ok
  · exact eBlk29_ok
  · exact eBlk30_ok
  · exact eBlk31_ok
  · exact eBlk32_ok
noncomputable def EB : Env := ER.with tabB
theorem EB_ok : EnvOK EB := Env.with_valid ER_ok tabB_ok
def eSum38 : SubE := ⟨41, [.slice 0 0 38 false 0], [(anyB 38, 1)], [(anyB 38, 1)], .agg (anyB 32)⟩
theorem eSum38_ok : eSum38.Valid Tryz.prog := SubE.valid_of EB_ok (n := 4000) (by kernel_rfl : eSum38.check EB 4000 = true)
def eSum39 : SubE := ⟨41, [.slice 0 0 39 true 39], [(anyB 39, 1)], [(anyB 39, 1)], .agg (anyB 32)⟩
theorem eSum39_ok : eSum39.Valid Tryz.prog := SubE.valid_of EB_ok (n := 4000) (by kernel_rfl : eSum39.check EB 4000 = true)
def eSum33 : SubE := ⟨41, [.slice 0 0 33 false 0], [(anyB 33, 1)], [(anyB 33, 1)], .agg (anyB 32)⟩
theorem eSum33_ok : eSum33.Valid Tryz.prog := SubE.valid_of EB_ok (n := 4000) (by kernel_rfl : eSum33.check EB 4000 = true)
def eSum2145 : SubE := ⟨41, [.slice 0 0 2145 true 2145], [(anyB 2145, 1)], [(anyB 2145, 1)], .agg (anyB 32)⟩
theorem eSum2145_ok : eSum2145.Valid Tryz.prog := SubE.valid_of EB_ok (n := 4000) (by kernel_rfl : eSum2145.check EB 4000 = true)
def tabS : List SubE := [eSum38, eSum39, eSum33, eSum2145]
theorem tabS_ok : ∀ p ∈ tabS, p.Valid Tryz.prog := by
  intro p hp
  simp only [tabS, List.mem_cons, List.not_mem_nil, or_false] at hp
  rcases hp with rfl | rfl | rfl | rfl
  · exact eSum38_ok
  · exact eSum39_ok
  · exact eSum33_ok
  · exact eSum2145_ok
noncomputable def ES : Env := EB.with tabS
theorem ES_ok : EnvOK ES := Env.with_valid EB_ok tabS_ok
end Go.Hx
