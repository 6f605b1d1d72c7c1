/- The first run of layer 21. -/
import Derived.Test.YtdjdiibloohddaaGreatDoorHzTY
import Derived.Test.YtdjdiibloohddaaGreatDoorHzAw
namespace Go.Hx
variable [Inp]
set_option linter.unusedSectionVars false
open Go.Proofs
set_option maxRecDepth 100000
def tabY : List SubE := [eY0, eY1, eY2, eY3, eY4, eY5, eY6, eY7]
theorem tabY_ok : ∀ p ∈ tabY, p.Valid Tryz.prog := by
  intro p hp
  simp only [tabY, List.mem_cons, List.not_mem_nil, or_false] at hp
  rcases hp with rfl | rfl | rfl | rfl | rfl | rfl | rfl | rfl
  · exact eY0_ok
  · exact eY1_ok
  · exact eY2_ok
  · exact eY3_ok
  · exact eY4_ok
  · exact eY5_ok
  · exact eY6_ok
  · exact eY7_ok
noncomputable def EY : Env := EA.with tabY
theorem EY_ok : EnvOK EY := Env.with_valid EA_ok tabY_ok
def eAwake21 : SubE := ⟨9, [], [], [], .bool true⟩
theorem eAwake21_ok : eAwake21.Valid Tryz.prog := SubE.valid_of EY_ok (n := 4000) (by kernel_rfl : eAwake21.check EY 4000 = true)
def tabA21 : List SubE := [eAwake21]
theorem tabA21_ok : ∀ p ∈ tabA21, p.Valid Tryz.prog := by
  intro p hp
  simp only [tabA21, List.mem_cons, List.not_mem_nil, or_false] at hp
  rcases hp with rfl
  · exact eAwake21_ok
noncomputable def EA21 : Env := EY.with tabA21
theorem EA21_ok : EnvOK EA21 := Env.with_valid EY_ok tabA21_ok
end Go.Hx
