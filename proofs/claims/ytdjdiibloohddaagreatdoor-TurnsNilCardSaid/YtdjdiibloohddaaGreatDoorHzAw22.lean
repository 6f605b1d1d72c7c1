/- The first run of layer 22. -/
import Derived.Test.YtdjdiibloohddaaGreatDoorHzAw
namespace Go.Hx
variable [Inp]
set_option linter.unusedSectionVars false
open Go.Proofs
set_option maxRecDepth 100000
def eAwake22 : SubE := ⟨19, [], [], [], .bool true⟩
theorem eAwake22_ok : eAwake22.Valid Tryz.prog := SubE.valid_of EA_ok (n := 4000) (by kernel_rfl : eAwake22.check EA 4000 = true)
def tabA22 : List SubE := [eAwake22]
theorem tabA22_ok : ∀ p ∈ tabA22, p.Valid Tryz.prog := by
  intro p hp
  simp only [tabA22, List.mem_cons, List.not_mem_nil, or_false] at hp
  rcases hp with rfl
  · exact eAwake22_ok
noncomputable def EA22 : Env := EA.with tabA22
theorem EA22_ok : EnvOK EA22 := Env.with_valid EA_ok tabA22_ok
end Go.Hx
