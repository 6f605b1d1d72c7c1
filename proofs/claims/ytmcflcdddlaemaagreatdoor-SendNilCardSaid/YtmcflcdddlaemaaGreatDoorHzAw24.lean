/- The first run of layer 24. -/
import Derived.Test.YtmcflcdddlaemaaGreatDoorHzAw
namespace Go.Hx
variable [Inp]
set_option linter.unusedSectionVars false
open Go.Proofs
set_option maxRecDepth 100000
def eAwake24 : SubE := ⟨13, [], [], [], .bool true⟩
theorem eAwake24_ok : eAwake24.Valid Tryz.prog := SubE.valid_of EA_ok (n := 4000) (by kernel_rfl : eAwake24.check EA 4000 = true)
def tabA24 : List SubE := [eAwake24]
theorem tabA24_ok : ∀ p ∈ tabA24, p.Valid Tryz.prog := by
  intro p hp
  simp only [tabA24, List.mem_cons, List.not_mem_nil, or_false] at hp
  rcases hp with rfl
  · exact eAwake24_ok
noncomputable def EA24 : Env := EA.with tabA24
theorem EA24_ok : EnvOK EA24 := Env.with_valid EA_ok tabA24_ok
end Go.Hx
