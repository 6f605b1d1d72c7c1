/- A request for the head, written. -/
import Derived.Test.YtmcflcdddlaemaaGreatDoorHxE
import Derived.Test.YtmcflcdddlaemaaGreatDoorHzAw22
namespace Go.Hx
variable [Inp]
set_option linter.unusedSectionVars false
open Go.Proofs
set_option maxRecDepth 100000
def eEnc : SubE := ⟨37, [.agg ([.int .i64 (18), .str [], .str []] ++ byt [0, 0, 0, 0, 0, 0, 0, 0, 0, 0, 0, 0, 0, 0, 0, 0, 0, 0, 0, 0, 0, 0, 0, 0, 0, 0, 0, 0, 0, 0, 0, 0] ++ [.int .i64 (0), .int .i64 (0), .int .i64 (0), .nilslice])], [], [], .tup ([.any, .int .i64 (0)])⟩
theorem eEnc_ok : eEnc.Valid Tryz.prog := SubE.valid_ofW EA22_ok (n := 4000) (by kernel_rfl : eEnc.checkW EA22 4000 = true)
def tabM : List SubE := [eEnc]
theorem tabM_ok : ∀ p ∈ tabM, p.Valid Tryz.prog := by
  intro p hp
  simp only [tabM, List.mem_cons, List.not_mem_nil, or_false] at hp
  rcases hp with rfl
  · exact eEnc_ok
noncomputable def EM : Env := EA22.with tabM
theorem EM_ok : EnvOK EM := Env.with_valid EA22_ok tabM_ok
end Go.Hx
