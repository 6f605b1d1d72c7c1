/- A key's sums, not known. -/
import Derived.Test.YtdjdiibloohddaaGreatDoorHzTS
namespace Go.Hx
variable [Inp]
set_option linter.unusedSectionVars false
open Go.Proofs
set_option maxRecDepth 100000
def eSecret : SubE := ⟨210, [.agg (anyB 32)] ++ anyW 1 ++ anyB 1, [], [], .agg (anyB 32)⟩
theorem eSecret_ok : eSecret.Valid Tryz.prog := SubE.valid_of ES_ok (n := 4000) (by kernel_rfl : eSecret.check ES 4000 = true)
def eStep : SubE := ⟨270, [.agg (anyW 1 ++ anyB 2), .agg (anyB 32)], [], [], .agg (anyB 32)⟩
theorem eStep_ok : eStep.Valid Tryz.prog := SubE.valid_of ES_ok (n := 4000) (by kernel_rfl : eStep.check ES 4000 = true)
def eLeaf : SubE := ⟨123, [.agg (anyB 32)], [], [], .agg (anyB 32)⟩
theorem eLeaf_ok : eLeaf.Valid Tryz.prog := SubE.valid_of ES_ok (n := 4000) (by kernel_rfl : eLeaf.check ES 4000 = true)
def tabC : List SubE := [eSecret, eStep, eLeaf]
theorem tabC_ok : ∀ p ∈ tabC, p.Valid Tryz.prog := by
  intro p hp
  simp only [tabC, List.mem_cons, List.not_mem_nil, or_false] at hp
  rcases hp with rfl | rfl | rfl
  · exact eSecret_ok
  · exact eStep_ok
  · exact eLeaf_ok
noncomputable def EC : Env := ES.with tabC
theorem EC_ok : EnvOK EC := Env.with_valid ES_ok tabC_ok
def eClimb : SubE := ⟨209, anyW 1 ++ anyB 1 ++ [.agg (anyB 32), .int .i64 (0), .int .i64 (15)], [], [], .tup ([.agg (anyB 32), .int .i64 (0)])⟩
theorem eClimb_ok : eClimb.Valid Tryz.prog := SubE.valid_of EC_ok (n := 4000) (by kernel_rfl : eClimb.check EC 4000 = true)
def ePress : SubE := ⟨211, [.ptr 0 0], [(anyB 2144, 2144)], [(anyB 2144, 2144)], .agg (anyB 32)⟩
theorem ePress_ok : ePress.Valid Tryz.prog := SubE.valid_of EC_ok (n := 4000) (by kernel_rfl : ePress.check EC 4000 = true)
def tabP : List SubE := [eClimb, ePress]
theorem tabP_ok : ∀ p ∈ tabP, p.Valid Tryz.prog := by
  intro p hp
  simp only [tabP, List.mem_cons, List.not_mem_nil, or_false] at hp
  rcases hp with rfl | rfl
  · exact eClimb_ok
  · exact ePress_ok
noncomputable def EP : Env := EC.with tabP
theorem EP_ok : EnvOK EP := Env.with_valid EC_ok tabP_ok
def ePublic : SubE := ⟨124, [.agg (anyB 32)] ++ anyW 1, [], [], .agg (anyB 32)⟩
theorem ePublic_ok : ePublic.Valid Tryz.prog := SubE.valid_of EP_ok (n := 4000) (by kernel_rfl : ePublic.check EP 4000 = true)
end Go.Hx
