/- The executor's surroundings at this program: the two functions without a body, the disk's sum of lengths, the sorted keys, a copy of what came in. -/
import Derived.Test.YtdjdiibloohddaaGreatDoorHzSo
import Derived.Test.YtdjdiibloohddaaGreatDoorHzUs
import Derived.Test.YtdjdiibloohddaaGreatDoorHxE
namespace Go.Hx
variable [Inp]
set_option linter.unusedSectionVars false
open Go.Proofs Go.RowKit

theorem fn_all {P : Program} {p : Func → Bool} (h : P.funcs.toList.all p = true) (f : FuncId) (fn : Func) (hf : P.funcs[f]? = some fn) : p fn = true := by
  have hm : fn ∈ P.funcs.toList := by
    rw [← Array.getElem?_toList] at hf
    exact List.mem_of_getElem? hf
  exact (List.all_eq_true.1 h) fn hm

theorem ext_ok : ExtOK Tryz.prog 316 323 where
  ix fn hf := by
    have h := Tryz.func316.symm.trans hf
    cases h
    exact ⟨by kernel_rfl, by kernel_rfl, by rfl, by rfl⟩
  ct fn hf := by
    have h := Tryz.func323.symm.trans hf
    cases h
    exact ⟨by kernel_rfl, by kernel_rfl, by rfl, by rfl⟩

def sum0 (f : FuncId) (args : List AV) (h : AH) : Option (Option (AV × AH)) :=
  if Nat.beq f 280 then some (usedA args h) else if Nat.beq f 107 then some (sortedA keysS [181, 253] args h) else if Nat.beq f 47 then some (sortedA keysI [94, 252] args h) else none

noncomputable def E0 : Env := { P := Tryz.prog, ext := ext2 316 323, sum := sum0 }

theorem E0_ok : EnvOK E0 where
  mixed := by kernel_rfl
  num f fn hf := by
    have h : (Tryz.prog.funcs.toList.all fun fn => !(fn.name == "runtime.NumGoroutine")) = true := by kernel_rfl
    have := fn_all h f fn hf
    simpa using this
  ext g fn args v hf hb hx ρ w vargs hv := ext2_sound ext_ok g fn args v hf hb hx ρ w vargs hv
  sum f args h v h' hx := by
    have hx' : sum0 f args h = some (some (v, h')) := hx
    unfold sum0 at hx'
    split at hx'
    · rename_i hf
      have hf := beq_yes hf
      subst hf
      exact used_ok (Option.some.inj hx')
    · split at hx'
      · rename_i hf
        have hf := beq_yes hf
        subst hf
        refine sortedS_ok (kt := 9) (by kernel_rfl) (gs := [181, 253]) ?_ (Option.some.inj hx')
        intro g hg
        rcases List.mem_cons.1 hg with rfl | hg
        · exact Tryz.sortedA
        · rcases List.mem_cons.1 hg with rfl | hg
          · exact Tryz.sortedB
          · cases hg
      · split at hx'
        · rename_i hf
          have hf := beq_yes hf
          subst hf
          refine sortedI_ok (kt := 3) (by kernel_rfl) (gs := [94, 252]) ?_ (Option.some.inj hx')
          intro g hg
          rcases List.mem_cons.1 hg with rfl | hg
          · exact Tryz.sortedC
          · rcases List.mem_cons.1 hg with rfl | hg
            · exact Tryz.sortedD
            · cases hg
        · cases hx'

end Go.Hx
