/- A copy of bytes that came in. -/
import Derived.Test.YtdjdiibloohddaaGreatDoorHzEnv
import Derived.Test.YtdjdiibloohddaaGreatDoorHzTw
namespace Go.Hx
variable [Inp]
set_option linter.unusedSectionVars false
open Go.Proofs Go.RowKit

/-! ### bytes that came in -/
/-- each value that came in is a slice of bytes -/
def InpBytes : Prop := ∀ k, (∃ a c, Inp.val k = .slice a 0 c) ∨ ∃ b off n c cs t fr, Inp.val k = .slice (some ⟨b, off, none⟩) n c ∧ b < Inp.size ∧ n ≤ 140737488351232 ∧ Inp.heap b = some (.cells cs t fr) ∧ ∀ i, i < n → ∃ x, cs[off + i]? = some (.int .u8 x)

theorem twin_ok (hi : InpBytes) (k : Nat) (h : AH) : SumOK Tryz.prog 13 [.inp k] h .any h := by
  intro ρ w vargs hr hf hv
  have hva : vargs = #[Inp.val k] := by
    generalize hus : vargs.toList = us at hv
    cases hv with | cons h1 h2 =>
    cases h2
    cases h1 with | inp hp =>
    rw [← hp] at hus
    exact Array.toList_inj.1 hus
  rcases hi k with ⟨a, c, e⟩ | ⟨b, off, n, c, cs, t, fr, e, hb, hn, hc, hx⟩
  · rw [e] at hva
    subst hva
    refine (Tryz.twin0_in w a c).mono ?_
    rintro e w' ⟨rfl, hbel⟩
    exact ⟨_, ρ, rfl, Stp.below hr hbel, .any rfl⟩
  · rw [e] at hva
    subst hva
    have hw : w.heap[b]? = some (.cells cs t fr) := by rw [hr.base.inp b hb, hc]
    refine (Tryz.twin_in w b off n c hn (fun i hi => ?_)).mono ?_
    · obtain ⟨x, h1⟩ := hx i hi
      exact ⟨x, by simp [World.cell?, hw, h1]⟩
    · rintro e w' ⟨⟨v, xs, rfl, hrow⟩, hbel⟩
      refine ⟨v, ρ, rfl, Stp.below hr hbel, .any ?_⟩
      rcases hrow.2 with ⟨rfl, _⟩ | ⟨g, cap, cur, rfl, _⟩ <;> rfl

def twinF (E : Env) (f : FuncId) (args : List AV) (h : AH) : Option (Option (AV × AH)) :=
  if Nat.beq f 13 then (match args with
    | [.inp _] => some (some (.any, h))
    | _ => E.sum f args h) else E.sum f args h

/-- an executor that copies what came in -/
def Env.twin (E : Env) : Env := { E with sum := twinF E }

theorem Env.twin_sound {E : Env} (ok : EnvOK E) (hP : E.P = Tryz.prog) (hi : InpBytes) : EnvOK E.twin where
  mixed := ok.mixed
  num := ok.num
  ext := ok.ext
  sum f args h v h' hx := by
    have hx' : twinF E f args h = some (some (v, h')) := hx
    unfold twinF at hx'
    split at hx'
    · rename_i hf
      have hf := beq_yes hf
      split at hx'
      · rename_i k
        cases hx'
        subst hf
        refine ⟨Nat.le_refl _, ?_⟩
        show SumOK E.P _ _ _ _ _
        rw [hP]
        exact twin_ok hi k h
      · exact ok.sum f args h v h' hx'
    · exact ok.sum f args h v h' hx'
#print axioms Env.twin_sound
end Go.Hx
