/- CollectNil: for all whole numbers the law returns true, and nothing that was there before has turned. -/
import Derived.Test.YtdjdiibloohddaaGreatDoorHzWit
import Derived.Test.YtdjdiibloohddaaGreatDoorHxE
import Derived.Test.YtdjdiibloohddaaGreatDoorHzAw21
import Derived.Test.YtdjdiibloohddaaGreatDoorHzCollF
import Derived.Test.YtdjdiibloohddaaGreatDoorHzCollC
import Derived.Test.YtdjdiibloohddaaGreatDoorCards
import Derived.Test.YtdjdiibloohddaaGreatDoorTie
import Derived.SevenTiedAt
namespace Go.Proofs.YtdjdiibloohddaaGreatDoor.collectNil
open Go.ChangeShapes Go.WideShapes Go.ChangeAt Go.RowKit Go.Hx
set_option linter.unusedVariables false

def mn : Int := -9223372036854775808
def mx : Int := 9223372036854775807
def far : Int := 1099511627776

theorem run1 : comesTo EA21 4000 3 [.rng .i64 mn (-1), .rng .i64 mn 0] (.bool true) = true := by kernel_rfl
theorem run2 : comesTo EA21 4000 3 [.rng .i64 mn (-1), .rng .i64 1 mx] (.bool true) = true := by kernel_rfl
theorem run3 : comesTo EA21 4000 3 [.rng .i64 (far + 1) mx, .rng .i64 mn 0] (.bool true) = true := by kernel_rfl
theorem run4 : comesTo EA21 4000 3 [.rng .i64 (far + 1) mx, .rng .i64 1 mx] (.bool true) = true := by kernel_rfl
theorem run5 : comesTo EA21 4000 3 [.rng .i64 0 far, .rng .i64 mn 0] (.bool true) = true := by kernel_rfl
theorem run6 : comesTo EA21 4000 3 [.rng .i64 0 far, .rng .i64 1 mx] (.bool true) = true := by kernel_rfl

theorem i64_of_wf {a : Int} (h : (Lit.int .i64 a).wf = true) : mn ≤ a ∧ a ≤ mx := by
  have h1 : IntKind.i64.min = -9223372036854775808 := rfl
  have h2 : IntKind.i64.max = 9223372036854775807 := rfl
  simp only [Lit.wf, Bool.and_eq_true, decide_eq_true_eq, h1, h2] at h
  exact h

theorem ofRun {a b : AV} {a0 a1 : Int} (hrun : comesTo EA21 4000 3 [a, b] (.bool true) = true) (ha : ∀ [Inp] (ρ : Hx.Ren), VR ρ a (.int .i64 a0)) (hb : ∀ [Inp] (ρ : Hx.Ren), VR ρ b (.int .i64 a1)) (w : World) :
    Calls Tryz.prog 3 #[.int .i64 a0, .int .i64 a1] w fun e w' => e = .returned (.bool true) ∧ Below w.heap.size w w' := by
  letI : Inp := inpOf w (.int .i64 0) rfl
  refine (comesTo_calls EA21_ok hrun (w := w) (vargs := #[.int .i64 a0, .int .i64 a1]) (.cons (ha _) (.cons (hb _) .nil)) (fun b _ => rfl) (Nat.le_refl _)).mono ?_
  rintro e w' ⟨x, ρ', rfl, hx, hbel⟩
  cases hx
  exact ⟨rfl, hbel⟩

theorem walk (a0 a1 : Int) (w0 : (Lit.int .i64 a0).wf = true) (w1 : (Lit.int .i64 a1).wf = true) (w : World) :
    Calls Tryz.prog 3 #[.int .i64 a0, .int .i64 a1] w fun e w' => e = .returned (.bool true) ∧ Below w.heap.size w w' := by
  have r0 := i64_of_wf w0
  have r1 := i64_of_wf w1
  have hf : far = 1099511627776 := rfl
  by_cases h1 : a0 < 0
  · by_cases h2 : a1 < 1
    · exact ofRun run1 (fun _ => .rng r0.1 (by omega)) (fun _ => .rng r1.1 (by omega)) w
    · exact ofRun run2 (fun _ => .rng r0.1 (by omega)) (fun _ => .rng (by omega) r1.2) w
  by_cases h3 : a0 > far
  · by_cases h2 : a1 < 1
    · exact ofRun run3 (fun _ => .rng (by omega) r0.2) (fun _ => .rng r1.1 (by omega)) w
    · exact ofRun run4 (fun _ => .rng (by omega) r0.2) (fun _ => .rng (by omega) r1.2) w
  · by_cases h2 : a1 < 1
    · exact ofRun run5 (fun _ => .rng (by omega) (by omega)) (fun _ => .rng r1.1 (by omega)) w
    · exact ofRun run6 (fun _ => .rng (by omega) (by omega)) (fun _ => .rng (by omega) r1.2) w

theorem wit_ok (os : Os) : Input.okWideB Tryz.checked.prog ((laidW os).forCall (fun _ _ => 0) ⟨#[], #[.int .i64 0, .int .i64 0], []⟩) 3 ⟨#[], #[.int .i64 0, .int .i64 0], []⟩ = true := by kernel_rfl
theorem wit_pre (os : Os) (H : Type) (enc : TypeId × Value → H) : Rows.collectNilSpec.preB enc Tryz.checked.prog Tryz.f3 Rows.collectNilRow.domain false ((laidW os).forCall (fun _ _ => 0) ⟨#[], #[.int .i64 0, .int .i64 0], []⟩).memory #[.int .i64 0, .int .i64 0] 8 = true := by kernel_rfl
theorem wit_sized (os : Os) (H : Type) (enc : TypeId × Value → H) : Rows.collectNilSpec.sizedB enc Tryz.checked.prog Tryz.f3 false ((laidW os).forCall (fun _ _ => 0) ⟨#[], #[.int .i64 0, .int .i64 0], []⟩).memory #[.int .i64 0, .int .i64 0] 8 = true := by kernel_rfl

set_option maxRecDepth 100000 in
theorem lifted (os : Os) (started : os.Started) (H : Type) (enc : TypeId × Value → H) :
    ReturnsInHanded {} Tryz.checked os 3 .any (fun w args => (Rows.collectNilSpec.pre enc Tryz.prog Tryz.f3 Rows.collectNilRow.domain false w args ∧ laidMetH Tryz.prog Rows.collectNilRow.laid w) ∧ sizedMet enc Tryz.prog Tryz.f3 (OpenSpec.ofChange Rows.collectNilSpec) false w args)
      (Rows.collectNilSpec.post enc Tryz.prog Tryz.f3 false true false false) := by
  refine returnsInHanded_of_change_and (C := Tryz.checked) (X := fun w _ => laidMetH Tryz.prog Rows.collectNilRow.laid w) (fun _ _ _ hh h => h.of_heap hh) own started (by kernel_rfl) Tryz.func3
    (ChangeSpec.witness_shaped (enc := enc) (C := Tryz.checked) (os := os) (X := fun w _ => laidMetH Tryz.prog Rows.collectNilRow.laid w) false (laidW os) #[.int .i64 0, .int .i64 0] 8 (laidW_os os)
      (laidW_shaped os _) (wit_ok os) (wit_pre os H enc) (wit_sized os H enc) (laidW_met os _)) ?_
  intro W base args ds gs before hval0 hW hcnd _ _ _
  have hval : ∀ (j : Nat) t v, Tryz.f3.params[j]? = some t → args[j]? = some v → Value.okWide Tryz.prog W .any base t v := hval0
  have hW' := hW
  obtain ⟨p, q, hA0, hV, rfl, hfz, hnd⟩ := hW
  have hA : DataW.TrodAll enc Tryz.prog W 0 (fun _ => true) true Tryz.f3.params.toList args.toList ds p := hA0
  rw [Tryz.params3] at hA hval
  obtain ⟨v0, vs0, d0, ds0, p0, q0, hargs, rfl, rfl, h0, r0⟩ := trodAll_cons hA
  obtain ⟨v1, vs1, d1, ds1, p1, q1, rfl, rfl, rfl, h1, r1⟩ := trodAll_cons r0
  obtain ⟨rfl, rfl, rfl⟩ := trodAll_nil r1
  obtain rfl : args = #[v0, v1] := by cases args; simp_all
  obtain ⟨rfl, rfl⟩ := trodVars_none hV
  obtain ⟨a0, rfl, rfl, rfl, w0⟩ := open_int Tryz.underlying3 (hval 0 3 v0 rfl rfl) h0
  obtain ⟨a1, rfl, rfl, rfl, w1⟩ := open_int Tryz.underlying3 (hval 1 3 v1 rfl rfl) h1
  clear hA0 hval0
  simp only [List.append_nil] at hW'
  letI : Inp := inpOf W (.int .i64 0) rfl
  refine (walk a0 a1 w0 w1 W).mono fun e W' ⟨he, hg⟩ => ?_
  subst he
  exact ⟨_, rfl, post_of_below (pa := []) (pv := []) hW' (fun _ _ _ => (trodAll_cons_mk (shut_bool Tryz.underlying4 _) trodAll_mk0)) (fun sp _ => (trodAll_cons_mk (shut_int Tryz.underlying3 w0) (trodAll_cons_mk (shut_int Tryz.underlying3 w1) trodAll_mk0))) (fun _ _ => rfl) rfl
    hg (ok_one (by kernel_rfl) rfl (okWide_bool_mk Tryz.underlying4 _))⟩

theorem over : Rows.CollectNilSaid :=
  OpenClaim.holds_of_wide 3 Tryz.f3 rfl rfl rfl rfl rfl rfl rfl ⟨rfl, rfl, rfl, rfl, rfl⟩ rfl rfl rfl rfl rfl collectNilC.fnamed Tryz.func3 collectNilF.joined
    collectNilC.isInst (by unfold Func.isWrapper; first | (rw [if_pos (by decide +kernel)]; kernel_rfl) | (rw [if_neg (by decide +kernel)]; exact ⟨rfl, rfl⟩))
    (fun os started H enc _ => lifted os started H enc)

/-- THE STATEMENT -/
theorem proved : Rows.CollectNilCardSaid :=
  Claim7.holds_tied_plain_at .later [] _ _ _ _
    over (fun _ h => by cases h) collectNilC.wfT (fun _ h => by cases h) collectNil_row_tie rfl ⟨rfl, rfl⟩ collectNilC.mainIs rfl
    (fun f fn hf hfn => by
      obtain rfl : f = 3 := Option.some.inj (collectNilC.fnamed.symm.trans hf) |>.symm
      obtain rfl : fn = Tryz.f3 := (Option.some.inj (Tryz.func3.symm.trans hfn)).symm
      exact ⟨collectNilC.looks, fun j t ht => by
        rw [Tryz.params3] at ht
        have hm : t ∈ [3, 3] := by simpa using Array.mem_of_getElem? ht
        exact (show Tryz.prog.wantsStandIn t = false by simpa using List.all_eq_true.1 collectNilC.stand t hm)⟩)
    collectNilC.goes
#print axioms proved
end Go.Proofs.YtdjdiibloohddaaGreatDoor.collectNil
