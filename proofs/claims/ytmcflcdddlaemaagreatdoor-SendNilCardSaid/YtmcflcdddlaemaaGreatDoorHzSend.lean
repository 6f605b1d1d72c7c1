/- SendNil: for all bytes the law returns true, and nothing that was there before has turned. -/
import Derived.Test.YtmcflcdddlaemaaGreatDoorHzWit
import Derived.Test.YtmcflcdddlaemaaGreatDoorHxE
import Derived.Test.YtmcflcdddlaemaaGreatDoorHzAw24
import Derived.Test.YtmcflcdddlaemaaGreatDoorCards
import Derived.Test.YtmcflcdddlaemaaGreatDoorTie
import Derived.SevenTiedAt
import Derived.Test.YtmcflcdddlaemaaGreatDoorHzSendF
import Derived.Test.YtmcflcdddlaemaaGreatDoorHzSendC
namespace Go.Proofs.YtmcflcdddlaemaaGreatDoor.sendNil
open Go.ChangeShapes Go.WideShapes Go.ChangeAt Go.RowKit Go.Hx
set_option linter.unusedVariables false

theorem laidOut : laidOutB Tryz.prog = true := by kernel_rfl

theorem runs : comesTo EA24 4000 4 [.any] (.bool true) = true := by kernel_rfl

theorem walk (a0 : Option Addr) (len0 cap0 : Nat) (w : World) : Calls Tryz.prog 4 #[.slice a0 len0 cap0] w fun e w' => e = .returned (.bool true) ∧ Below w.heap.size w w' := by
  letI : Inp := inpOf w (.int .i64 0) rfl
  refine (comesTo_calls EA24_ok runs (w := w) (vargs := #[.slice a0 len0 cap0]) (.cons (.any rfl) .nil) (fun b _ => rfl) (Nat.le_refl _)).mono ?_
  rintro e w' ⟨x, ρ', rfl, hx, hb⟩
  cases hx
  exact ⟨rfl, hb⟩

theorem wit_ok (os : Os) : Input.okWideB Tryz.checked.prog ((laidW os).forCall (fun _ _ => 0) ⟨#[], #[.slice none 0 0], []⟩) 4 ⟨#[], #[.slice none 0 0], []⟩ = true := by kernel_rfl
theorem wit_pre (os : Os) (H : Type) (enc : TypeId × Value → H) : Rows.sendNilSpec.preB enc Tryz.checked.prog Tryz.f4 Rows.sendNilRow.domain false ((laidW os).forCall (fun _ _ => 0) ⟨#[], #[.slice none 0 0], []⟩).memory #[.slice none 0 0] 8 = true := by kernel_rfl
theorem wit_sized (os : Os) (H : Type) (enc : TypeId × Value → H) : Rows.sendNilSpec.sizedB enc Tryz.checked.prog Tryz.f4 false ((laidW os).forCall (fun _ _ => 0) ⟨#[], #[.slice none 0 0], []⟩).memory #[.slice none 0 0] 8 = true := by kernel_rfl

set_option maxRecDepth 100000 in
theorem lifted (os : Os) (started : os.Started) (H : Type) (enc : TypeId × Value → H) :
    ReturnsInHanded {} Tryz.checked os 4 .any (fun w args => (Rows.sendNilSpec.pre enc Tryz.prog Tryz.f4 Rows.sendNilRow.domain false w args ∧ laidMetH Tryz.prog Rows.sendNilRow.laid w) ∧ sizedMet enc Tryz.prog Tryz.f4 (OpenSpec.ofChange Rows.sendNilSpec) false w args)
      (Rows.sendNilSpec.post enc Tryz.prog Tryz.f4 false true false false) := by
  refine returnsInHanded_of_change_and (C := Tryz.checked) (X := fun w _ => laidMetH Tryz.prog Rows.sendNilRow.laid w) (fun _ _ _ hh h => h.of_heap hh) own started (by kernel_rfl) Tryz.func4
    (ChangeSpec.witness_shaped (enc := enc) (C := Tryz.checked) (os := os) (X := fun w _ => laidMetH Tryz.prog Rows.sendNilRow.laid w) false (laidW os) #[.slice none 0 0] 8 (laidW_os os)
      (laidW_shaped os _) (wit_ok os) (wit_pre os H enc) (wit_sized os H enc) (laidW_met os _)) ?_
  intro W base args ds gs before hval0 hW hcnd _ _ _
  have hval : ∀ (j : Nat) t v, Tryz.f4.params[j]? = some t → args[j]? = some v → Value.okWide Tryz.prog W .any base t v := hval0
  have hW' := hW
  obtain ⟨p, q, hA0, hV, rfl, hfz, hnd⟩ := hW
  have hA : DataW.TrodAll enc Tryz.prog W 0 (fun _ => true) true Tryz.f4.params.toList args.toList ds p := hA0
  rw [Tryz.params4] at hA hval
  obtain ⟨v0, vs0, d0, ds0, p0, q0, hargs, rfl, rfl, h0, r0⟩ := trodAll_cons hA
  obtain ⟨rfl, rfl, rfl⟩ := trodAll_nil r0
  obtain rfl : args = #[v0] := by cases args; simp_all
  obtain ⟨rfl, rfl⟩ := trodVars_none hV
  obtain ⟨a0, len0, cap0, rfl⟩ := okWide_slice Tryz.underlying35 (hval 0 35 v0 rfl rfl)
  have k0 := h0
  have lt0 : ∀ x ∈ p0, x.block < W.heap.size := by obtain ⟨m, hm⟩ := k0; exact DataW.trod_lt m _ _ _ hm
  clear hA0 hval0
  refine (walk a0 len0 cap0 W).mono fun e W' ⟨he, bel⟩ => ?_
  subst he
  exact ⟨_, rfl, _, _, _, [], _, [], hW', trodAll_mk1 (shut_bool Tryz.underlying4 _), (trodAll_cons_mk (Below.trod laidOut (by kernel_rfl) (of_decide_eq_true (by kernel_rfl)) k0 bel lt0) trodAll_mk0), rfl, bel.frame _, fun h => by cases h⟩

theorem over : Rows.SendNilSaid :=
  OpenClaim.holds_of_wide 4 Tryz.f4 rfl rfl rfl rfl rfl rfl rfl ⟨rfl, rfl, rfl, rfl, rfl⟩ rfl rfl rfl rfl rfl sendNilC.fnamed Tryz.func4 sendNilF.joined
    sendNilC.isInst (by unfold Func.isWrapper; first | (rw [if_pos (by decide +kernel)]; kernel_rfl) | (rw [if_neg (by decide +kernel)]; exact ⟨rfl, rfl⟩))
    (fun os started H enc _ => lifted os started H enc)

/-- THE STATEMENT -/
theorem proved : Rows.SendNilCardSaid :=
  Claim7.holds_tied_plain_at .later [] _ _ _ _
    over (fun _ h => by cases h) sendNilC.wfT (fun _ h => by cases h) sendNil_row_tie rfl ⟨rfl, rfl⟩ sendNilC.mainIs rfl
    (fun f fn hf hfn => by
      obtain rfl : f = 4 := Option.some.inj (sendNilC.fnamed.symm.trans hf) |>.symm
      obtain rfl : fn = Tryz.f4 := (Option.some.inj (Tryz.func4.symm.trans hfn)).symm
      exact ⟨sendNilC.looks, fun j t ht => by
        rw [Tryz.params4] at ht
        have hm : t ∈ [35] := by simpa using Array.mem_of_getElem? ht
        exact (show Tryz.prog.wantsStandIn t = false by simpa using List.all_eq_true.1 sendNilC.stand t hm)⟩)
    sendNilC.goes
#print axioms proved
end Go.Proofs.YtmcflcdddlaemaaGreatDoor.sendNil
