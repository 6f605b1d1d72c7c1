/- TurnsMany: for every n the law returns true, and nothing that was there before has turned. -/
import Derived.Test.YtmcflcdddlaemaaGreatDoorHzWit
import Derived.Test.YtmcflcdddlaemaaGreatDoorHxE
import Derived.Test.YtmcflcdddlaemaaGreatDoorHzMany0
import Derived.Test.YtmcflcdddlaemaaGreatDoorHzMany1
import Derived.Test.YtmcflcdddlaemaaGreatDoorHzMany2
import Derived.Test.YtmcflcdddlaemaaGreatDoorHzMany3
import Derived.Test.YtmcflcdddlaemaaGreatDoorHzMany4
import Derived.Test.YtmcflcdddlaemaaGreatDoorHzMany5
import Derived.Test.YtmcflcdddlaemaaGreatDoorHzMany6
import Derived.Test.YtmcflcdddlaemaaGreatDoorHzMany7
import Derived.Test.YtmcflcdddlaemaaGreatDoorCards
import Derived.Test.YtmcflcdddlaemaaGreatDoorTie
import Derived.SevenTiedAt
import Derived.Test.YtmcflcdddlaemaaGreatDoorHzManyF
import Derived.Test.YtmcflcdddlaemaaGreatDoorHzManyC
namespace Go.Proofs.YtmcflcdddlaemaaGreatDoor.turnsMany
open Go.ChangeShapes Go.WideShapes Go.ChangeAt Go.RowKit Go.Hx

theorem runs (n : Nat) (h : n < 256) : comesTo EM 4000 3 [.int .u8 (Int.ofNat n)] (.bool true) = true := by
  have hm : ∀ k ∈ List.range 256, k ∈ List.range 32 ∨ k ∈ (List.range 32).map (· + 32) ∨ k ∈ (List.range 32).map (· + 64) ∨ k ∈ (List.range 32).map (· + 96) ∨ k ∈ (List.range 32).map (· + 128) ∨ k ∈ (List.range 32).map (· + 160) ∨ k ∈ (List.range 32).map (· + 192) ∨ k ∈ (List.range 32).map (· + 224) := by
    intro k hk
    have hk := List.mem_range.1 hk
    simp only [List.mem_map, List.mem_range]
    by_cases h1 : k < 32
    · exact .inl h1
    by_cases h2 : k < 64
    · exact .inr (.inl ⟨k - 32, by omega, by omega⟩)
    by_cases h3 : k < 96
    · exact .inr (.inr (.inl ⟨k - 64, by omega, by omega⟩))
    by_cases h4 : k < 128
    · exact .inr (.inr (.inr (.inl ⟨k - 96, by omega, by omega⟩)))
    by_cases h5 : k < 160
    · exact .inr (.inr (.inr (.inr (.inl ⟨k - 128, by omega, by omega⟩))))
    by_cases h6 : k < 192
    · exact .inr (.inr (.inr (.inr (.inr (.inl ⟨k - 160, by omega, by omega⟩)))))
    by_cases h7 : k < 224
    · exact .inr (.inr (.inr (.inr (.inr (.inr (.inl ⟨k - 192, by omega, by omega⟩))))))
    · exact .inr (.inr (.inr (.inr (.inr (.inr (.inr ⟨k - 224, by omega, by omega⟩))))))
  rcases hm n (List.mem_range.2 h) with hn | hn | hn | hn | hn | hn | hn | hn
  · exact manyL0 n hn
  · exact manyL1 n hn
  · exact manyL2 n hn
  · exact manyL3 n hn
  · exact manyL4 n hn
  · exact manyL5 n hn
  · exact manyL6 n hn
  · exact manyL7 n hn

theorem walk (a0 : Int) (w0 : (Lit.int .u8 a0).wf = true) (w : World) : Calls Tryz.prog 3 #[.int .u8 a0] w fun e w' => e = .returned (.bool true) ∧ Below w.heap.size w w' := by
  have hr : 0 ≤ a0 ∧ a0 < 256 := by
    have h1 : IntKind.u8.min = 0 := rfl
    have h2 : IntKind.u8.max = 255 := rfl
    have h := w0
    simp only [Lit.wf, Bool.and_eq_true, decide_eq_true_eq, h1, h2] at h
    omega
  obtain ⟨n, rfl⟩ : ∃ n : Nat, a0 = Int.ofNat n := ⟨a0.toNat, by simp only [Int.ofNat_eq_natCast]; omega⟩
  have hn : n < 256 := by have := hr.2; simp only [Int.ofNat_eq_natCast] at this; omega
  letI : Inp := inpOf w (.int .i64 0) rfl
  refine (comesTo_calls EM_ok (runs n hn) (w := w) (vargs := #[.int .u8 (Int.ofNat n)]) (.cons (.int _ _) .nil) (fun b _ => rfl) (Nat.le_refl _)).mono ?_
  rintro e w' ⟨x, ρ', rfl, hx, hb⟩
  cases hx
  exact ⟨rfl, hb⟩

theorem wit_ok (os : Os) : Input.okWideB Tryz.checked.prog ((laidW os).forCall (fun _ _ => 0) ⟨#[], #[.int .u8 0], []⟩) 3 ⟨#[], #[.int .u8 0], []⟩ = true := by kernel_rfl
theorem wit_pre (os : Os) (H : Type) (enc : TypeId × Value → H) : Rows.turnsManySpec.preB enc Tryz.checked.prog Tryz.f3 Rows.turnsManyRow.domain false ((laidW os).forCall (fun _ _ => 0) ⟨#[], #[.int .u8 0], []⟩).memory #[.int .u8 0] 8 = true := by kernel_rfl
theorem wit_sized (os : Os) (H : Type) (enc : TypeId × Value → H) : Rows.turnsManySpec.sizedB enc Tryz.checked.prog Tryz.f3 false ((laidW os).forCall (fun _ _ => 0) ⟨#[], #[.int .u8 0], []⟩).memory #[.int .u8 0] 8 = true := by kernel_rfl

set_option maxRecDepth 100000 in
theorem lifted (os : Os) (started : os.Started) (H : Type) (enc : TypeId × Value → H) :
    ReturnsInHanded {} Tryz.checked os 3 .any (fun w args => (Rows.turnsManySpec.pre enc Tryz.prog Tryz.f3 Rows.turnsManyRow.domain false w args ∧ laidMetH Tryz.prog Rows.turnsManyRow.laid w) ∧ sizedMet enc Tryz.prog Tryz.f3 (OpenSpec.ofChange Rows.turnsManySpec) false w args)
      (Rows.turnsManySpec.post enc Tryz.prog Tryz.f3 false true false false) := by
  refine returnsInHanded_of_change_and (C := Tryz.checked) (X := fun w _ => laidMetH Tryz.prog Rows.turnsManyRow.laid w) (fun _ _ _ hh h => h.of_heap hh) own started (by kernel_rfl) Tryz.func3
    (ChangeSpec.witness_shaped (enc := enc) (C := Tryz.checked) (os := os) (X := fun w _ => laidMetH Tryz.prog Rows.turnsManyRow.laid w) false (laidW os) #[.int .u8 0] 8 (laidW_os os)
      (laidW_shaped os _) (wit_ok os) (wit_pre os H enc) (wit_sized os H enc) (laidW_met os _)) ?_
  intro W base args ds gs before hval0 hW hcnd _ _ _
  have hval : ∀ (j : Nat) t v, Tryz.f3.params[j]? = some t → args[j]? = some v → Value.okWide Tryz.prog W .any base t v := hval0
  have hW' := hW
  obtain ⟨p, q, hA0, hV, rfl, hfz, hnd⟩ := hW
  have hA : DataW.TrodAll enc Tryz.prog W 0 (fun _ => true) true Tryz.f3.params.toList args.toList ds p := hA0
  rw [Tryz.params3] at hA hval
  obtain ⟨v0, vs0, d0, ds0, p0, q0, hargs, rfl, rfl, h0, r0⟩ := trodAll_cons hA
  obtain ⟨rfl, rfl, rfl⟩ := trodAll_nil r0
  obtain rfl : args = #[v0] := by cases args; simp_all
  obtain ⟨rfl, rfl⟩ := trodVars_none hV
  obtain ⟨a0, rfl, rfl, rfl, w0⟩ := open_int Tryz.underlying5 (hval 0 5 v0 rfl rfl) h0
  clear hA0 hval0
  simp only [List.append_nil] at hW'
  letI : Inp := inpOf W (.int .i64 0) rfl
  refine (walk a0 w0 W).mono fun e W' ⟨he, hg⟩ => ?_
  subst he
  exact ⟨_, rfl, post_of_below (pa := []) (pv := []) hW' (fun _ _ _ => (trodAll_cons_mk (shut_bool Tryz.underlying4 _) trodAll_mk0)) (fun sp _ => (trodAll_cons_mk (shut_int Tryz.underlying5 w0) trodAll_mk0)) (fun _ _ => rfl) rfl
    hg (ok_one (by kernel_rfl) rfl (okWide_bool_mk Tryz.underlying4 _))⟩

theorem over : Rows.TurnsManySaid :=
  OpenClaim.holds_of_wide 3 Tryz.f3 rfl rfl rfl rfl rfl rfl rfl ⟨rfl, rfl, rfl, rfl, rfl⟩ rfl rfl rfl rfl rfl turnsManyC.fnamed Tryz.func3 turnsManyF.joined
    turnsManyC.isInst (by unfold Func.isWrapper; first | (rw [if_pos (by decide +kernel)]; kernel_rfl) | (rw [if_neg (by decide +kernel)]; exact ⟨rfl, rfl⟩))
    (fun os started H enc _ => lifted os started H enc)

/-- THE STATEMENT -/
theorem proved : Rows.TurnsManyCardSaid :=
  Claim7.holds_tied_plain_at .later [] _ _ _ _
    over (fun _ h => by cases h) turnsManyC.wfT (fun _ h => by cases h) turnsMany_row_tie rfl ⟨rfl, rfl⟩ turnsManyC.mainIs rfl
    (fun f fn hf hfn => by
      obtain rfl : f = 3 := Option.some.inj (turnsManyC.fnamed.symm.trans hf) |>.symm
      obtain rfl : fn = Tryz.f3 := (Option.some.inj (Tryz.func3.symm.trans hfn)).symm
      exact ⟨turnsManyC.looks, fun j t ht => by
        rw [Tryz.params3] at ht
        have hm : t ∈ [5] := by simpa using Array.mem_of_getElem? ht
        exact (show Tryz.prog.wantsStandIn t = false by simpa using List.all_eq_true.1 turnsManyC.stand t hm)⟩)
    turnsManyC.goes
#print axioms proved
end Go.Proofs.YtmcflcdddlaemaaGreatDoor.turnsMany
