/- TurnsNil: for all inputs the law returns true, and nothing that was there before has turned. -/
import Derived.Test.YtdjdiibloohddaaGreatDoorHzWit
import Derived.Test.YtdjdiibloohddaaGreatDoorHxE
import Derived.Test.YtdjdiibloohddaaGreatDoorHzAw22
import Derived.Test.YtdjdiibloohddaaGreatDoorHzIn
import Derived.Test.YtdjdiibloohddaaGreatDoorHzTurnF
import Derived.Test.YtdjdiibloohddaaGreatDoorHzTurnC
import Derived.Test.YtdjdiibloohddaaGreatDoorCards
import Derived.Test.YtdjdiibloohddaaGreatDoorTie
import Derived.SevenTiedAt
namespace Go.Proofs.YtdjdiibloohddaaGreatDoor.turnsNil
open Go.ChangeShapes Go.WideShapes Go.ChangeAt Go.RowKit Go.Hx
set_option linter.unusedVariables false

theorem laidOut : laidOutB Tryz.prog = true := turnsNilF.j1

def IsRow (k : IntKind) (w : World) (a : Option Addr) (len cap : Nat) (zs : List Int) : Prop :=
  (a = none ∧ len = 0 ∧ cap = 0 ∧ zs = []) ∨
  ∃ x, a = some x ∧ len ≤ cap ∧ cap ≤ maxLen ∧ zs.length = cap ∧ (∀ i, i < zs.length → w.cell? (x.add i) = some (.int k (zs.getD i 0))) ∧ ∀ n ∈ zs, (Lit.int k n).wf = true

noncomputable def ET : Env := EA22.twin
def mn : Int := -9223372036854775808
def mx : Int := 9223372036854775807
def far : Int := 1099511627776

theorem run1 : comesTo ET 4000 4 [.rng .i64 mn mx, .rng .i64 mn (-1), .inp 0] (.bool true) = true := by kernel_rfl
theorem run2 : comesTo ET 4000 4 [.rng .i64 mn mx, .rng .i64 (far + 1) mx, .inp 0] (.bool true) = true := by kernel_rfl
theorem run3 : comesTo ET 4000 4 [.rng .i64 mn mx, .rng .i64 0 far, .inp 0] (.bool true) = true := by kernel_rfl

theorem i64_of_wf {a : Int} (h : (Lit.int .i64 a).wf = true) : mn ≤ a ∧ a ≤ mx := by
  have h1 : IntKind.i64.min = -9223372036854775808 := rfl
  have h2 : IntKind.i64.max = 9223372036854775807 := rfl
  simp only [Lit.wf, Bool.and_eq_true, decide_eq_true_eq, h1, h2] at h
  exact h

theorem bytesOf (w : World) (a : Option Addr) (len cap : Nat) (zs : List Int) (h : IsRow .u8 w a len cap zs) (hl : cap ≤ 140737488351232) : @InpBytes (inpOf w (.slice a len cap) rfl) := by
  intro k
  by_cases hz : len = 0
  · subst hz; exact .inl ⟨a, cap, rfl⟩
  rcases h with ⟨rfl, rfl, rfl, _⟩ | ⟨x, rfl, h1, h2, h3, h4, h5⟩
  · exact absurd rfl hz
  · right
    obtain ⟨b, off, sp⟩ := x
    have h0 := h4 0 (by omega)
    have hsp : sp = none := by simpa [Addr.add] using World.cell?_spot h0
    subst hsp
    have hb : b < w.heap.size := World.block_lt_of_cell? w _ h0
    have hcell := h4 0 (by omega)
    have hadd : ∀ i, (⟨b, off, none⟩ : Addr).add i = ⟨b, off + i, none⟩ := fun i => by
      unfold Addr.add
      split
      · rename_i e; rw [e]; rfl
      · rfl
    rw [hadd] at hcell
    cases ho : w.heap[b]? with
    | none => simp [World.cell?, ho] at hcell
    | some o =>
      cases o <;> simp [World.cell?, ho] at hcell
      rename_i cs t fr
      refine ⟨b, off, len, cap, cs, t, fr, rfl, hb, by omega, ho, fun i hi => ?_⟩
      have := h4 i (by omega)
      rw [hadd] at this
      simp [World.cell?, ho] at this
      exact ⟨_, this⟩

theorem ofRun {b : AV} {a0 a1 : Int} (hrun : comesTo ET 4000 4 [.rng .i64 mn mx, b, .inp 0] (.bool true) = true) (r0 : mn ≤ a0 ∧ a0 ≤ mx) (hb : ∀ [Inp] (ρ : Hx.Ren), VR ρ b (.int .i64 a1)) (ad : Option Addr) (len cap : Nat) (zs : List Int) (w : World)
    (hrow : IsRow .u8 w ad len cap zs) (hcap : cap ≤ 140737488351232) :
    Calls Tryz.prog 4 #[.int .i64 a0, .int .i64 a1, .slice ad len cap] w fun e w' => e = .returned (.bool true) ∧ Below w.heap.size w w' := by
  letI : Inp := inpOf w (.slice ad len cap) rfl
  have hin : InpBytes := bytesOf w ad len cap zs hrow hcap
  refine (comesTo_calls (E := ET) (Env.twin_sound EA22_ok rfl hin) hrun (w := w) (vargs := #[.int .i64 a0, .int .i64 a1, .slice ad len cap]) (.cons (.rng r0.1 r0.2) (.cons (hb _) (.cons (.inp rfl) .nil))) (fun b _ => rfl) (Nat.le_refl _)).mono ?_
  rintro e w' ⟨x, ρ', rfl, hx, hbel⟩
  cases hx
  exact ⟨rfl, hbel⟩

theorem walk (a0 a1 : Int) (w0 : (Lit.int .i64 a0).wf = true) (w1 : (Lit.int .i64 a1).wf = true) (ad : Option Addr) (len cap : Nat) (zs : List Int) (w : World)
    (hrow : IsRow .u8 w ad len cap zs) (hcap : cap ≤ 140737488351232) :
    Calls Tryz.prog 4 #[.int .i64 a0, .int .i64 a1, .slice ad len cap] w fun e w' => e = .returned (.bool true) ∧ Below w.heap.size w w' := by
  have r0 := i64_of_wf w0
  have r1 := i64_of_wf w1
  have hf : far = 1099511627776 := rfl
  by_cases h1 : a1 < 0
  · exact ofRun run1 r0 (fun _ => .rng r1.1 (by omega)) ad len cap zs w hrow hcap
  by_cases h2 : a1 > far
  · exact ofRun run2 r0 (fun _ => .rng (by omega) r1.2) ad len cap zs w hrow hcap
  · exact ofRun run3 r0 (fun _ => .rng (by omega) (by omega)) ad len cap zs w hrow hcap

theorem cells5 : Tryz.prog.cellsOf 5 = 1 := by kernel_rfl
theorem bytes5 : Tryz.prog.bytesOf 5 = 1 := by kernel_rfl

/-- what the reading tells of the bytes -/
theorem reads {H : Type} {enc : TypeId × Value → H} {W : World} {a : Option Addr} {len cap : Nat} {d : DataW H} {ps : List MemPlace} (h : DataW.Trod enc Tryz.prog W 0 (fun _ => true) true 45 (.slice a len cap) d ps)
    (hwt : ∀ n ∈ d.weights Tryz.prog 45, n ≤ reachBytes) : ∃ zs, IsRow .u8 W a len cap zs ∧ cap ≤ 140737488351232 := by
  obtain ⟨fuel, hf⟩ := h
  have hf' : DataW.trod enc Tryz.prog W 0 (fun _ => true) true fuel 45 [.slice a len cap] = some (d, ps) := hf
  rcases open_ints Tryz.underlying45 Tryz.underlying5 cells5 hf' with ⟨hcs, _⟩ | ⟨x, l, c, zs, hcs, _, hl, hm, hz, hyv, hcell, hwz⟩
  · simp only [List.cons.injEq, Value.slice.injEq, and_true] at hcs
    obtain ⟨rfl, rfl, rfl⟩ := hcs
    exact ⟨[], .inl ⟨rfl, rfl, rfl, rfl⟩, Nat.zero_le _⟩
  · simp only [List.cons.injEq, Value.slice.injEq, and_true] at hcs
    obtain ⟨rfl, rfl, rfl⟩ := hcs
    have hzc : zs.length = cap := by simpa using hz
    refine ⟨zs, .inr ⟨x, rfl, hl, hm, hzc, hcell, hwz⟩, ?_⟩
    have hd := congrArg Prod.fst hyv
    dsimp only at hd
    refine hwt cap ?_
    rw [hd]
    unfold DataW.weights
    rw [Tryz.underlying45]
    simp only [bytes5]
    refine List.mem_cons.2 (.inl ?_)
    simp only [lits, List.length_map, List.length_take, List.length_drop, hzc]
    omega

theorem wit_ok (os : Os) : Input.okWideB Tryz.checked.prog ((laidW os).forCall (fun _ _ => 0) ⟨#[], #[.int .i64 0, .int .i64 0, .slice none 0 0], []⟩) 4 ⟨#[], #[.int .i64 0, .int .i64 0, .slice none 0 0], []⟩ = true := by kernel_rfl
theorem wit_pre (os : Os) (H : Type) (enc : TypeId × Value → H) : Rows.turnsNilSpec.preB enc Tryz.checked.prog Tryz.f4 Rows.turnsNilRow.domain false ((laidW os).forCall (fun _ _ => 0) ⟨#[], #[.int .i64 0, .int .i64 0, .slice none 0 0], []⟩).memory #[.int .i64 0, .int .i64 0, .slice none 0 0] 8 = true := by kernel_rfl
theorem wit_sized (os : Os) (H : Type) (enc : TypeId × Value → H) : Rows.turnsNilSpec.sizedB enc Tryz.checked.prog Tryz.f4 false ((laidW os).forCall (fun _ _ => 0) ⟨#[], #[.int .i64 0, .int .i64 0, .slice none 0 0], []⟩).memory #[.int .i64 0, .int .i64 0, .slice none 0 0] 8 = true := by kernel_rfl

set_option maxRecDepth 100000 in
theorem lifted (os : Os) (started : os.Started) (H : Type) (enc : TypeId × Value → H) :
    ReturnsInHanded {} Tryz.checked os 4 .any (fun w args => (Rows.turnsNilSpec.pre enc Tryz.prog Tryz.f4 Rows.turnsNilRow.domain false w args ∧ laidMetH Tryz.prog Rows.turnsNilRow.laid w) ∧ sizedMet enc Tryz.prog Tryz.f4 (OpenSpec.ofChange Rows.turnsNilSpec) false w args)
      (Rows.turnsNilSpec.post enc Tryz.prog Tryz.f4 false true false false) := by
  refine returnsInHanded_of_change_and (C := Tryz.checked) (X := fun w _ => laidMetH Tryz.prog Rows.turnsNilRow.laid w) (fun _ _ _ hh h => h.of_heap hh) own started (by kernel_rfl) Tryz.func4
    (ChangeSpec.witness_shaped (enc := enc) (C := Tryz.checked) (os := os) (X := fun w _ => laidMetH Tryz.prog Rows.turnsNilRow.laid w) false (laidW os) #[.int .i64 0, .int .i64 0, .slice none 0 0] 8 (laidW_os os)
      (laidW_shaped os _) (wit_ok os) (wit_pre os H enc) (wit_sized os H enc) (laidW_met os _)) ?_
  intro W base args ds gs before hval0 hW hcnd hwt _ _
  have hval : ∀ (j : Nat) t v, Tryz.f4.params[j]? = some t → args[j]? = some v → Value.okWide Tryz.prog W .any base t v := hval0
  have hW' := hW
  obtain ⟨p, q, hA0, hV, rfl, hfz, hnd⟩ := hW
  have hA : DataW.TrodAll enc Tryz.prog W 0 (fun _ => true) true Tryz.f4.params.toList args.toList ds p := hA0
  rw [Tryz.params4] at hA hval
  obtain ⟨v0, vs0, d0, ds0, p0, q0, hargs, rfl, rfl, h0, r0⟩ := trodAll_cons hA
  obtain ⟨v1, vs1, d1, ds1, p1, q1, rfl, rfl, rfl, h1, r1⟩ := trodAll_cons r0
  obtain ⟨v2, vs2, d2, ds2, p2, q2, rfl, rfl, rfl, h2, r2⟩ := trodAll_cons r1
  obtain ⟨rfl, rfl, rfl⟩ := trodAll_nil r2
  obtain rfl : args = #[v0, v1, v2] := by cases args; simp_all
  obtain ⟨rfl, rfl⟩ := trodVars_none hV
  obtain ⟨a0, rfl, rfl, rfl, w0⟩ := open_int Tryz.underlying3 (hval 0 3 v0 rfl rfl) h0
  obtain ⟨a1, rfl, rfl, rfl, w1⟩ := open_int Tryz.underlying3 (hval 1 3 v1 rfl rfl) h1
  obtain ⟨ad, len, cap, rfl⟩ := okWide_slice Tryz.underlying45 (hval 2 45 v2 rfl rfl)
  letI : Inp := inpOf W (.int .i64 0) rfl
  have k2 := h2
  have lt2 : ∀ x ∈ p2, x.block < W.heap.size := by obtain ⟨m, hm⟩ := k2; exact DataW.trod_lt m _ _ _ hm
  have hwt2 : ∀ n ∈ d2.weights Tryz.prog 45, n ≤ reachBytes := by
    intro n hn
    have := List.all_eq_true.1 hwt n (weightsEach_mem (i := 2) (t := 45) (d := d2) (by rw [Tryz.params4]; rfl) rfl n hn)
    simpa using this
  obtain ⟨zs, hrow, hcap⟩ := reads h2 hwt2
  clear hA0 hval0
  refine (walk a0 a1 w0 w1 ad len cap zs W hrow hcap).mono fun e W' ⟨he, bel⟩ => ?_
  subst he
  exact ⟨_, rfl, _, _, _, [], _, [], hW', trodAll_mk1 (shut_bool Tryz.underlying4 _), (trodAll_cons_mk (shut_int Tryz.underlying3 w0) (trodAll_cons_mk (shut_int Tryz.underlying3 w1) (trodAll_cons_mk (Below.trod laidOut (by kernel_rfl) (of_decide_eq_true (by kernel_rfl)) k2 bel lt2) trodAll_mk0))), rfl, bel.frame _, fun h => by cases h⟩

theorem over : Rows.TurnsNilSaid :=
  OpenClaim.holds_of_wide 4 Tryz.f4 rfl rfl rfl rfl rfl rfl rfl ⟨rfl, rfl, rfl, rfl, rfl⟩ rfl rfl rfl rfl rfl turnsNilC.fnamed Tryz.func4 turnsNilF.joined
    turnsNilC.isInst (by unfold Func.isWrapper; first | (rw [if_pos (by decide +kernel)]; kernel_rfl) | (rw [if_neg (by decide +kernel)]; exact ⟨rfl, rfl⟩))
    (fun os started H enc _ => lifted os started H enc)

/-- THE STATEMENT -/
theorem proved : Rows.TurnsNilCardSaid :=
  Claim7.holds_tied_plain_at .later [] _ _ _ _
    over (fun _ h => by cases h) turnsNilC.wfT (fun _ h => by cases h) turnsNil_row_tie rfl ⟨rfl, rfl⟩ turnsNilC.mainIs rfl
    (fun f fn hf hfn => by
      obtain rfl : f = 4 := Option.some.inj (turnsNilC.fnamed.symm.trans hf) |>.symm
      obtain rfl : fn = Tryz.f4 := (Option.some.inj (Tryz.func4.symm.trans hfn)).symm
      exact ⟨turnsNilC.looks, fun j t ht => by
        rw [Tryz.params4] at ht
        have hm : t ∈ [3, 3, 45] := by simpa using Array.mem_of_getElem? ht
        exact (show Tryz.prog.wantsStandIn t = false by simpa using List.all_eq_true.1 turnsNilC.stand t hm)⟩)
    turnsNilC.goes
#print axioms proved
end Go.Proofs.YtdjdiibloohddaaGreatDoor.turnsNil
