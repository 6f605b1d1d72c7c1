/- HallNil: for all inputs the law returns true, and nothing that was there before has turned. -/
import Derived.Test.YtmcflcdddlaemaaGreatDoorHzWit
import Derived.Test.YtmcflcdddlaemaaGreatDoorHxE
import Derived.Test.YtmcflcdddlaemaaGreatDoorHzAw
import Derived.Test.YtmcflcdddlaemaaGreatDoorHzIn
import Derived.Test.YtmcflcdddlaemaaGreatDoorHzHallF
import Derived.Test.YtmcflcdddlaemaaGreatDoorHzHallC
import Derived.Test.YtmcflcdddlaemaaGreatDoorCards
import Derived.Test.YtmcflcdddlaemaaGreatDoorTie
import Derived.SevenTiedAt
namespace Go.Proofs.YtmcflcdddlaemaaGreatDoor.hallNil
open Go.ChangeShapes Go.WideShapes Go.ChangeAt Go.RowKit Go.Hx
set_option linter.unusedVariables false

theorem laidOut : laidOutB Tryz.prog = true := hallNilF.j1

def IsRow (k : IntKind) (w : World) (a : Option Addr) (len cap : Nat) (zs : List Int) : Prop :=
  (a = none ∧ len = 0 ∧ cap = 0 ∧ zs = []) ∨
  ∃ x, a = some x ∧ len ≤ cap ∧ cap ≤ maxLen ∧ zs.length = cap ∧ (∀ i, i < zs.length → w.cell? (x.add i) = some (.int k (zs.getD i 0))) ∧ ∀ n ∈ zs, (Lit.int k n).wf = true

noncomputable def EH : Env := EA.twin
def req : AV := .agg (List.replicate 38 .any ++ [.inp 0])
def mn : Int := -9223372036854775808
def mx : Int := 9223372036854775807

theorem run1 : comesTo EH 4000 5 [.rng .i64 mn (-1), .rng .i64 mn mx, req] (.bool true) = true := by kernel_rfl
theorem run2 : comesTo EH 4000 5 [.rng .i64 7 mx, .rng .i64 mn mx, req] (.bool true) = true := by kernel_rfl
theorem run3 : comesTo EH 4000 5 [.rng .i64 0 6, .rng .i64 mn 0, req] (.bool true) = true := by kernel_rfl
theorem run4 : comesTo EH 4000 5 [.rng .i64 0 6, .rng .i64 1048577 mx, req] (.bool true) = true := by kernel_rfl
theorem run5 : comesTo EH 4000 5 [.rng .i64 0 6, .rng .i64 1 1048576, req] (.bool true) = true := by kernel_rfl

theorem i64_of_wf {a : Int} (h : (Lit.int .i64 a).wf = true) : mn ≤ a ∧ a ≤ mx := by
  have h1 : IntKind.i64.min = -9223372036854775808 := rfl
  have h2 : IntKind.i64.max = 9223372036854775807 := rfl
  simp only [Lit.wf, Bool.and_eq_true, decide_eq_true_eq, h1, h2] at h
  exact h

theorem bytesOf (w : World) (a : Option Addr) (len cap : Nat) (zs : List Int) (h : IsRow .u8 w a len cap zs) (hl : cap ≤ 140737488351232) : @InpBytes (inpOf w (.slice a len cap) rfl) := by
  intro k
  by_cases hz : len = 0
  · subst hz; exact .inl ⟨a, cap, rfl⟩
  rcases h with ⟨rfl, rfl, rfl, _⟩ | ⟨x, rfl, h1, h2, h3, h4, h5⟩
  · exact absurd rfl hz
  · right
    obtain ⟨b, off, sp⟩ := x
    have h0 := h4 0 (by omega)
    have hsp : sp = none := by simpa [Addr.add] using World.cell?_spot h0
    subst hsp
    have hb : b < w.heap.size := World.block_lt_of_cell? w _ h0
    have hcell := h4 0 (by omega)
    have hadd : ∀ i, (⟨b, off, none⟩ : Addr).add i = ⟨b, off + i, none⟩ := fun i => by
      unfold Addr.add
      split
      · rename_i e; rw [e]; rfl
      · rfl
    rw [hadd] at hcell
    cases ho : w.heap[b]? with
    | none => simp [World.cell?, ho] at hcell
    | some o =>
      cases o <;> simp [World.cell?, ho] at hcell
      rename_i cs t fr
      refine ⟨b, off, len, cap, cs, t, fr, rfl, hb, by omega, ho, fun i hi => ?_⟩
      have := h4 i (by omega)
      rw [hadd] at this
      simp [World.cell?, ho] at this
      exact ⟨_, this⟩

theorem ofRun {a b : AV} {a0 a1 : Int} (hrun : comesTo EH 4000 5 [a, b, req] (.bool true) = true) (ha : ∀ [Inp] (ρ : Hx.Ren), VR ρ a (.int .i64 a0)) (hb : ∀ [Inp] (ρ : Hx.Ren), VR ρ b (.int .i64 a1)) (cs : Array Value) (ad : Option Addr) (len cap : Nat) (zs : List Int) (w : World)
    (hsz : cs.size = 39) (hany : ∀ x ∈ cs.toList, anyCell x = true) (hlast : cs.toList.drop 38 = [.slice ad len cap]) (hrow : IsRow .u8 w ad len cap zs) (hcap : cap ≤ 140737488351232) :
    Calls Tryz.prog 5 #[.int .i64 a0, .int .i64 a1, .agg cs] w fun e w' => e = .returned (.bool true) ∧ Below w.heap.size w w' := by
  letI : Inp := inpOf w (.slice ad len cap) rfl
  have hin : InpBytes := bytesOf w ad len cap zs hrow hcap
  have hreq : VR (fun _ => none) req (.agg cs) := by
    refine .agg ?_
    have e : cs.toList = cs.toList.take 38 ++ [.slice ad len cap] := by rw [← hlast, List.take_append_drop]
    rw [e]
    refine VRs.append ?_ (.cons (.inp rfl) .nil)
    have hl : (cs.toList.take 38).length = 38 := by rw [List.length_take, Array.length_toList, hsz]; rfl
    have := VRs_any (fun _ => none) (cs.toList.take 38) (fun x hx => hany x (List.mem_of_mem_take hx))
    rwa [hl] at this
  refine (comesTo_calls (E := EH) (Env.twin_sound EA_ok rfl hin) hrun (w := w) (vargs := #[.int .i64 a0, .int .i64 a1, .agg cs]) (.cons (ha _) (.cons (hb _) (.cons hreq .nil))) (fun b _ => rfl) (Nat.le_refl _)).mono ?_
  rintro e w' ⟨x, ρ', rfl, hx, hbel⟩
  cases hx
  exact ⟨rfl, hbel⟩

theorem walk (a0 a1 : Int) (w0 : (Lit.int .i64 a0).wf = true) (w1 : (Lit.int .i64 a1).wf = true) (cs : Array Value) (ad : Option Addr) (len cap : Nat) (zs : List Int) (w : World)
    (hsz : cs.size = 39) (hany : ∀ x ∈ cs.toList, anyCell x = true) (hlast : cs.toList.drop 38 = [.slice ad len cap]) (hrow : IsRow .u8 w ad len cap zs) (hcap : cap ≤ 140737488351232) :
    Calls Tryz.prog 5 #[.int .i64 a0, .int .i64 a1, .agg cs] w fun e w' => e = .returned (.bool true) ∧ Below w.heap.size w w' := by
  have r0 := i64_of_wf w0
  have r1 := i64_of_wf w1
  by_cases h1 : a0 < 0
  · exact ofRun run1 (fun _ => .rng r0.1 (by omega)) (fun _ => .rng r1.1 r1.2) cs ad len cap zs w hsz hany hlast hrow hcap
  by_cases h2 : a0 > 6
  · exact ofRun run2 (fun _ => .rng (by omega) r0.2) (fun _ => .rng r1.1 r1.2) cs ad len cap zs w hsz hany hlast hrow hcap
  by_cases h3 : a1 < 1
  · exact ofRun run3 (fun _ => .rng (by omega) (by omega)) (fun _ => .rng r1.1 (by omega)) cs ad len cap zs w hsz hany hlast hrow hcap
  by_cases h4 : a1 > 1048576
  · exact ofRun run4 (fun _ => .rng (by omega) (by omega)) (fun _ => .rng (by omega) r1.2) cs ad len cap zs w hsz hany hlast hrow hcap
  · exact ofRun run5 (fun _ => .rng (by omega) (by omega)) (fun _ => .rng (by omega) (by omega)) cs ad len cap zs w hsz hany hlast hrow hcap

/-! ### what the reading tells of the request -/
set_option maxRecDepth 100000 in
theorem ts52 : Tryz.prog.cellTypes Tryz.prog.depth 52 = some ([3, 9, 9] ++ List.replicate 32 5 ++ [3, 3, 3, 35]) := by kernel_rfl
theorem ts52ok : ([3, 9, 9] ++ List.replicate 32 5 ++ [3, 3, 3, 35]).all (noBoolT Tryz.prog) = true := by kernel_rfl
theorem cells52 : Tryz.prog.cellsOf 52 = 39 := by kernel_rfl
theorem cells35 : Tryz.prog.cellsOf 35 = 1 := by kernel_rfl
theorem cells5 : Tryz.prog.cellsOf 5 = 1 := by kernel_rfl
theorem bytes5 : Tryz.prog.bytesOf 5 = 1 := by kernel_rfl

set_option maxRecDepth 100000 in
theorem reads {H : Type} {enc : TypeId × Value → H} {W : World} {base : Nat} {v : Value} {d : DataW H} {ps : List MemPlace} (hok : Value.okWide Tryz.prog W .any base 52 v) (h : DataW.Trod enc Tryz.prog W 0 (fun _ => true) true 52 v d ps)
    (hwt : ∀ n ∈ d.weights Tryz.prog 52, n ≤ reachBytes) : ∃ cs ad len cap zs, v = .agg cs ∧ cs.size = 39 ∧ (∀ x ∈ cs.toList, anyCell x = true) ∧ cs.toList.drop 38 = [.slice ad len cap] ∧ IsRow .u8 W ad len cap zs ∧ cap ≤ 140737488351232 := by
  letI : Inp := inpOf W (.int .i64 0) rfl
  obtain ⟨cs, rfl, hsz, hany⟩ := cells_any Tryz.underlying52 hok ts52 ts52ok
  rw [cells52] at hsz
  obtain ⟨fuel, hf⟩ := h
  obtain ⟨xs, n, _, hx, _, hlen, hfld⟩ := DataW.trod_struct Tryz.underlying52 (show DataW.trod enc Tryz.prog W 0 _ true fuel 52 cs.toList = some (d, ps) from hf)
  have h7 : DataW.trod enc Tryz.prog W 0 (fun _ => true) true n 35 ((cs.toList.drop 38).take (Tryz.prog.cellsOf 35)) = xs[7]? := hfld 7 _ rfl
  rw [cells35] at h7
  have hx7 : ∃ y, xs[7]? = some y := by
    have : xs.length = 8 := hlen
    exact ⟨xs[7]'(by omega), by simp⟩
  obtain ⟨y, hy⟩ := hx7
  rw [hy] at h7
  have hd : d = .agg (xs.map (·.1)) := (Prod.mk.inj hx).1
  have hdrop : (cs.toList.drop 38).take 1 = cs.toList.drop 38 := by
    rw [List.take_of_length_le]
    rw [List.length_drop, Array.length_toList, hsz]; exact Nat.le_refl _
  have h7' : DataW.trod enc Tryz.prog W 0 (fun _ => true) true n 35 (cs.toList.drop 38) = some y := by rw [← hdrop]; exact h7
  rcases open_ints Tryz.underlying35 Tryz.underlying5 cells5 h7' with ⟨hcs, _⟩ | ⟨x, l, c, zs, hcs, _, hl, hm, hz, hyv, hcell, hwz⟩
  · exact ⟨cs, none, 0, 0, [], rfl, hsz, hany, hcs, .inl ⟨rfl, rfl, rfl, rfl⟩, Nat.zero_le _⟩
  · have hzc : zs.length = c := by simpa using hz
    refine ⟨cs, some x, l, c, zs, rfl, hsz, hany, hcs, .inr ⟨x, rfl, hl, hm, hzc, hcell, hwz⟩, ?_⟩
    have hw := hwt c (by
      rw [hd]
      have e : (DataW.agg (xs.map (·.1))).weights Tryz.prog 52 = DataW.weightsEach Tryz.prog ([3, 9, 9, 27, 3, 3, 3, 35] : List TypeId) (xs.map (·.1)) := by
        unfold DataW.weights
        rw [Tryz.underlying52]
        rfl
      rw [e]
      refine weightsEach_mem (i := 7) (t := 35) (d := y.1) rfl (by rw [List.getElem?_map, hy]; rfl) c ?_
      rw [hyv]
      unfold DataW.weights
      rw [Tryz.underlying35]
      simp only [bytes5]
      refine List.mem_cons.2 (.inl ?_)
      simp only [lits, List.length_map, List.length_take, List.length_drop, hzc]
      omega)
    exact hw

/-- a request of zeros -/
def WV : Value := .agg ((#[.int .i64 0, .string ⟨#[]⟩, .string ⟨#[]⟩] ++ Array.replicate 32 (.int .u8 0)) ++ #[.int .i64 0, .int .i64 0, .int .i64 0, .slice none 0 0])
theorem wit_ok (os : Os) : Input.okWideB Tryz.checked.prog ((laidW os).forCall (fun _ _ => 0) ⟨#[], #[.int .i64 0, .int .i64 0, WV], []⟩) 5 ⟨#[], #[.int .i64 0, .int .i64 0, WV], []⟩ = true := by kernel_rfl
theorem wit_pre (os : Os) (H : Type) (enc : TypeId × Value → H) : Rows.hallNilSpec.preB enc Tryz.checked.prog Tryz.f5 Rows.hallNilRow.domain false ((laidW os).forCall (fun _ _ => 0) ⟨#[], #[.int .i64 0, .int .i64 0, WV], []⟩).memory #[.int .i64 0, .int .i64 0, WV] 8 = true := by kernel_rfl
theorem wit_sized (os : Os) (H : Type) (enc : TypeId × Value → H) : Rows.hallNilSpec.sizedB enc Tryz.checked.prog Tryz.f5 false ((laidW os).forCall (fun _ _ => 0) ⟨#[], #[.int .i64 0, .int .i64 0, WV], []⟩).memory #[.int .i64 0, .int .i64 0, WV] 8 = true := by kernel_rfl

set_option maxRecDepth 100000 in
theorem lifted (os : Os) (started : os.Started) (H : Type) (enc : TypeId × Value → H) :
    ReturnsInHanded {} Tryz.checked os 5 .any (fun w args => (Rows.hallNilSpec.pre enc Tryz.prog Tryz.f5 Rows.hallNilRow.domain false w args ∧ laidMetH Tryz.prog Rows.hallNilRow.laid w) ∧ sizedMet enc Tryz.prog Tryz.f5 (OpenSpec.ofChange Rows.hallNilSpec) false w args)
      (Rows.hallNilSpec.post enc Tryz.prog Tryz.f5 false true false false) := by
  refine returnsInHanded_of_change_and (C := Tryz.checked) (X := fun w _ => laidMetH Tryz.prog Rows.hallNilRow.laid w) (fun _ _ _ hh h => h.of_heap hh) own started (by kernel_rfl) Tryz.func5
    (ChangeSpec.witness_shaped (enc := enc) (C := Tryz.checked) (os := os) (X := fun w _ => laidMetH Tryz.prog Rows.hallNilRow.laid w) false (laidW os) #[.int .i64 0, .int .i64 0, WV] 8 (laidW_os os)
      (laidW_shaped os _) (wit_ok os) (wit_pre os H enc) (wit_sized os H enc) (laidW_met os _)) ?_
  intro W base args ds gs before hval0 hW hcnd hwt _ _
  have hval : ∀ (j : Nat) t v, Tryz.f5.params[j]? = some t → args[j]? = some v → Value.okWide Tryz.prog W .any base t v := hval0
  have hW' := hW
  obtain ⟨p, q, hA0, hV, rfl, hfz, hnd⟩ := hW
  have hA : DataW.TrodAll enc Tryz.prog W 0 (fun _ => true) true Tryz.f5.params.toList args.toList ds p := hA0
  rw [Tryz.params5] at hA hval
  obtain ⟨v0, vs0, d0, ds0, p0, q0, hargs, rfl, rfl, h0, r0⟩ := trodAll_cons hA
  obtain ⟨v1, vs1, d1, ds1, p1, q1, rfl, rfl, rfl, h1, r1⟩ := trodAll_cons r0
  obtain ⟨v2, vs2, d2, ds2, p2, q2, rfl, rfl, rfl, h2, r2⟩ := trodAll_cons r1
  obtain ⟨rfl, rfl, rfl⟩ := trodAll_nil r2
  obtain rfl : args = #[v0, v1, v2] := by cases args; simp_all
  obtain ⟨rfl, rfl⟩ := trodVars_none hV
  obtain ⟨a0, rfl, rfl, rfl, w0⟩ := open_int Tryz.underlying3 (hval 0 3 v0 rfl rfl) h0
  obtain ⟨a1, rfl, rfl, rfl, w1⟩ := open_int Tryz.underlying3 (hval 1 3 v1 rfl rfl) h1
  have k2 := h2
  have lt2 : ∀ x ∈ p2, x.block < W.heap.size := by obtain ⟨m, hm⟩ := k2; exact DataW.trod_lt m _ _ _ hm
  letI : Inp := inpOf W (.int .i64 0) rfl
  have hwt2 : ∀ n ∈ d2.weights Tryz.prog 52, n ≤ reachBytes := by
    intro n hn
    have := List.all_eq_true.1 hwt n (weightsEach_mem (i := 2) (t := 52) (d := d2) (by rw [Tryz.params5]; rfl) rfl n hn)
    simpa using this
  obtain ⟨cs, ad, len, cap, zs, rfl, hsz, hany, hlast, hrow, hcap⟩ := reads (hval 2 52 v2 rfl rfl) h2 hwt2
  clear hA0 hval0
  refine (walk a0 a1 w0 w1 cs ad len cap zs W hsz hany hlast hrow hcap).mono fun e W' ⟨he, bel⟩ => ?_
  subst he
  exact ⟨_, rfl, _, _, _, [], _, [], hW', trodAll_mk1 (shut_bool Tryz.underlying4 _), (trodAll_cons_mk (shut_int Tryz.underlying3 w0) (trodAll_cons_mk (shut_int Tryz.underlying3 w1) (trodAll_cons_mk (Below.trod laidOut (by kernel_rfl) (of_decide_eq_true (by kernel_rfl)) k2 bel lt2) trodAll_mk0))), rfl, bel.frame _, fun h => by cases h⟩

theorem over : Rows.HallNilSaid :=
  OpenClaim.holds_of_wide 5 Tryz.f5 rfl rfl rfl rfl rfl rfl rfl ⟨rfl, rfl, rfl, rfl, rfl⟩ rfl rfl rfl rfl rfl hallNilC.fnamed Tryz.func5 hallNilF.joined
    hallNilC.isInst (by unfold Func.isWrapper; first | (rw [if_pos (by decide +kernel)]; kernel_rfl) | (rw [if_neg (by decide +kernel)]; exact ⟨rfl, rfl⟩))
    (fun os started H enc _ => lifted os started H enc)

/-- THE STATEMENT -/
theorem proved : Rows.HallNilCardSaid :=
  Claim7.holds_tied_plain_at .later [] _ _ _ _
    over (fun _ h => by cases h) hallNilC.wfT (fun _ h => by cases h) hallNil_row_tie rfl ⟨rfl, rfl⟩ hallNilC.mainIs rfl
    (fun f fn hf hfn => by
      obtain rfl : f = 5 := Option.some.inj (hallNilC.fnamed.symm.trans hf) |>.symm
      obtain rfl : fn = Tryz.f5 := (Option.some.inj (Tryz.func5.symm.trans hfn)).symm
      exact ⟨hallNilC.looks, fun j t ht => by
        rw [Tryz.params5] at ht
        have hm : t ∈ [3, 3, 52] := by simpa using Array.mem_of_getElem? ht
        exact (show Tryz.prog.wantsStandIn t = false by simpa using List.all_eq_true.1 hallNilC.stand t hm)⟩)
    hallNilC.goes
#print axioms proved
end Go.Proofs.YtmcflcdddlaemaaGreatDoor.hallNil
