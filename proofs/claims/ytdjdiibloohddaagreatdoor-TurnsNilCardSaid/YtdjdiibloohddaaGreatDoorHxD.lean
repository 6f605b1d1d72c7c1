/- An operation with its call carried out; a region in the text's order. -/
import Derived.Test.YtdjdiibloohddaaGreatDoorHxC
import Derived.LoopNIn
import Derived.OrdersIn

/-! ## An operation with its call carried out; a region in the text's order. -/
set_option linter.unusedSimpArgs false
set_option linter.unusedVariables false
namespace Go.Hx
variable [Inp]
set_option linter.unusedSectionVars false

/-- the fence of a frame: of a function, or of a round -/
def FF : Option Nat → Fence
  | none => Fence.wide
  | some b => Fence.wide.inRound b

theorem FF_fn (l : Option Nat) (f : FuncId) : (FF l).fn f := by cases l <;> trivial
theorem FF_depth (l : Option Nat) : (FF l).depth.isSome = false := by cases l <;> rfl

theorem callsIn_FF {l : Option Nat} {P : Program} {f : FuncId} {args : Array Value} {w : World} {R : Ending → World → Prop} (h : CallsIn Fence.wide 0 P f args w R) : CallsIn (FF l) 0 P f args w R := by
  cases l with
  | none => exact h
  | some b => exact h

def RoOK (ρ : Ren) : Option Nat → Option Nat → Prop
  | none, none => True
  | some n, some b => ∃ κ, ρ n = some (b, κ)
  | _, _ => False

theorem RoOK.ext {ρ ρ' : Ren} (e : Ext ρ ρ') {r l : Option Nat} (h : RoOK ρ r l) : RoOK ρ' r l := by
  cases r <;> cases l <;> first
    | trivial
    | exact h.elim
    | (obtain ⟨κ, hκ⟩ := h; exact ⟨κ, e _ _ hκ⟩)

inductive DR (ρ : Ren) : List Nat → List Deferred → Prop
  | nil : DR ρ [] []
  | cons {d b κ : Nat} {ds : List Nat} {l : List Deferred} (h : ρ d = some (b, κ)) (hs : DR ρ ds l) : DR ρ (d :: ds) ({ target := .collected b, args := #[] } :: l)

theorem DR.ext {ρ ρ' : Ren} (e : Ext ρ ρ') {ds : List Nat} {l : List Deferred} (h : DR ρ ds l) : DR ρ' ds l := by
  induction h with
  | nil => exact .nil
  | cons h _ ih => exact .cons (e _ _ h) ih

def exOf : Ex → Exit
  | .normal => .normal
  | .exit id => .exit id
  | .goto l => .goto l
  | .ret => .ret

def CodeOK (P : Program) (c : Code) (cx : Cx) (s : St) (e : Ex) (s' : St) : Prop :=
  ∀ (ρ : Ren) (a : Act) (w : World) (l : Option Nat) (Q : Exit → Act → World → Prop), HR ρ s.h w → Fresh ρ s.h.next s'.h.next → TR ρ s.tm cx.n a.tmps → DR ρ s.dfr a.defers → RoOK ρ cx.ro l →
    (∀ ρ' a' w', Stp ρ s.h w ρ' s'.h w' → TR ρ' s'.tm cx.n a'.tmps → DR ρ' s'.dfr a'.defers → Q (exOf e) a' w') → c.wpIn (FF l) 0 P Q a w

def TaskOK (P : Program) : Task → Res → Prop
  | .code c cx s, .code e s' => s.h.next ≤ s'.h.next ∧ CodeOK P c cx s e s'
  | .call f args h, .call v h' => h.next ≤ h'.next ∧ SumOK P f args h v h'
  | _, _ => True

/-- what is asked of the executor with less fuel -/
def IH (P : Program) (ih : Task → Option Res) : Prop := ∀ t r, ih t = some r → TaskOK P t r

section
variable {ρ : Ren} {E : Env}

/-! ### memory only grows -/
theorem AH.next_put (h : AH) (n : Nat) (b : ABlk) : (h.put n b).next = h.next := rfl
theorem AH.next_new (h : AH) (b : ABlk) : (h.new b).next = h.next + 1 := rfl
theorem AH.next_drop (h : AH) (n : Nat) : (h.drop n).next = h.next := rfl

theorem wr_next {h h' : AH} {b off : Nat} {vs : List AV} (e : wr h b off vs = some h') : h'.next = h.next := by
  unfold wr at e
  split at e
  · split at e
    · cases e; rfl
    · cases e
  · cases e

theorem xact_next {tm : Tm} {h h' : AH} {o : Oper} {v : AV} (e : xact E tm h o = some (.val v h')) : h.next ≤ h'.next := by
  unfold xact at e
  split at e <;> (try (cases e; done))
  · split at e
    · unfold uh storeA at e
      split at e
      · rename_i h2 hs
        cases e
        split at hs
        · split at hs
          · split at hs
            · rw [wr_next hs]; exact Nat.le_refl _
            · cases hs
          · cases hs
        · cases hs
      · cases e
    · cases e
  · split at e
    · unfold ph convertX at e
      split at e
      · rename_i h2 hs
        cases e
        repeat' split at hs
        all_goals first | (cases hs; exact Nat.le_refl _) | (cases hs; done)
      · cases e
    · cases e
  · split at e
    · unfold uh mapUpdateA at e
      split at e
      · rename_i h2 hs
        cases e
        repeat' split at hs
        all_goals first | (cases hs; exact Nat.le_refl _) | (cases hs; done)
      · cases e
    · cases e
  · split at e
    · unfold ph rangeA at e
      split at e
      · rename_i h2 hs
        cases e
        repeat' split at hs
        all_goals first | (cases hs; exact Nat.le_succ _) | (cases hs; done)
      · cases e
    · cases e
  · split at e
    · unfold ph nextA at e
      split at e
      · rename_i h2 hs
        cases e
        repeat' split at hs
        all_goals first | (cases hs; exact Nat.le_refl _) | (cases hs; done)
      · cases e
    · cases e
  · split at e
    · unfold ph appendA at e
      split at e
      · rename_i h2 hs
        cases e
        repeat' split at hs
        all_goals first | (cases hs; first | exact Nat.le_refl _ | exact Nat.le_succ _) | (cases hs; done) | (rename_i hw; cases hs; rw [wr_next hw]; exact Nat.le_refl _)
      · cases e
    · cases e
  · split at e
    · unfold ph copyA at e
      split at e
      · rename_i h2 hs
        cases e
        repeat' split at hs
        all_goals first | (cases hs; exact Nat.le_refl _) | (cases hs; done) | (rename_i hw; cases hs; rw [wr_next hw]; exact Nat.le_refl _)
      · cases e
    · cases e
  · split at e
    · unfold uh deleteA at e
      split at e
      · rename_i h2 hs
        cases e
        repeat' split at hs
        all_goals first | (cases hs; exact Nat.le_refl _) | (cases hs; done)
      · cases e
    · cases e
  · split at e
    · split at e
      · split at e
        · cases e
        · split at e
          · cases e; exact Nat.le_refl _
          · cases e
      · cases e
    · cases e
    · cases e

theorem xop_next {tm : Tm} {h h' : AH} {o : Oper} {v : AV} (e : xop E tm h o = some (.val v h')) : h.next ≤ h'.next := by
  unfold xop at e
  split at e
  · unfold vh at e; split at e <;> cases e; exact Nat.le_refl _
  · split at e
    · unfold vh at e; split at e <;> cases e; exact Nat.le_refl _
    · split at e
      · unfold ah at e; split at e <;> cases e; exact Nat.le_succ _
      · exact xact_next e

theorem xop_noDefer {tm : Tm} {h : AH} {o : Oper} {out : Out} (e : xop E tm h o = some out) : ∀ c, o.op ≠ .defer c := by
  intro c hc
  unfold xop at e
  have h1 : isPure E o = false := by simp [isPure, hc]
  have h2 : isRead E o = false := by simp [isRead, hc]
  have h3 : isAlloc E o = false := by simp [isAlloc, hc]
  simp only [h1, h2, h3, Bool.false_eq_true, if_false] at e
  simp [xact, hc] at e

/-! ### wanted -/
theorem wanted_sound {ops : Array Oper} {tm : Tm} {n : Nat} {a : Act} (ht : TR ρ tm n a.tmps) (o : Oper) : Region.wanted o (yielded ops a.tmps) = wantedA ops tm o := by
  unfold Region.wanted wantedA
  cases hg : o.guard with
  | none => rfl
  | some g =>
    obtain ⟨j, want⟩ := g
    simp only []
    unfold yielded
    cases hj : ops[j]? with
    | none => simp
    | some p =>
      simp only [Option.bind_some]
      cases hd : p.dst with
      | none => simp
      | some d =>
        simp only [Option.bind_some]
        have hv := ht.2 d
        cases hx : a.tmps[d]? with
        | none =>
          have : a.tmps.getD d Go.undef = Go.undef := by simp [Array.getD_eq_getD_getElem?, hx]
          rw [this] at hv
          generalize Tm.at tm d = v at hv ⊢
          unfold Go.undef at hv
          cases hv <;> rfl
        | some x =>
          have : a.tmps.getD d Go.undef = x := by simp [Array.getD_eq_getD_getElem?, hx]
          rw [this] at hv
          generalize Tm.at tm d = v at hv ⊢
          cases hv <;> first
            | rfl
            | (rename_i b; cases b <;> cases want <;> rfl)
            | skip
          · rename_i hone
            cases x <;> first | rfl | (simp [anyCell, Value.oneCell'] at hone)
          · rename_i k hk
            have hone : anyCell x = true := by rw [← hk]; exact Inp.one k
            cases x <;> first | rfl | (simp [anyCell, Value.oneCell'] at hone)

/-! ### a round of a range over a function -/
theorem setArgs_sound {n : Nat} : ∀ {ps : List Tmp} {vs : List AV} {tm tm' : Tm} {tmps : Array Value} {us : List Value}, setArgs tm n ps vs = some tm' → TR ρ tm n tmps → VRs ρ vs us →
    TR ρ tm' n ((ps.zip us).foldl (fun t (p, v) => t.setIfInBounds p v) tmps) ∧ us.length = ps.length
  | [], [], tm, tm', tmps, _, h, ht, .nil => by simp [setArgs] at h; subst h; exact ⟨ht, rfl⟩
  | [], _ :: _, tm, tm', tmps, _, h, ht, _ => by simp [setArgs] at h
  | p :: ps, [], tm, tm', tmps, _, h, ht, _ => by simp [setArgs] at h
  | p :: ps, v :: vs, tm, tm', tmps, _, h, ht, .cons (v := u) (vs := us) hv hs => by
    simp only [setArgs] at h
    split at h
    · rename_i hp
      obtain ⟨h1, h2⟩ := setArgs_sound h (ht.set (Nat.le_of_ble_eq_true hp) hv) hs
      exact ⟨h1, by simp [h2]⟩
    · cases h

theorem jump_isNone (e : Ex) : (jumpOf e).isNone = true ↔ e = .normal := by cases e <;> simp [jumpOf]

theorem HR.loop {h : AH} {w : World} (hr : HR ρ h w) {l b κ : Nat} {st : LoopState} {pe : Option Code} {fn : FuncId} {tm : Tm} {n : Nat} {ps : Array Tmp} {asg body : Code} {d : Nat}
    (hg : h.get l = some (.loop st pe fn tm n ps asg body d)) (hl : ρ l = some (b, κ)) :
    ∃ fn' tmps db dk, w.heap[b]? = some (.loop { state := st, pending := pe, fn := fn', tmps, params := ps, assign := asg, body, defers := db }) ∧ TR ρ tm n tmps ∧ ρ d = some (db, dk) := by
  obtain ⟨o, hw, hb⟩ := hr.get hg hl
  cases hb with | loop ht hd => exact ⟨_, _, _, _, hw, ht, hd⟩

theorem roundA_next {ih : Task → Option Res} (hih : IH E.P ih) {h h' : AH} {l : Nat} {args : List AV} {v : AV} (hx : roundA ih h l args = some (v, h')) : h.next ≤ h'.next := by
  unfold roundA at hx
  split at hx <;> (try (cases hx; done))
  split at hx <;> (try (cases hx; done))
  split at hx <;> (try (cases hx; done))
  rename_i h1
  split at hx <;> (try (cases hx; done))
  split at hx <;> (try (cases hx; done))
  split at hx <;> (try (cases hx; done))
  rename_i h2
  split at hx <;> (try (cases hx; done))
  cases hx
  have a1 := (hih _ _ h1).1
  have a2 := (hih _ _ h2).1
  exact Nat.le_trans a1 a2

theorem roundA_sound {ih : Task → Option Res} (hih : IH E.P ih) {h h' : AH} {w : World} {l b κ : Nat} {args : List AV} {vargs : Array Value} {v : AV} {F : Fence} (hF : F = Fence.wide ∨ ∃ k, F = Fence.wide.inRound k)
    (hr : HR ρ h w) (hl : ρ l = some (b, κ)) (hx : roundA ih h l args = some (v, h')) (hf : Fresh ρ h.next h'.next) (hv : VRs ρ args vargs.toList) :
    ∃ fn tmps asg body, (Instr.yield b vargs).run E.P w = .ok (.round b fn tmps asg body) w ∧
      RoundIn F 0 E.P b fn tmps asg body w fun e w' => ∃ x ρ', e = .returned x ∧ Stp ρ h w ρ' h' w' ∧ VR ρ' v x := by
  have hnext := roundA_next hih hx
  unfold roundA at hx
  split at hx <;> (try (cases hx; done))
  rename_i st0 pe0 fn0 tm0 n0 ps0 asg0 body0 d0 hg
  split at hx <;> (try (cases hx; done))
  rename_i tm1 hset
  split at hx <;> (try (cases hx; done))
  rename_i s1 h1
  split at hx <;> (try (cases hx; done))
  rename_i hd1
  split at hx <;> (try (cases hx; done))
  rename_i pe2 fn2 tm2 n2 ps2 asg2 body2 d2 hg2
  split at hx <;> (try (cases hx; done))
  rename_i e3 s3 h3
  split at hx <;> (try (cases hx; done))
  rename_i pe4 fn4 tm4 n4 ps4 asg4 body4 d4 hg4
  cases hx
  obtain ⟨fn', tmps, db, dk, hw, ht, hdd⟩ := hr.loop hg hl
  obtain ⟨ht1, hlen⟩ := setArgs_sound hset ht hv
  have t1 := hih _ _ h1
  have t3 := hih _ _ h3
  have n1 : h.next ≤ s1.h.next := t1.1
  have n3 : s1.h.next ≤ s3.h.next := t3.1
  have nx : (s3.h.put l (.loop (if (jumpOf e3).isNone then .ready else .done) (jumpOf e3) fn4 tm4 n4 ps4 asg4 body4 d4)).next = s3.h.next := rfl
  refine ⟨fn', (ps0.zip vargs).foldl (fun tmps (t, a) => tmps.setIfInBounds t a) tmps, asg0, body0, ?_, ?_⟩
  · exact run_yield hw (by simp only [Array.length_toList] at hlen; exact hlen)
  · have hfold : (ps0.zip vargs).foldl (fun tmps (t, a) => tmps.setIfInBounds t a) tmps = (ps0.toList.zip vargs.toList).foldl (fun t (p, v) => t.setIfInBounds p v) tmps := by
      rw [← Array.foldl_toList, Array.toList_zip]
    rw [hfold]
    have hFR : F.inRound b = FF (some b) := by
      rcases hF with rfl | ⟨k, rfl⟩ <;> rfl
    refine roundIn_of_wpIn (by rcases hF with rfl | ⟨k, rfl⟩ <;> trivial) ?_
    rw [hFR]
    refine t1.2 ρ _ w (some b) _ hr (hf.mono (Nat.le_refl _) (by rw [nx]; exact n3)) ht1 .nil ⟨κ, hl⟩ ?_
    intro ρ1 a1 w1 st1 tr1 dr1
    rw [hd1] at dr1
    have f1 : Fresh ρ1 s1.h.next s3.h.next := (st1.fresh hf)
    have e1 := st1.ext (hf.mono (Nat.le_refl _) (by rw [nx]; exact n3))
    have hl1 := e1 _ _ hl
    obtain ⟨fn2', tmps2, db2, dk2, hw2, ht2, hdd2⟩ := st1.hr.loop hg2 hl1
    refine ⟨_, run_beginRound hw2 rfl, ?_⟩
    have stb := Stp.put (a' := .loop .busy pe2 fn2 tm2 n2 ps2 asg2 body2 d2) st1.hr hg2 hl1 (.loop (fn' := fn2') (st := .busy) (pe := pe2) (ps := ps2) (asg := asg2) (body := body2) ht2 hdd2)
    have hdf : a1.defers = [] := by cases hdl : a1.defers with
      | nil => rfl
      | cons x y => rw [hdl] at dr1; cases dr1
    refine t3.2 ρ1 a1 _ (some b) _ stb.hr f1 tr1 (by rw [hdf]; exact .nil) ⟨κ, hl1⟩ ?_
    intro ρ3 a3 w3 st3 tr3 dr3
    have e3' := st3.ext f1
    have hl3 := e3' _ _ hl1
    obtain ⟨fn4', tmps4, db4, dk4, hw4, ht4, hdd4⟩ := st3.hr.loop hg4 hl3
    have hend := run_endRound (P := E.P) (jumpOf e3) hw4
    have stp4 := Stp.put (a' := .loop (if (jumpOf e3).isNone then .ready else .done) (jumpOf e3) fn4 tm4 n4 ps4 asg4 body4 d4) st3.hr hg4 hl3
      (.loop (fn' := fn4') (st := if (jumpOf e3).isNone then .ready else .done) (pe := jumpOf e3) (ps := ps4) (asg := asg4) (body := body4) ht4 hdd4)
    have total := ((st1.trans stb).trans st3).trans stp4
    cases e3 <;> exact ⟨_, _, hend, _, ρ3, rfl, total, .bool _⟩

/-! ### an operation, its call carried out -/
theorem doneA_next {ih : Task → Option Res} (hih : IH E.P ih) {tm : Tm} {h h' : AH} {o : Oper} {v : AV} (hx : doneA E ih tm h o = some (v, h')) : h.next ≤ h'.next := by
  unfold doneA at hx
  split at hx
  · rename_i ho; cases hx; exact xop_next ho
  · split at hx
    · rename_i hc; cases hx; exact (hih _ _ hc).1
    · cases hx
  · exact roundA_next hih hx
  · cases hx

theorem stepA_next {ih : Task → Option Res} (hih : IH E.P ih) {ops : Array Oper} {tm : Tm} {h h' : AH} {o : Oper} {v : AV} (hx : stepA E ih ops tm h o = some (v, h')) : h.next ≤ h'.next := by
  unfold stepA at hx
  split at hx
  · exact doneA_next hih hx
  · cases hx; exact Nat.le_refl _

/-- ONE OPERATION: K holds behind it wherever what it hands over stands for v. -/
theorem stepA_sound (ok : EnvOK E) {ih : Task → Option Res} (hih : IH E.P ih) {ops : Array Oper} {i : Nat} {o : Oper} (hi : ops[i]? = some o) {tm : Tm} {n : Nat} {h h' : AH} {w : World} {a : Act} {v : AV} {l : Option Nat}
    {Q : Exit → Act → World → Prop} {K : Act → World → Prop} (hx : stepA E ih ops tm h o = some (v, h')) (hr : HR ρ h w) (hf : Fresh ρ h.next h'.next) (ht : TR ρ tm n a.tmps)
    (hK : ∀ ρ' x w', Stp ρ h w ρ' h' w' → VR ρ' v x → K (a.put o.dst x) w') : wpOpIn (FF l) 0 E.P ops Q i K a w := by
  unfold wpOpIn
  rw [hi]
  simp only []
  unfold stepA at hx
  rw [wanted_sound ht]
  split at hx
  · rename_i hw
    rw [if_pos hw]
    unfold doneA at hx
    refine ⟨fun f _ => FF_fn l f, ?_⟩
    cases ho : xop E tm h o with
    | none => simp [ho] at hx
    | some out =>
      have hsem : o.semAt (FF l).round a.eval = execOp a.eval o := Oper.semAt_eq _ _ _ (xop_noDefer ho)
      rw [hsem]
      have hok := xop_sound ok hr ho ht
      simp only [ho] at hx
      cases out with
      | val v1 h1 =>
        simp only at hx
        cases hx
        obtain ⟨nx, w', ρ', h1, h2, h3⟩ := hok hf
        rw [h1]
        cases h2 with
        | value hv => exact hK ρ' _ w' h3 hv
        | skip => exact hK ρ' _ w' h3 (.undef _)
      | call f args =>
        simp only at hx
        split at hx
        · rename_i v1 h1 hc
          cases hx
          obtain ⟨vargs, g1, g2⟩ := hok
          rw [g1]
          refine ⟨fun hd => (by rw [FF_depth] at hd; cases hd), ?_⟩
          refine (callsIn_FF ((hih _ _ hc).2 ρ w vargs hr hf g2)).mono ?_
          rintro e w' ⟨x, ρ', rfl, hst, hv⟩
          exact hK ρ' x w' hst hv
        · cases hx
      | round l1 args =>
        simp only at hx
        obtain ⟨b, κ, vargs, g1, g2, g3⟩ := hok
        rw [g3]
        obtain ⟨fn, tmps, asg, body, g4, g5⟩ := roundA_sound (F := FF l) hih (by cases l with
          | none => exact .inl rfl
          | some k => exact .inr ⟨k, rfl⟩) hr g1 hx hf g2
        rw [g4]
        refine ⟨fun hd => (by rw [FF_depth] at hd; cases hd), ?_⟩
        refine g5.mono ?_
        rintro e w' ⟨x, ρ', rfl, hst, hv⟩
        exact hK ρ' x w' hst hv
  · rename_i hw
    have hw' : wantedA ops tm o = false := by cases e : wantedA ops tm o with
      | false => rfl
      | true => exact absurd e hw
    rw [hw']
    cases hx
    refine ⟨fun f _ => FF_fn l f, ?_⟩
    exact hK ρ _ w (Stp.refl hr) (.undef _)

/-! ### a region in the text's order -/
theorem runOps_next {ih : Task → Option Res} (hih : IH E.P ih) {ops : Array Oper} {n : Nat} : ∀ {l : List Oper} {tm tm' : Tm} {h h' : AH}, runOps E ih ops n l tm h = some (tm', h') → h.next ≤ h'.next
  | [], tm, tm', h, h', hx => by simp [runOps] at hx; rw [hx.2]; exact Nat.le_refl _
  | o :: l, tm, tm', h, h', hx => by
    simp only [runOps] at hx
    split at hx
    · rename_i v h1 hs
      split at hx
      · exact Nat.le_trans (stepA_next hih hs) (runOps_next hih hx)
      · cases hx
    · cases hx

theorem put_defers (a : Act) (d : Option Tmp) (v : Value) : (a.put d v).defers = a.defers := by cases d <;> rfl

theorem runOps_sound (ok : EnvOK E) {ih : Task → Option Res} (hih : IH E.P ih) {ops : Array Oper} {n : Nat} {lo : Option Nat} {Q : Exit → Act → World → Prop} :
    ∀ (l : List Oper) (i : Nat) (ρ : Ren) (tm tm' : Tm) (h h' : AH) (w : World) (a : Act), ops.toList.drop i = l → runOps E ih ops n l tm h = some (tm', h') → HR ρ h w → Fresh ρ h.next h'.next → TR ρ tm n a.tmps →
      (∀ ρ' a' w', Stp ρ h w ρ' h' w' → TR ρ' tm' n a'.tmps → a'.defers = a.defers → Q .normal a' w') → wpOpsIn (FF lo) 0 E.P ops Q (List.range' i l.length) a w
  | [], i, ρ, tm, tm', h, h', w, a, _, hx, hr, hf, ht, hQ => by
    simp [runOps] at hx
    obtain ⟨rfl, rfl⟩ := hx
    exact hQ ρ a w (Stp.refl hr) ht rfl
  | o :: l, i, ρ, tm, tm', h, h', w, a, hd, hx, hr, hf, ht, hQ => by
    simp only [runOps] at hx
    split at hx
    · rename_i v h1 hs
      split at hx
      · rename_i tm1 hp
        have hi : ops[i]? = some o := by
          have : (ops.toList.drop i)[0]? = some o := by rw [hd]; rfl
          simpa using this
        have hd' : ops.toList.drop (i + 1) = l := by rw [← List.drop_drop, hd]; rfl
        have n1 := stepA_next hih hs
        have n2 := runOps_next hih hx
        rw [List.length_cons, List.range'_succ, wpOpsIn_cons]
        refine stepA_sound ok hih hi hs hr (hf.mono (Nat.le_refl _) n2) ht ?_
        intro ρ' x w' st hv
        have ext := st.ext (hf.mono (Nat.le_refl _) n2)
        refine runOps_sound ok hih l (i + 1) ρ' tm1 tm' h1 h' w' (a.put o.dst x) hd' hx st.hr (st.fresh hf) ((ht.ext ext).put hv hp) ?_
        intro ρ'' a' w'' st2 tr df
        exact hQ ρ'' a' w'' (st.trans st2) tr (by rw [df, put_defers])
      · cases hx
    · cases hx

end
end Go.Hx

/-! ## The executor as a whole: what it says of a call is a contract of the function. -/
set_option linter.unusedSimpArgs false
set_option linter.unusedVariables false
namespace Go.Hx
variable [Inp]
set_option linter.unusedSectionVars false

/-- what is asked of the executor at a region that draws its order -/
def DrawnOK (E : Env) (ih : Task → Option Res) : Prop :=
  ∀ (ops : Array Oper) (n : Nat) (tm tm' : Tm) (h h' : AH), drawnA E ih ops n tm h = some (tm', h') → h.next ≤ h'.next ∧
    ∀ (ρ : Ren) (a : Act) (w : World) (lo : Option Nat) (Q : Exit → Act → World → Prop) (id : Nat), HR ρ h w → Fresh ρ h.next h'.next → TR ρ tm n a.tmps →
      (∀ ρ' a' w', Stp ρ h w ρ' h' w' → TR ρ' tm' n a'.tmps → a'.defers = a.defers → Q .normal a' w') → (Code.region id ops true).wpIn (FF lo) 0 E.P Q a w

section
variable {ρ : Ren} {E : Env}

/-! ### results -/
theorem resultA_sound {h : AH} {w : World} {tm : Tm} {n : Nat} {tmps : Array Value} (hr : HR ρ h w) (ht : TR ρ tm n tmps) : ∀ {l : List ResultVar} {vs : List AV}, resultA E tm h l = some vs →
    ∃ us : List Value, (l.mapM (fun
      | .tmp t => pure (tmps.getD t Go.undef)
      | .cell a t => do loadVar t (← asAddr (tmps.getD a Go.undef)) : ResultVar → Sem Value)).run E.P w = .ok us w ∧ VRs ρ vs us
  | [], vs, hx => by cases hx; exact ⟨[], by simp, .nil⟩
  | .tmp t :: l, vs, hx => by
    simp only [resultA] at hx
    split at hx
    · rename_i us hus
      cases hx
      obtain ⟨us', h1, h2⟩ := resultA_sound hr ht hus
      exact ⟨_, by simp only [List.mapM_cons, Sem.run_bind, Sem.run_pure, Result.andThen_ok, h1], .cons (ht.2 t) h2⟩
    · cases hx
  | .cell a t :: l, vs, hx => by
    simp only [resultA] at hx
    split at hx
    · rename_i v hv
      split at hx
      · rename_i us hus
        cases hx
        obtain ⟨us', h1, h2⟩ := resultA_sound hr ht hus
        obtain ⟨⟨ad, had⟩, x, h3, h4⟩ := loadA_sound (P := E.P) hr hv (ht.2 a)
        rw [had] at h3
        have h3' : (loadVar t ad).run E.P w = .ok x w := by simpa [Instr.loadAt, Instr.sureAddr] using h3
        refine ⟨x :: us', ?_, .cons h4 h2⟩
        have ha : (asAddr (.pointer (some ad))).run E.P w = .ok ad w := rfl
        simp only [List.mapM_cons, Sem.run_bind, Sem.run_pure, had, ha, Result.andThen_ok, h3', h1]
      · cases hx
    · cases hx

theorem shutA_next : ∀ {ds : List Nat} {h h' : AH}, shutA ds h = some h' → h'.next = h.next
  | [], h, h', hx => by cases hx; rfl
  | d :: ds, h, h', hx => by
    simp only [shutA] at hx
    split at hx
    · rw [shutA_next hx]; rfl
    · cases hx

theorem leaveA_next {fn : Func} {s : St} {v : AV} {h' : AH} (hx : leaveA E fn s = some (.call v h')) : h'.next = s.h.next := by
  unfold leaveA at hx
  split at hx
  · rename_i h hs
    split at hx
    · cases hx; exact shutA_next hs
    · cases hx; exact shutA_next hs
    · cases hx
  · cases hx

theorem leave_sound {fn : Func} {tm : Tm} {n : Nat} {tmps : Array Value} {R : Ending → World → Prop} {vs : List AV} {v : AV} : ∀ {ds : List Nat} {h h' : AH} {ρ : Ren} {w : World} {l : List Deferred}, shutA ds h = some h' →
    resultA E tm h' fn.results.toList = some vs → ((∃ x, vs = [x] ∧ v = x) ∨ ((∀ x, vs ≠ [x]) ∧ v = .tup vs)) → HR ρ h w → TR ρ tm n tmps → DR ρ ds l →
    (∀ x w', Stp ρ h w ρ h' w' → VR ρ v x → R (.returned x) w') → LeavesInM Fence.wide 0 E.P fn tmps R l .returning w
  | [], h, h', ρ, w, _, hs, hres, hv, hr, ht, .nil, hR => by
    cases hs
    obtain ⟨us, h1, h2⟩ := resultA_sound hr ht hres
    have h1' : (fn.results.mapM (fun
      | .tmp t => pure (tmps.getD t Go.undef)
      | .cell a t => do loadVar t (← asAddr (tmps.getD a Go.undef)) : ResultVar → Sem Value)).run E.P w = .ok us.toArray w := by
      rw [Array.mapM_eq_mapM_toList]
      simp only [Sem.run_map, h1, Result.andThen_ok]
    have h2' : (results fn tmps).run E.P w = Result.andThen (.ok us.toArray w) (fun vs w => (pure (if h : vs.size = 1 then vs[0] else .tuple vs) : Sem Value).run E.P w) := by
      unfold results
      rw [Sem.run_bind]
      exact congrArg (fun r => Result.andThen r _) h1'
    rcases hv with ⟨x, rfl, rfl⟩ | ⟨hne, rfl⟩
    · cases h2 with | cons h3 h4 =>
      cases h4
      rename_i y
      refine ⟨y, ?_, hR y w (Stp.refl hr) h3⟩
      rw [h2']
      simp
    · refine ⟨.tuple us.toArray, ?_, hR _ w (Stp.refl hr) (.tup (by simpa using h2))⟩
      have hl := h2.length
      have : ¬ us.toArray.size = 1 := by
        intro e
        simp at e
        cases us with
        | nil => simp at e
        | cons y us => cases us with
          | nil => cases h2 with | cons _ h4 => cases h4; exact hne _ rfl
          | cons z us => simp at e
      rw [h2']
      simp only [Result.andThen_ok, dif_neg this, Sem.run_pure]
  | d :: ds, h, h', ρ, w, _, hs, hres, hv, hr, ht, .cons (b := b) (κ := κ) hd hds, hR => by
    simp only [shutA] at hs
    split at hs
    · rename_i hg
      obtain ⟨o, hw, hb⟩ := hr.get hg hd
      cases hb
      have st := Stp.put (a' := .dfr true) (o' := .deferred none) hr hg hd (BR.dfr (shut := true))
      refine ⟨by simp, .inl ⟨b, w.putObj b (.deferred none), rfl, run_takeDeferred hw, ?_⟩⟩
      refine leave_sound hs hres hv st.hr ht hds ?_
      intro x w' st2 hv2
      exact hR x w' (st.trans st2) hv2
    · cases hs

/-! ### a call -/
theorem TR.args {args : List AV} {vargs : Array Value} {n : Nat} (hv : VRs ρ args vargs.toList) (hn : args.length ≤ n) :
    TR ρ (Tr.ofListFrom args 0 .nil) n (vargs ++ Array.replicate (n - vargs.size) Go.undef) := by
  have hl := hv.length
  have hl' : vargs.size = args.length := by simpa using hl
  refine ⟨by simp; omega, fun t => ?_⟩
  unfold Tm.at
  rw [Tr.get_ofListFrom]
  by_cases h : t < args.length
  · rw [if_pos (by omega)]
    have h1 : args[t - 0]? = some args[t] := by simp [h]
    rw [h1]
    obtain ⟨x, hx, hr⟩ := hv.get (i := t) (a := args[t]) (by simp [h])
    have : (vargs ++ Array.replicate (n - vargs.size) Go.undef).getD t Go.undef = x := by
      rw [Array.getD_eq_getD_getElem?, Array.getElem?_append_left (by omega)]
      rw [← Array.getElem?_toList, hx]; rfl
    rw [this]; exact hr
  · rw [if_neg (by omega)]
    rw [show (Tr.nil : Tm).get t = none from rfl]
    have : (vargs ++ Array.replicate (n - vargs.size) Go.undef).getD t Go.undef = Go.undef := by
      rw [Array.getD_eq_getD_getElem?, Array.getElem?_append_right (by omega), Array.getElem?_replicate]
      split <;> rfl
    rw [this]; exact .undef _

theorem call_sound {ih : Task → Option Res} (hih : IH E.P ih) {f : FuncId} {fn : Func} {c : Code} {args : List AV} {h h' : AH} {v : AV} {s : St} {e : Ex} (hfn : E.P.funcs[f]? = some fn) (hc : fn.body = some c)
    (hn : args.length ≤ fn.ntmps) (he : e = .normal ∨ e = .ret) (hx : ih (.code c ⟨f, none, fn.ntmps⟩ ⟨Tr.ofListFrom args 0 .nil, [], h⟩) = some (.code e s)) (hl : leaveA E fn s = some (.call v h')) :
    TaskOK E.P (.call f args h) (.call v h') := by
  have t := hih _ _ hx
  have hnx := leaveA_next hl
  refine ⟨by rw [hnx]; exact t.1, ?_⟩
  intro ρ w vargs hr hf hv
  refine callsIn_of_wp_marks hfn hc trivial ?_ rfl
  refine t.2 ρ _ w none _ hr (by rw [hnx] at hf; exact hf) (TR.args hv hn) .nil trivial ?_
  intro ρ' a' w' st tr dr
  unfold leaveA at hl
  split at hl
  · rename_i h2 hsh
    have key : ∀ {vs : List AV}, resultA E s.tm h2 fn.results.toList = some vs → ((∃ x, vs = [x] ∧ v = x) ∨ ((∀ x, vs ≠ [x]) ∧ v = .tup vs)) → h2 = h' →
        LeavesInM Fence.wide 0 E.P fn a'.tmps (fun e w' => ∃ x ρ', e = .returned x ∧ Stp ρ h w ρ' h' w' ∧ VR ρ' v x) a'.defers .returning w' := by
      intro vs hres hvs heq
      subst heq
      exact leave_sound hsh hres hvs st.hr tr dr (fun x w2 st2 hvx => ⟨x, ρ', rfl, st.trans st2, hvx⟩)
    have goal : LeavesInM Fence.wide 0 E.P fn a'.tmps (fun e w' => ∃ x ρ', e = .returned x ∧ Stp ρ h w ρ' h' w' ∧ VR ρ' v x) a'.defers .returning w' := by
      split at hl
      · rename_i x hres
        cases hl
        exact key hres (.inl ⟨_, rfl, rfl⟩) rfl
      · rename_i vs hne hres
        cases hl
        exact key hres (.inr ⟨fun x e => hne x e, rfl⟩) rfl
      · cases hl
    rcases he with rfl | rfl
    · exact goal
    · exact goal
  · cases hl

/-! ### a range over a function -/
/-- what is laid ahead of a range over a function -/
def layLoop (cx : Cx) (s : St) : Option (AH × List Nat × Nat) := match cx.ro with
  | none => some (s.h.new (.dfr false), s.h.next :: s.dfr, s.h.next)
  | some l0 => match s.h.get l0 with
    | some (.loop _ _ _ _ _ _ _ _ d) => some (s.h, s.dfr, d)
    | _ => none

def afterR (ih : Task → Option Res) (cx : Cx) (tm : Tm) (ds : List Nat) (h : AH) : Option Code → Option Res
  | none => some (.code .normal ⟨tm, ds, h⟩)
  | some c => ih (.code c cx ⟨tm, ds, h⟩)

theorem rangeFn_eq {ih : Task → Option Res} (cx : Cx) (s : St) (f : Operand) (ps : Array Tmp) (asg body : Code) : rangeFn E ih cx s f ps asg body =
  match evalA s.tm f with
  | some (.fn g first cap) => match E.P.funcs[g]? with
    | some fn => match fn.body with
      | some _ =>
        match layLoop cx s with
        | some (h1, ds, d) => match ih (.call g (first ++ [.yield h1.next] ++ cap) (h1.new (.loop .ready none cx.fn s.tm cx.n ps asg body d))) with
          | some (.call _ h3) => match h3.get h1.next with
            | some (.loop st pe fn2 tm2 n2 ps2 asg2 body2 d2) => match st with
              | .busy => none
              | _ => afterR ih cx s.tm ds (h3.put h1.next (.loop .exhausted pe fn2 tm2 n2 ps2 asg2 body2 d2)) pe
            | _ => none
          | _ => none
        | none => none
      | none => none
    | none => none
  | _ => none := rfl

theorem rangeFn_sound (ok : EnvOK E) {ih : Task → Option Res} (hih : IH E.P ih) {cx : Cx} {s : St} {f : Operand} {ps : Array Tmp} {asg body : Code} {e : Ex} {s' : St} (hx : rangeFn E ih cx s f ps asg body = some (.code e s')) :
    TaskOK E.P (.code (.rangeFunc f ps asg body) cx s) (.code e s') := by
  rw [rangeFn_eq] at hx
  split at hx <;> (try (cases hx; done))
  rename_i g first cap hev
  split at hx <;> (try (cases hx; done))
  rename_i fn hfn
  split at hx <;> (try (cases hx; done))
  rename_i c hc
  -- what is laid ahead
  cases hr0 : layLoop cx s with
  | none => simp [hr0] at hx
  | some r =>
    obtain ⟨h1, ds, d⟩ := r
    simp only [hr0] at hx
    split at hx <;> (try (cases hx; done))
    rename_i v3 h3 hcall
    split at hx <;> (try (cases hx; done))
    rename_i st pe fn2 tm2 n2 ps2 asg2 body2 d2 hg3
    have tcall := hih _ _ hcall
    have n3 : h1.next + 1 ≤ h3.next := tcall.1
    have n1 : s.h.next ≤ h1.next := by
      unfold layLoop at hr0
      cases hro : cx.ro with
      | none => simp only [hro] at hr0; cases hr0; exact Nat.le_succ _
      | some l0 =>
        simp only [hro] at hr0
        split at hr0
        · cases hr0; exact Nat.le_refl _
        · cases hr0
    have hbusy : st ≠ .busy := by intro e0; subst e0; simp at hx
    have hx' : afterR ih cx s.tm ds (h3.put h1.next (.loop .exhausted pe fn2 tm2 n2 ps2 asg2 body2 d2)) pe = some (.code e s') := by
      cases st <;> first | exact absurd rfl hbusy | exact hx
    have hend : h3.next ≤ s'.h.next := by
      cases pe with
      | none => simp only [afterR] at hx'; cases hx'; exact Nat.le_refl _
      | some c2 => exact (hih _ _ hx').1
    refine ⟨by omega, ?_⟩
    intro ρ a w l Q hr hf ht hd hro hQ
    have hfv := evalA_sound (ρ := ρ) ht hev
    generalize hfe : a.eval f = fv at hfv
    cases hfv with | fn hfa hca =>
    rename_i fa ca
    refine wpIn_rangeFunc ?_
    intro fn' _
    -- the block for deferred calls, if this is an outermost loop
    have lay : ∃ (mark : List Deferred) (w1 : World) (ρ1 : Ren) (db dk : Nat), (∀ rec : Nat → Loop, True) ∧ Stp ρ s.h w ρ1 h1 w1 ∧ ρ1 d = some (db, dk) ∧ DR ρ1 ds (mark ++ a.defers) ∧
        (Instr.enterLoop fn' a.tmps ps asg body (FF l).round).run E.P w =
          .ok (w1.heap.size, mark) (w1.alloc (.loop { state := .ready, pending := none, fn := fn', tmps := a.tmps, params := ps, assign := asg, body, defers := db })) := by
      unfold layLoop at hr0
      cases hro2 : cx.ro with
      | none =>
        rw [hro2] at hro
        cases l with
        | some b => exact hro.elim
        | none =>
          simp only [hro2] at hr0
          cases hr0
          have hfr : ρ s.h.next = none := hf s.h.next (Nat.le_refl _) (by have : s.h.next + 1 ≤ h3.next := by have := n3; simp only [AH.next_new] at this; omega
                                                                          omega)
          have st := Stp.alloc hr hfr 0 (a := .dfr false) (o := .deferred (some [])) (BR.dfr (shut := false))
          refine ⟨[{ target := .collected w.heap.size, args := #[] }], w.alloc (.deferred (some [])), _, w.heap.size, 0, fun _ => trivial, st, Ren.with_same _ _ _ _, .cons (Ren.with_same _ _ _ _) (hd.ext (Ren.with_ext hfr)), ?_⟩
          have := run_enterLoop_outer (P := E.P) (w := w) fn' a.tmps ps asg body
          rw [World.size_alloc]; exact this
      | some l0 =>
        rw [hro2] at hro
        cases l with
        | none => exact hro.elim
        | some b =>
          obtain ⟨κ, hκ⟩ := hro
          simp only [hro2] at hr0
          split at hr0
          · rename_i hg0
            cases hr0
            obtain ⟨fn0, tmps0, db, dk, hw, _, hdd⟩ := hr.loop hg0 hκ
            refine ⟨[], w, ρ, db, dk, fun _ => trivial, Stp.refl hr, hdd, by simpa using hd, ?_⟩
            show (Instr.enterLoop fn' a.tmps ps asg body (some b)).run E.P w = _
            simp only [Instr.enterLoop, Sem.run_bind, run_getLoop hw, Result.andThen_ok, Sem.run_pure, run_newObj_alloc]
          · cases hr0
    obtain ⟨mark, w1, ρ1, db, dk, _, st1, hdd, hdr, hrun⟩ := lay
    have f1 : Fresh ρ1 h1.next s'.h.next := st1.fresh hf
    have ext1 := st1.ext (hf.mono (Nat.le_refl _) (by omega))
    have hfr1 : ρ1 h1.next = none := f1 h1.next (Nat.le_refl _) (by omega)
    have st2 := Stp.alloc st1.hr hfr1 0 (a := .loop .ready none cx.fn s.tm cx.n ps asg body d)
      (o := .loop { state := .ready, pending := none, fn := fn', tmps := a.tmps, params := ps, assign := asg, body, defers := db })
      (.loop ((ht.ext ext1).ext (Ren.with_ext hfr1)) (Ren.with_ext hfr1 _ _ hdd))
    have ext2 : Ext ρ1 (ρ1.with h1.next w1.heap.size 0) := Ren.with_ext hfr1
    have hargs : VRs (ρ1.with h1.next w1.heap.size 0) (first ++ [.yield h1.next] ++ cap) (fa ++ #[Value.func (.yield w1.heap.size) #[] #[]] ++ ca).toList :=
      VRs.append3 ((hfa.ext ext1).ext ext2) (.cons (.yield (Ren.with_same _ _ _ _)) .nil) ((hca.ext ext1).ext ext2)
    have f2 : Fresh (ρ1.with h1.next w1.heap.size 0) (h1.next + 1) s'.h.next := st2.fresh f1
    refine ⟨w1.heap.size, mark, _, { target := .fn (.func g) ca, args := fa ++ #[Value.func (.yield w1.heap.size) #[] #[]] }, (w1.alloc (.loop { state := .ready, pending := none, fn := fn', tmps := a.tmps, params := ps, assign := asg, body, defers := db })), g, fa ++ #[Value.func (.yield w1.heap.size) #[] #[]] ++ ca, (w1.alloc (.loop { state := .ready, pending := none, fn := fn', tmps := a.tmps, params := ps, assign := asg, body, defers := db })), hrun, ?_, fun f' _ => FF_fn l f', run_callFunc_enter ok hfn hc _ _,
      fun hdp => (by rw [FF_depth] at hdp; cases hdp), ?_⟩
    · have hrs : resolve a.eval (rangeCall f w1.heap.size) 0 = Deferred.ofValue (a.eval f) #[Value.func (.yield w1.heap.size) #[] #[]] := by simp [resolve, rangeCall]; rfl
      rw [hrs, hfe]
      rfl
    · refine (callsIn_FF (tcall.2 _ _ _ st2.hr (f2.mono (Nat.le_refl _) hend) hargs)).mono ?_
      rintro e2 w3 ⟨x3, ρ3, rfl, st3, _⟩
      have f3 : Fresh ρ3 h3.next s'.h.next := st3.fresh f2
      have ext3 := st3.ext (f2.mono (Nat.le_refl _) hend)
      have hl3 := ext3 _ _ (Ren.with_same ρ1 h1.next w1.heap.size 0)
      obtain ⟨fn4, tmps4, db4, dk4, hw4, ht4, hdd4⟩ := st3.hr.loop hg3 hl3
      have hrunend := run_endLoop (P := E.P) hw4 hbusy
      have st4 := Stp.put (a' := .loop .exhausted pe fn2 tm2 n2 ps2 asg2 body2 d2) st3.hr hg3 hl3 (.loop (fn' := fn4) (st := .exhausted) (pe := pe) (ps := ps2) (asg := asg2) (body := body2) ht4 hdd4)
      have total := ((st1.trans st2).trans st3).trans st4
      have tr3 : TR ρ3 s.tm cx.n a.tmps := ((ht.ext ext1).ext ext2).ext ext3
      have dr3 : DR ρ3 ds (mark ++ a.defers) := (hdr.ext ext2).ext ext3
      refine ⟨pe, _, hrunend, ?_⟩
      cases pe with
      | none =>
        simp only [afterR] at hx'
        cases hx'
        exact hQ ρ3 { a with defers := mark ++ a.defers } _ total tr3 dr3
      | some c2 =>
        have t5 := hih _ _ hx'
        refine t5.2 ρ3 { a with defers := mark ++ a.defers } _ l Q st4.hr f3 tr3 dr3 (((hro.ext ext1).ext ext2).ext ext3) ?_
        intro ρ5 a5 w5 st5 tr5 dr5
        exact hQ ρ5 a5 w5 (total.trans st5) tr5 dr5

end
end Go.Hx

/-! ## The executor as a whole is sound, where the regions that draw their order are. -/
set_option linter.unusedSimpArgs false
set_option linter.unusedVariables false
namespace Go.Hx
variable [Inp]
set_option linter.unusedSectionVars false

/-- a loop that stands at the head of a round -/
def unrolled (F : Fence) (n : Nat) (P : Program) (c : Code) (Q : Exit → Act → World → Prop) (a : Act) (w : World) : Prop :=
  ∀ (b : Frame) (k : List Item) (cs : List Frame), b.roundOf = F.round → F.fn b.fn → F.room (cs.length + 1 + n) →
    ∃ e a' w', Q e a' w' ∧ ArrivesIn (Machine.fenced P F) P (lone (b.atR a (.code c :: .inLoop c :: k)) cs w) b k cs e a' w'

section
variable {F : Fence} {n : Nat} {P : Program} {c : Code} {Q : Exit → Act → World → Prop} {a : Act} {w : World}

theorem unrolled_intro (h : c.wpIn F n P (Exit.then (unrolled F n P c Q) Q) a w) : unrolled F n P c Q a w := by
  intro b k cs hro hb hr
  obtain ⟨e, a₁, w₁, hq, harr⟩ := h b (.inLoop c :: k) cs hro hb hr
  cases e with
  | normal =>
    obtain ⟨e₂, a₂, w₂, hq₂, harr₂⟩ := hq b k cs hro hb hr
    exact ⟨e₂, a₂, w₂, hq₂, .of_steps (StepsIn.trans harr (.one (fenced_calm hb hr rfl) stepR_inLoop)) harr₂⟩
  | exit id => exact ⟨_, a₁, w₁, hq, .pass (x := .inLoop c) rfl (fun _ _ => .inl (by simp)) harr⟩
  | goto l => exact ⟨_, a₁, w₁, hq, .pass (x := .inLoop c) rfl (fun _ _ => .inl (by simp)) harr⟩
  | ret => exact ⟨_, a₁, w₁, hq, .pass (x := .inLoop c) rfl (fun _ _ => .inl (by simp)) harr⟩
  | panic ch => exact ⟨_, a₁, w₁, hq, .pass (x := .inLoop c) rfl (fun _ _ => .inl (by simp)) harr⟩
  | outgrown => exact ⟨_, a₁, w₁, hq, .pass (x := .inLoop c) rfl (fun _ _ => .inl (by simp)) harr⟩

theorem wpIn_unrolled (h : unrolled F n P c Q a w) : (Code.loop c).wpIn F n P Q a w := by
  intro b k cs hro hb hr
  obtain ⟨e, a₁, w₁, hq, harr⟩ := h b k cs hro hb hr
  exact ⟨e, a₁, w₁, hq, .of_steps (.one (fenced_calm hb hr rfl) stepR_loop) harr⟩
end

def LoopOK (P : Program) (c : Code) (cx : Cx) (s : St) (e : Ex) (s' : St) : Prop :=
  ∀ (ρ : Ren) (a : Act) (w : World) (l : Option Nat) (Q : Exit → Act → World → Prop), HR ρ s.h w → Fresh ρ s.h.next s'.h.next → TR ρ s.tm cx.n a.tmps → DR ρ s.dfr a.defers → RoOK ρ cx.ro l →
    (∀ ρ' a' w', Stp ρ s.h w ρ' s'.h w' → TR ρ' s'.tm cx.n a'.tmps → DR ρ' s'.dfr a'.defers → Q (exOf e) a' w') → unrolled (FF l) 0 P c Q a w

def Loops (P : Program) (ih : Task → Option Res) : Prop := ∀ c cx s e s', ih (.code (.loop c) cx s) = some (.code e s') → LoopOK P c cx s e s'

section
variable {E : Env}

theorem code_loop {ih : Task → Option Res} (hih : IH E.P ih) (hl : Loops E.P ih) {c : Code} {cx : Cx} {s : St} {e : Ex} {s' : St} (hx : body E ih (.code (.loop c) cx s) = some (.code e s')) :
    s.h.next ≤ s'.h.next ∧ LoopOK E.P c cx s e s' := by
  simp only [body] at hx
  split at hx <;> (try (cases hx; done))
  · rename_i s1 h1
    have t1 := hih _ _ h1
    have t2 := hih _ _ hx
    have l2 := hl _ _ _ _ _ hx
    have n1 : s.h.next ≤ s1.h.next := t1.1
    have n2 : s1.h.next ≤ s'.h.next := t2.1
    refine ⟨Nat.le_trans n1 n2, ?_⟩
    intro ρ a w l Q hr hf ht hd hro hQ
    refine unrolled_intro (t1.2 ρ a w l _ hr (hf.mono (Nat.le_refl _) n2) ht hd hro ?_)
    intro ρ1 a1 w1 st1 tr1 dr1
    have ext := st1.ext (hf.mono (Nat.le_refl _) n2)
    exact l2 ρ1 a1 w1 l Q st1.hr (st1.fresh hf) tr1 dr1 (hro.ext ext) (fun ρ2 a2 w2 st2 tr2 dr2 => hQ ρ2 a2 w2 (st1.trans st2) tr2 dr2)
  · rename_i e1 s1 hne h1
    cases hx
    have t1 := hih _ _ h1
    refine ⟨t1.1, ?_⟩
    intro ρ a w l Q hr hf ht hd hro hQ
    refine unrolled_intro (t1.2 ρ a w l _ hr hf ht hd hro ?_)
    intro ρ1 a1 w1 st1 tr1 dr1
    cases e with
    | normal => exact (hne rfl).elim
    | exit id => exact hQ ρ1 a1 w1 st1 tr1 dr1
    | goto id => exact hQ ρ1 a1 w1 st1 tr1 dr1
    | ret => exact hQ ρ1 a1 w1 st1 tr1 dr1

theorem code_sound (ok : EnvOK E) {ih : Task → Option Res} (hih : IH E.P ih) (hl : Loops E.P ih) (hd : DrawnOK E ih) : ∀ (c : Code) (cx : Cx) (s : St) (e : Ex) (s' : St),
    body E ih (.code c cx s) = some (.code e s') → TaskOK E.P (.code c cx s) (.code e s')
  | .skip, cx, s, e, s', hx => by
    simp only [body] at hx; cases hx
    exact ⟨Nat.le_refl _, fun ρ a w l Q hr hf ht hd hro hQ => wpIn_skip (hQ ρ a w (Stp.refl hr) ht hd)⟩
  | .label _, cx, s, e, s', hx => by
    simp only [body] at hx; cases hx
    exact ⟨Nat.le_refl _, fun ρ a w l Q hr hf ht hd hro hQ => wpIn_label (hQ ρ a w (Stp.refl hr) ht hd)⟩
  | .exit _, cx, s, e, s', hx => by
    simp only [body] at hx; cases hx
    exact ⟨Nat.le_refl _, fun ρ a w l Q hr hf ht hd hro hQ => wpIn_exit (hQ ρ a w (Stp.refl hr) ht hd)⟩
  | .goto _, cx, s, e, s', hx => by
    simp only [body] at hx; cases hx
    exact ⟨Nat.le_refl _, fun ρ a w l Q hr hf ht hd hro hQ => wpIn_goto (hQ ρ a w (Stp.refl hr) ht hd)⟩
  | .ret, cx, s, e, s', hx => by
    simp only [body] at hx; cases hx
    exact ⟨Nat.le_refl _, fun ρ a w l Q hr hf ht hd hro hQ => wpIn_ret (hQ ρ a w (Stp.refl hr) ht hd)⟩
  | .seq c d, cx, s, e, s', hx => by
    simp only [body] at hx
    split at hx <;> (try (cases hx; done))
    · rename_i s1 h1
      have t1 := hih _ _ h1
      have t2 := hih _ _ hx
      have n1 : s.h.next ≤ s1.h.next := t1.1
      have n2 : s1.h.next ≤ s'.h.next := t2.1
      refine ⟨Nat.le_trans n1 n2, ?_⟩
      intro ρ a w l Q hr hf ht hd hro hQ
      refine wpIn_seq (t1.2 ρ a w l _ hr (hf.mono (Nat.le_refl _) n2) ht hd hro ?_)
      intro ρ1 a1 w1 st1 tr1 dr1
      have ext := st1.ext (hf.mono (Nat.le_refl _) n2)
      exact t2.2 ρ1 a1 w1 l Q st1.hr (st1.fresh hf) tr1 dr1 (hro.ext ext) (fun ρ2 a2 w2 st2 tr2 dr2 => hQ ρ2 a2 w2 (st1.trans st2) tr2 dr2)
    · rename_i e1 s1 hne h1
      cases hx
      have t1 := hih _ _ h1
      refine ⟨t1.1, ?_⟩
      intro ρ a w l Q hr hf ht hd hro hQ
      refine wpIn_seq (t1.2 ρ a w l _ hr hf ht hd hro ?_)
      intro ρ1 a1 w1 st1 tr1 dr1
      cases e with
      | normal => exact (hne rfl).elim
      | exit id => exact hQ ρ1 a1 w1 st1 tr1 dr1
      | goto id => exact hQ ρ1 a1 w1 st1 tr1 dr1
      | ret => exact hQ ρ1 a1 w1 st1 tr1 dr1
  | .cond c x y, cx, s, e, s', hx => by
    simp only [body] at hx
    split at hx <;> (try (cases hx; done))
    rename_i t hev
    split at hx
    · rename_i ht1
      have t1 := hih _ _ hx
      refine ⟨t1.1, ?_⟩
      intro ρ a w l Q hr hf ht hd hro hQ
      have hv := evalA_sound (ρ := ρ) ht hev
      generalize hfe : a.eval c = v at hv
      cases hv
      refine wpIn_cond hfe ?_
      rw [if_pos ht1]
      exact t1.2 ρ a w l Q hr hf ht hd hro hQ
    · rename_i ht1
      have t1 := hih _ _ hx
      refine ⟨t1.1, ?_⟩
      intro ρ a w l Q hr hf ht hd hro hQ
      have hv := evalA_sound (ρ := ρ) ht hev
      generalize hfe : a.eval c = v at hv
      cases hv
      refine wpIn_cond hfe ?_
      rw [if_neg ht1]
      exact t1.2 ρ a w l Q hr hf ht hd hro hQ
  | .block id c, cx, s, e, s', hx => by
    simp only [body] at hx
    split at hx <;> (try (cases hx; done))
    · rename_i id' s1 h1
      have t1 := hih _ _ h1
      split at hx
      · rename_i hid
        have hid' := beq_yes hid
        cases hx
        refine ⟨t1.1, ?_⟩
        intro ρ a w l Q hr hf ht hd hro hQ
        refine wpIn_block (t1.2 ρ a w l _ hr hf ht hd hro ?_)
        intro ρ1 a1 w1 st1 tr1 dr1
        show Exit.inBlock id Q (.exit id') a1 w1
        rw [Exit.inBlock, if_pos hid']
        exact hQ ρ1 a1 w1 st1 tr1 dr1
      · rename_i hid
        have hid' : ¬ id' = id := fun e => hid (by rw [e]; exact Nat.beq_refl _)
        cases hx
        refine ⟨t1.1, ?_⟩
        intro ρ a w l Q hr hf ht hd hro hQ
        refine wpIn_block (t1.2 ρ a w l _ hr hf ht hd hro ?_)
        intro ρ1 a1 w1 st1 tr1 dr1
        show Exit.inBlock id Q (.exit id') a1 w1
        rw [Exit.inBlock, if_neg hid']
        exact hQ ρ1 a1 w1 st1 tr1 dr1
    · rename_i e1 s1 hne h1
      cases hx
      have t1 := hih _ _ h1
      refine ⟨t1.1, ?_⟩
      intro ρ a w l Q hr hf ht hd hro hQ
      refine wpIn_block (t1.2 ρ a w l _ hr hf ht hd hro ?_)
      intro ρ1 a1 w1 st1 tr1 dr1
      cases e with
      | normal => exact hQ ρ1 a1 w1 st1 tr1 dr1
      | exit id => exact (hne _ rfl).elim
      | goto id => exact hQ ρ1 a1 w1 st1 tr1 dr1
      | ret => exact hQ ρ1 a1 w1 st1 tr1 dr1
  | .loop c, cx, s, e, s', hx => by
    obtain ⟨n1, h1⟩ := code_loop hih hl hx
    exact ⟨n1, fun ρ a w l Q hr hf ht hd hro hQ => wpIn_unrolled (h1 ρ a w l Q hr hf ht hd hro hQ)⟩
  | .region id ops true, cx, s, e, s', hx => by
    simp only [body, if_true] at hx
    split at hx
    · rename_i tm h hx1
      cases hx
      obtain ⟨n1, h1⟩ := hd _ _ _ _ _ _ hx1
      refine ⟨n1, ?_⟩
      intro ρ a w l Q hr hf ht hd hro hQ
      refine h1 ρ a w l Q id hr hf ht ?_
      intro ρ1 a1 w1 st1 tr1 df
      have ext := st1.ext hf
      exact hQ ρ1 a1 w1 st1 tr1 (by rw [df]; exact hd.ext ext)
    · cases hx
  | .region id ops false, cx, s, e, s', hx => by
    simp only [body, Bool.false_eq_true, if_false] at hx
    split at hx
    · rename_i tm h hx1
      cases hx
      refine ⟨runOps_next hih hx1, ?_⟩
      intro ρ a w l Q hr hf ht hd hro hQ
      refine wpIn_region ?_
      rw [List.range_eq_range', show ops.size = ops.toList.length from (Array.length_toList).symm]
      refine runOps_sound ok hih ops.toList 0 ρ s.tm tm s.h h w a rfl hx1 hr hf ht ?_
      intro ρ1 a1 w1 st1 tr1 df
      have ext := st1.ext hf
      exact hQ ρ1 a1 w1 st1 tr1 (by rw [df]; exact hd.ext ext)
    · cases hx
  | .rangeFunc f ps asg b, cx, s, e, s', hx => by
    simp only [body] at hx
    exact rangeFn_sound ok hih hx
  | .scope _, cx, s, e, s', hx => by simp only [body] at hx; cases hx
  | .refuse _, cx, s, e, s', hx => by simp only [body] at hx; cases hx

theorem body_sound (ok : EnvOK E) {ih : Task → Option Res} (hih : IH E.P ih) (hl : Loops E.P ih) (hd : DrawnOK E ih) : IH E.P (body E ih) := by
  intro t r hx
  cases t with
  | code c cx s =>
    cases r with
    | code e s' => exact code_sound ok hih hl hd c cx s e s' hx
    | call v h => trivial
  | call f args h =>
    simp only [body] at hx
    split at hx
    · rename_i v h' hs
      cases hx
      exact ok.sum _ _ _ _ _ hs
    · cases hx
    · split at hx
      · rename_i fn hfn
        split at hx
        · rename_i c hc
          split at hx
          · rename_i hn
            have hn' := Nat.le_of_ble_eq_true hn
            have fin : ∀ {e : Ex} {s : St}, (e = .normal ∨ e = .ret) → ih (.code c ⟨f, none, fn.ntmps⟩ ⟨Tr.ofListFrom args 0 .nil, [], h⟩) = some (.code e s) → leaveA E fn s = some r → TaskOK E.P (.call f args h) r := by
              intro e s he h1 hl
              cases r with
              | code _ _ => trivial
              | call v h' => exact call_sound hih hfn hc hn' he h1 hl
            split at hx
            · rename_i s h1
              exact fin (.inl rfl) h1 hx
            · rename_i s h1
              exact fin (.inr rfl) h1 hx
            · cases hx
          · cases hx
        · cases hx
      · cases hx

/-- THE EXECUTOR IS SOUND -/
theorem run_sound (ok : EnvOK E) (hd : ∀ ih, IH E.P ih → DrawnOK E ih) (n : Nat) : IH E.P (run E n) ∧ Loops E.P (run E n) := by
  induction n with
  | zero => exact ⟨fun t r h => (by cases h), fun c cx s e s' h => (by cases h)⟩
  | succ n ih =>
    obtain ⟨h1, h2⟩ := ih
    exact ⟨body_sound ok h1 h2 (hd _ h1), fun c cx s e s' h => (code_loop h1 h2 h).2⟩

end
end Go.Hx

/-! ## What an operation comes to hangs on the slots that it reads, and on no other. -/
set_option linter.unusedSimpArgs false
set_option linter.unusedVariables false
namespace Go.Hx
variable [Inp]
set_option linter.unusedSectionVars false

section
variable {E : Env}

theorem evalL_congr {tm tm' : Tm} : ∀ {l : List Operand}, (∀ x ∈ l, evalA tm x = evalA tm' x) → evalL tm l = evalL tm' l
  | [], _ => rfl
  | x :: l, h => by
    simp only [evalL, h x (by simp), evalL_congr (l := l) (fun y hy => h y (by simp [hy]))]

theorem evalO_congr {tm tm' : Tm} {l : Option Operand} (h : ∀ x ∈ l, evalA tm x = evalA tm' x) : evalO tm l = evalO tm' l := by
  cases l with
  | none => rfl
  | some x => simp only [evalO, h x (by simp)]

theorem evalP_congr {tm tm' : Tm} : ∀ {l : List (Nat × Operand)}, (∀ x ∈ l.map (·.2), evalA tm x = evalA tm' x) → evalP tm l = evalP tm' l
  | [], _ => rfl
  | (i, x) :: l, h => by
    simp only [evalP, h x (by simp), evalP_congr (l := l) (fun y hy => h y (by simp at hy ⊢; exact .inr hy))]

theorem xpure_congr {tm tm' : Tm} {o : Oper} (h : ∀ x ∈ o.op.operands.toList, evalA tm x = evalA tm' x) : xpure E tm o = xpure E tm' o := by
  obtain ⟨dst, op, ty, pos, after, guard⟩ := o
  simp only at h
  cases op
  case call c =>
    obtain ⟨cal, args, ats⟩ := c
    cases cal with
    | builtin b =>
      have hl : evalL tm args.toList = evalL tm' args.toList := evalL_congr (fun x hx => h x (by simp [Op.operands, Call.operands]; simpa using hx))
      cases b <;> simp only [xpure, hl]
    | _ => rfl
  case build t ps =>
    have hp : evalP tm ps.toList = evalP tm' ps.toList := evalP_congr (fun x hx => h x (by simpa [Op.operands] using hx))
    simp only [xpure, hp]
  case makeFunc f a b =>
    have h1 : evalL tm a.toList = evalL tm' a.toList := evalL_congr (fun x hx => h x (by simp [Op.operands]; left; simpa using hx))
    have h2 : evalL tm b.toList = evalL tm' b.toList := evalL_congr (fun x hx => h x (by simp [Op.operands]; right; simpa using hx))
    simp only [xpure, h1, h2]
  case slice t x l hh m =>
    have h0 : evalA tm x = evalA tm' x := h x (by simp [Op.operands])
    have h1 : evalO tm l = evalO tm' l := evalO_congr (fun y hy => h y (by simp [Op.operands]; right; left; simpa using hy))
    have h2 : evalO tm hh = evalO tm' hh := evalO_congr (fun y hy => h y (by simp [Op.operands]; right; right; left; simpa using hy))
    have h3 : evalO tm m = evalO tm' m := evalO_congr (fun y hy => h y (by simp [Op.operands]; right; right; right; simpa using hy))
    simp only [xpure, h0, h1, h2, h3]
  all_goals (simp [Op.operands] at h; try simp [xpure, h]; done)

theorem xread_congr {tm tm' : Tm} {m : AH} {o : Oper} (h : ∀ x ∈ o.op.operands.toList, evalA tm x = evalA tm' x) : xread E tm m o = xread E tm' m o := by
  obtain ⟨dst, op, ty, pos, after, guard⟩ := o
  simp only at h
  cases op
  case call c =>
    obtain ⟨cal, args, ats⟩ := c
    cases cal with
    | builtin b =>
      have hl : evalL tm args.toList = evalL tm' args.toList := evalL_congr (fun x hx => h x (by simp [Op.operands, Call.operands]; simpa using hx))
      cases b <;> simp only [xread, hl]
    | _ => rfl
  case load t a => have h0 := h a (by simp [Op.operands]); simp only [xread, h0]
  case convert s d a => have h0 := h a (by simp [Op.operands]); simp only [xread, h0]
  case lookup t a k ok => have h0 := h a (by simp [Op.operands]); have h1 := h k (by simp [Op.operands]); simp only [xread, h0, h1]
  all_goals rfl

theorem xalloc_congr {tm tm' : Tm} {n : Nat} {o : Oper} (h : ∀ x ∈ o.op.operands.toList, evalA tm x = evalA tm' x) : xalloc E tm n o = xalloc E tm' n o := by
  obtain ⟨dst, op, ty, pos, after, guard⟩ := o
  simp only at h
  cases op
  case box t a => have h0 := h a (by simp [Op.operands]); simp only [xalloc, h0]
  case convert s d a => have h0 := h a (by simp [Op.operands]); simp only [xalloc, h0]
  case makeSlice t a k => have h0 := h a (by simp [Op.operands]); have h1 := h k (by simp [Op.operands]); simp only [xalloc, h0, h1]
  case buildSlice t l ps =>
    have hp : evalP tm ps.toList = evalP tm' ps.toList := evalP_congr (fun x hx => h x (by simpa [Op.operands] using hx))
    simp only [xalloc, hp]
  case makeMap t r => cases r <;> rfl
  all_goals rfl

theorem xact_congr {tm tm' : Tm} {m : AH} {o : Oper} (h : ∀ x ∈ o.op.operands.toList, evalA tm x = evalA tm' x) : xact E tm m o = xact E tm' m o := by
  obtain ⟨dst, op, ty, pos, after, guard⟩ := o
  simp only at h
  cases op
  case call c =>
    obtain ⟨cal, args, ats⟩ := c
    have hl : evalL tm args.toList = evalL tm' args.toList := evalL_congr (fun x hx => h x (by simp [Op.operands, Call.operands]; right; simpa using hx))
    cases cal with
    | builtin b => cases b <;> simp only [xact, hl]
    | value f =>
      have h0 := h f (by simp [Op.operands, Call.operands])
      simp only [xact, hl, h0]
    | invoke _ _ => rfl
  case convert s d a => have h0 := h a (by simp [Op.operands]); simp only [xact, h0]
  case range t a => have h0 := h a (by simp [Op.operands]); simp only [xact, h0]
  case next a b => have h0 := h a (by simp [Op.operands]); cases b <;> simp only [xact, h0]
  case store t a v => have h0 := h a (by simp [Op.operands]); have h1 := h v (by simp [Op.operands]); simp only [xact, h0, h1]
  case mapUpdate t a k v => have h0 := h a (by simp [Op.operands]); have h1 := h v (by simp [Op.operands]); have h2 := h k (by simp [Op.operands]); simp only [xact, h0, h1, h2]
  all_goals rfl

theorem xop_congr {tm tm' : Tm} {m : AH} {o : Oper} (h : ∀ x ∈ o.op.operands.toList, evalA tm x = evalA tm' x) : xop E tm m o = xop E tm' m o := by
  unfold xop
  rw [xpure_congr h, xread_congr h, xalloc_congr h, xact_congr h]

theorem readsOf_eval {ops : Array Oper} {o : Oper} {tm tm' : Tm} (h : ∀ t ∈ readsOf ops o, Tm.at tm t = Tm.at tm' t) : ∀ x ∈ o.op.operands.toList, evalA tm x = evalA tm' x := by
  intro x hx
  cases x with
  | tmp t =>
    show some (Tm.at tm t) = some (Tm.at tm' t)
    rw [h t ?_]
    unfold readsOf
    refine List.mem_append_left _ (List.mem_filterMap.2 ⟨.tmp t, hx, rfl⟩)
  | _ => rfl

theorem wantedA_congr {ops : Array Oper} {o : Oper} {tm tm' : Tm} (h : ∀ t ∈ readsOf ops o, Tm.at tm t = Tm.at tm' t) : wantedA ops tm o = wantedA ops tm' o := by
  unfold wantedA
  cases hg : o.guard with
  | none => rfl
  | some g =>
    obtain ⟨j, want⟩ := g
    simp only []
    cases hj : ops[j]? with
    | none => rfl
    | some p =>
      simp only []
      cases hd : p.dst with
      | none => rfl
      | some d =>
        have hm : d ∈ readsOf ops o := by
          unfold readsOf
          refine List.mem_append_right _ ?_
          simp [hg, hj, hd]
        simp only [h d hm]

theorem stepA_congr {ih : Task → Option Res} {ops : Array Oper} {o : Oper} {tm tm' : Tm} {m : AH} (h : ∀ t ∈ readsOf ops o, Tm.at tm t = Tm.at tm' t) : stepA E ih ops tm m o = stepA E ih ops tm' m o := by
  unfold stepA doneA
  rw [wantedA_congr h, xop_congr (readsOf_eval h)]

/-! ### values held against each other -/
mutual
theorem AV.beq_eq : ∀ {a b : AV}, AV.beq a b = true → a = b
  | .bool a, b, h => by cases b <;> simp_all [AV.beq]
  | .int j a, b, h => by cases b <;> simp_all [AV.beq]; exact kindEq_eq h.1
  | .rng k a c, b, h => by cases b <;> simp_all [AV.beq]; exact kindEq_eq h.1.1
  | .any, b, h => by cases b <;> simp_all [AV.beq]
  | .str a, b, h => by cases b <;> simp_all [AV.beq]
  | .inp a, b, h => by cases b <;> simp_all [AV.beq]
  | .ptr a c, b, h => by cases b <;> simp_all [AV.beq]
  | .nilptr, b, h => by cases b <;> simp_all [AV.beq]
  | .slice a c d e f, b, h => by cases b <;> simp_all [AV.beq]
  | .eslice, b, h => by cases b <;> simp_all [AV.beq]
  | .nilslice, b, h => by cases b <;> simp_all [AV.beq]
  | .map a, b, h => by cases b <;> simp_all [AV.beq]
  | .nilmap, b, h => by cases b <;> simp_all [AV.beq]
  | .fn f a c, b, h => by
    cases b <;> simp only [AV.beq, Bool.false_eq_true, Bool.and_eq_true] at h
    rw [beq_yes h.1.1, AV.beqs_eq h.1.2, AV.beqs_eq h.2]
  | .yield a, b, h => by cases b <;> simp_all [AV.beq]
  | .nilfunc, b, h => by cases b <;> simp_all [AV.beq]
  | .iface t v, b, h => by
    cases b <;> simp only [AV.beq, Bool.false_eq_true, Bool.and_eq_true] at h
    rw [beq_yes h.1, AV.beq_eq h.2]
  | .niliface, b, h => by cases b <;> simp_all [AV.beq]
  | .agg a, b, h => by
    cases b <;> simp only [AV.beq, Bool.false_eq_true] at h
    rw [AV.beqs_eq h]
  | .tup a, b, h => by
    cases b <;> simp only [AV.beq, Bool.false_eq_true] at h
    rw [AV.beqs_eq h]
theorem AV.beqs_eq : ∀ {a b : List AV}, AV.beqs a b = true → a = b
  | [], b, h => by cases b <;> simp_all [AV.beqs]
  | x :: l, b, h => by
    cases b with
    | nil => simp [AV.beqs] at h
    | cons y m =>
      simp only [AV.beqs, Bool.and_eq_true] at h
      rw [AV.beq_eq h.1, AV.beqs_eq h.2]
end

end
end Go.Hx

/-! ## A region that draws its order: its masks, its pairs, its text's order as steps. -/
set_option linter.unusedSimpArgs false
set_option linter.unusedVariables false
namespace Go.Hx
variable [Inp]
set_option linter.unusedSectionVars false

section
variable {E : Env}

theorem bindsE_eq (e : Edge) : bindsE e = Region.binds .any e := by
  unfold bindsE Region.binds
  cases e.ground <;> rfl

theorem memN_iff (t : Nat) : ∀ l : List Nat, memN t l = true ↔ t ∈ l
  | [] => by simp [memN]
  | x :: l => by
    simp only [memN, Bool.or_eq_true, memN_iff t l, List.mem_cons]
    constructor
    · rintro (h | h)
      · exact .inl (beq_yes h).symm
      · exact .inr h
    · rintro (h | h)
      · exact .inl (by rw [h]; exact Nat.beq_refl _)
      · exact .inr h

/-! ### masks -/
theorem nthM_eq : ∀ (l : List Nat) (k : Nat), nthM l k = (l[k]?).getD 0
  | [], k => by cases k <;> rfl
  | x :: l, 0 => rfl
  | x :: l, k + 1 => by simpa [nthM] using nthM_eq l k

theorem orEdges_bit {acc : List Nat} {j : Nat} : ∀ {es : List Edge}, Nat.testBit (orEdges acc es) j = true → ∃ e ∈ es, bindsE e = true ∧ (e.on = j ∨ Nat.testBit (nthM acc e.on) j = true)
  | [], h => by simp [orEdges] at h
  | e :: es, h => by
    simp only [orEdges] at h
    cases hb : bindsE e with
    | false =>
      rw [hb] at h
      obtain ⟨e', h1, h2⟩ := orEdges_bit (es := es) h
      exact ⟨e', by simp [h1], h2⟩
    | true =>
      rw [hb] at h
      have h' : Nat.testBit ((2 ^ e.on ||| nthM acc e.on) ||| orEdges acc es) j = true := h
      rw [Nat.testBit_or, Nat.testBit_or, Nat.testBit_two_pow] at h'
      simp only [Bool.or_eq_true, decide_eq_true_eq] at h'
      rcases h' with (h1 | h1) | h1
      · exact ⟨e, by simp, hb, .inl h1⟩
      · exact ⟨e, by simp, hb, .inr h1⟩
      · obtain ⟨e', h2, h3⟩ := orEdges_bit (es := es) h1
        exact ⟨e', by simp [h2], h3⟩

theorem preFrom_append : ∀ (l : List Oper) (acc : List Nat), ∃ r, preFrom l acc = acc ++ r ∧ r.length = l.length
  | [], acc => ⟨[], by simp [preFrom]⟩
  | o :: l, acc => by
    obtain ⟨r, h1, h2⟩ := preFrom_append l (acc ++ [orEdges acc o.after.toList])
    exact ⟨orEdges acc o.after.toList :: r, by simp [preFrom, h1], by simp [h2]⟩

theorem preFrom_get : ∀ (l : List Oper) (acc : List Nat) (k : Nat) (o : Oper), l[k]? = some o →
    (preFrom l acc)[acc.length + k]? = some (orEdges ((preFrom l acc).take (acc.length + k)) o.after.toList)
  | [], acc, k, o, h => by simp at h
  | o' :: l, acc, 0, o, h => by
    simp at h; subst h
    obtain ⟨r, h1, h2⟩ := preFrom_append l (acc ++ [orEdges acc o'.after.toList])
    show (preFrom l (acc ++ [orEdges acc o'.after.toList]))[acc.length + 0]? = some (orEdges ((preFrom l (acc ++ [orEdges acc o'.after.toList])).take (acc.length + 0)) o'.after.toList)
    rw [h1]
    simp
  | o' :: l, acc, k + 1, o, h => by
    have ih := preFrom_get l (acc ++ [orEdges acc o'.after.toList]) k o (by simpa using h)
    have e : (acc ++ [orEdges acc o'.after.toList]).length + k = acc.length + (k + 1) := by simp; omega
    rw [e] at ih
    exact ih

theorem points_get (all : List Oper) (ms : List Nat) : ∀ (l : List Oper) (ns : List Nat) (i k : Nat) (p : Pt), (points E all ms l ns i)[k]? = some p →
    p.i = i + k ∧ l[k]? = some p.o ∧ ns[k]? = some p.pre ∧ (p.float = true → isAlloc E p.o = true)
  | [], ns, i, k, p, h => by simp [points] at h
  | o :: l, [], i, k, p, h => by simp [points] at h
  | o :: l, m :: ns, i, 0, p, h => by
    simp [points] at h; subst h
    refine ⟨rfl, rfl, rfl, ?_⟩
    intro hf
    simp only [Bool.and_eq_true] at hf
    exact hf.1
  | o :: l, m :: ns, i, k + 1, p, h => by
    obtain ⟨h1, h2, h3, h4⟩ := points_get all ms l ns (i + 1) k p (by simpa [points] using h)
    exact ⟨by omega, by simpa using h2, by simpa using h3, h4⟩

theorem points_length (all : List Oper) (ms : List Nat) : ∀ (l : List Oper) (ns : List Nat) (i : Nat), ns.length = l.length → (points E all ms l ns i).length = l.length
  | [], ns, i, h => by simp [points]
  | o :: l, [], i, h => by simp at h
  | o :: l, m :: ns, i, h => by simp [points]; exact points_length all ms l ns (i + 1) (by simpa using h)

theorem pre_length (ops : List Oper) : (pre ops).length = ops.length := by
  obtain ⟨r, h1, h2⟩ := preFrom_append ops []
  unfold pre; rw [h1]; simpa using h2

theorem pts_length (ops : Array Oper) : (pts E ops).length = ops.size := by
  unfold pts
  rw [points_length _ _ _ _ _ (pre_length _)]
  simp

theorem pts_get {ops : Array Oper} {k : Nat} {p : Pt} (h : (pts E ops)[k]? = some p) : p.i = k ∧ ops[k]? = some p.o ∧ (pre ops.toList)[k]? = some p.pre ∧ (p.float = true → isAlloc E p.o = true) := by
  obtain ⟨h1, h2, h3, h4⟩ := points_get _ _ _ _ _ _ _ h
  exact ⟨by omega, by simpa using h2, h3, h4⟩

theorem pre_bit {ops : Array Oper} {i j : Nat} {p : Pt} (h : (pts E ops)[i]? = some p) (hb : Nat.testBit p.pre j = true) :
    ∃ e ∈ p.o.after.toList, bindsE e = true ∧ (e.on = j ∨ ∃ q, (pts E ops)[e.on]? = some q ∧ Nat.testBit q.pre j = true) := by
  obtain ⟨h1, h2, h3, h4⟩ := pts_get h
  have hg := preFrom_get ops.toList [] i p.o (by simpa using h2)
  simp only [List.length_nil, Nat.zero_add] at hg
  have hpre : preFrom ops.toList [] = pre ops.toList := rfl
  rw [hpre, h3] at hg
  have he : p.pre = orEdges ((pre ops.toList).take i) p.o.after.toList := by simpa using hg
  rw [he] at hb
  obtain ⟨e, e1, e2, e3⟩ := orEdges_bit hb
  refine ⟨e, e1, e2, ?_⟩
  rcases e3 with e3 | e3
  · exact .inl e3
  · right
    rw [nthM_eq] at e3
    cases hx : ((pre ops.toList).take i)[e.on]? with
    | none => rw [hx] at e3; simp at e3
    | some v =>
      rw [hx] at e3
      have hlt : e.on < i := by
        rcases Nat.lt_or_ge e.on i with hlt | hge
        · exact hlt
        · rw [List.getElem?_eq_none (by simp; omega)] at hx; cases hx
      rw [List.getElem?_take_of_lt hlt] at hx
      have hlt2 : e.on < (pts E ops).length := by
        rw [pts_length]
        have := (List.getElem?_eq_some_iff.1 hx).1
        rw [pre_length] at this
        simpa using this
      refine ⟨(pts E ops)[e.on], by simp [hlt2], ?_⟩
      obtain ⟨q1, q2, q3, q4⟩ := pts_get (E := E) (ops := ops) (k := e.on) (p := (pts E ops)[e.on]) (by simp [hlt2])
      rw [hx] at q3
      have : v = ((pts E ops)[e.on]).pre := by simpa using q3
      rw [← this]; exact e3

/-! ### pairs -/
theorem edgesBelow_mem {i : Nat} : ∀ {es : List Edge}, edgesBelow i es = true → ∀ e ∈ es, bindsE e = true → e.on < i
  | [], h, e, he, _ => by simp at he
  | x :: es, h, e, he, hb => by
    simp only [edgesBelow, Bool.and_eq_true, Bool.or_eq_true, Bool.not_eq_true'] at h
    rcases List.mem_cons.1 he with rfl | he
    · rcases h.1 with h1 | h1
      · rw [hb] at h1; cases h1
      · exact Nat.le_of_ble_eq_true h1
    · exact edgesBelow_mem h.2 e he hb

theorem pairsWith_mem {ops : Array Oper} {q : Pt} : ∀ {l : List Pt}, pairsWith E ops q l = true → ∀ p ∈ l, pairOK E ops p q = true
  | [], h, p, hp => by simp at hp
  | x :: l, h, p, hp => by
    simp only [pairsWith, Bool.and_eq_true] at h
    rcases List.mem_cons.1 hp with rfl | hp
    · exact h.1
    · exact pairsWith_mem h.2 p hp

theorem allPairs_get {ops : Array Oper} : ∀ {l seen : List Pt}, allPairs E ops seen l = true → ∀ (k : Nat) (q : Pt), l[k]? = some q →
    edgesBelow q.i q.o.after.toList = true ∧ (∀ p ∈ seen, pairOK E ops p q = true) ∧ ∀ (j : Nat) (p : Pt), j < k → l[j]? = some p → pairOK E ops p q = true
  | [], seen, h, k, q, hq => by simp at hq
  | x :: l, seen, h, k, q, hq => by
    simp only [allPairs, Bool.and_eq_true] at h
    cases k with
    | zero =>
      simp at hq; subst hq
      exact ⟨h.1.2, pairsWith_mem h.1.1, fun j p hj => absurd hj (Nat.not_lt_zero _)⟩
    | succ k =>
      obtain ⟨h1, h2, h3⟩ := allPairs_get h.2 k q (by simpa using hq)
      refine ⟨h1, fun p hp => h2 p (by simp [hp]), ?_⟩
      intro j p hj hp
      cases j with
      | zero => simp at hp; subst hp; exact h2 x (by simp)
      | succ j => exact h3 j p (by omega) (by simpa using hp)

structure RegOK (E : Env) (ops : Array Oper) : Prop where
  below : ∀ (i : Nat) (p : Pt), (pts E ops)[i]? = some p → ∀ e ∈ p.o.after.toList, bindsE e = true → e.on < i
  pair : ∀ (i j : Nat) (p q : Pt), i < j → (pts E ops)[i]? = some p → (pts E ops)[j]? = some q → pairOK E ops p q = true

theorem regOK_spec {ops : Array Oper} (h : regOK E ops = true) : RegOK E ops where
  below i p hp e he hb := by
    have h1 := (allPairs_get h i p hp).1
    rw [(pts_get hp).1] at h1
    exact edgesBelow_mem h1 e he hb
  pair i j p q hij hp hq := (allPairs_get h j q hq).2.2 i p hij hp

def Closed (E : Env) (ops : Array Oper) (S : Nat → Prop) : Prop := ∀ (i : Nat) (p : Pt), (pts E ops)[i]? = some p → S i → ∀ e ∈ p.o.after.toList, bindsE e = true → S e.on

theorem pre_in {ops : Array Oper} (rk : RegOK E ops) {S : Nat → Prop} (hc : Closed E ops S) {j : Nat} : ∀ (i : Nat) (p : Pt), (pts E ops)[i]? = some p → (∀ e ∈ p.o.after.toList, bindsE e = true → S e.on) →
    Nat.testBit p.pre j = true → S j ∧ j < i := by
  intro i
  induction i using Nat.strongRecOn with
  | _ i ih =>
    intro p hp he hb
    obtain ⟨e, h1, h2, h3⟩ := pre_bit hp hb
    have hlt := rk.below i p hp e h1 h2
    have hs := he e h1 h2
    rcases h3 with h3 | ⟨q, h3, h4⟩
    · rw [h3] at hs hlt; exact ⟨hs, hlt⟩
    · obtain ⟨g1, g2⟩ := ih e.on hlt q h3 (hc e.on q h3 hs) h4
      exact ⟨g1, Nat.lt_trans g2 hlt⟩

theorem pair_cases {ops : Array Oper} {p q : Pt} (h : pairOK E ops p q = true) :
    (Nat.testBit q.pre p.i = true ∧ ¬ (p.float = true ∧ isRead E q.o = true)) ∨
    (Nat.testBit q.pre p.i = false ∧ ¬ (isMain E p = true ∧ isMain E q = true) ∧ slotsOK ops p.o q.o = true) := by
  unfold pairOK at h
  cases hb : Nat.testBit q.pre p.i with
  | true =>
    rw [hb] at h
    left
    refine ⟨rfl, ?_⟩
    rintro ⟨h1, h2⟩
    simp [h1, h2] at h
  | false =>
    rw [hb] at h
    right
    simp only [cond_false, Bool.and_eq_true] at h
    refine ⟨rfl, ?_, h.2⟩
    rintro ⟨h1, h2⟩
    unfold isMain at h1 h2
    simp only [Bool.and_eq_true] at h1 h2
    simp [h1, h2] at h

theorem slots_cases {ops : Array Oper} {oi oj : Oper} (h : slotsOK ops oi oj = true) :
    (∀ t, oi.dst = some t → t ∉ readsOf ops oj) ∧ (∀ t, oi.dst = some t → oj.dst ≠ some t) ∧ (∀ t, oj.dst = some t → t ∉ readsOf ops oi) := by
  unfold slotsOK at h
  simp only [Bool.and_eq_true] at h
  obtain ⟨h1, h2⟩ := h
  refine ⟨?_, ?_, ?_⟩
  · intro t ht
    rw [ht] at h1
    simp only [Bool.and_eq_true, Bool.not_eq_true'] at h1
    intro hm
    rw [← memN_iff] at hm
    rw [hm] at h1; cases h1.1
  · intro t ht hj
    rw [ht, hj] at h1
    simp only [Bool.and_eq_true, Bool.not_eq_true'] at h1
    have := h1.2
    rw [show Nat.beq t t = true from Nat.beq_refl t] at this
    cases this
  · intro t ht hm
    rw [ht] at h2
    simp only [Bool.not_eq_true'] at h2
    rw [← memN_iff] at hm
    rw [hm] at h2; cases h2

/-! ### the text's order as steps -/
theorem csteps_spec {ih : Task → Option Res} {ops : Array Oper} {n : Nat} : ∀ {l : List Pt} {c r : CS} {es : List Ent}, csteps E ih ops n l c = some (es, r) →
    ∃ (C : Nat → CS) (V : Nat → AV), C 0 = c ∧ C l.length = r ∧ es.length = l.length ∧ ∀ (i : Nat) (p : Pt), l[i]? = some p → cstep E ih ops n p (C i) = some (V i, C (i + 1)) ∧ es[i]? = some ⟨p, C i, V i⟩
  | [], c, r, es, h => by
    simp [csteps] at h
    obtain ⟨rfl, rfl⟩ := h
    exact ⟨fun _ => c, fun _ => .any, rfl, rfl, rfl, fun i p hp => by simp at hp⟩
  | p :: l, c, r, es, h => by
    simp only [csteps] at h
    split at h
    · rename_i v c' h1
      split at h
      · rename_i es' r' h2
        cases h
        obtain ⟨C, V, g1, g2, g3, g4⟩ := csteps_spec h2
        refine ⟨fun | 0 => c | i + 1 => C i, fun | 0 => v | i + 1 => V i, rfl, g2, by simp [g3], ?_⟩
        intro i q hq
        cases i with
        | zero =>
          simp at hq; subst hq
          refine ⟨?_, rfl⟩
          show cstep E ih ops n p c = some (v, C 0)
          rw [g1]; exact h1
        | succ i =>
          obtain ⟨k1, k2⟩ := g4 i q (by simpa using hq)
          exact ⟨k1, by simpa using k2⟩
      · cases h
    · cases h

theorem cput_spec {c : CS} {n : Nat} {d : Option Tmp} {v : AV} {nm : Nat} {pend : List Pend} {h : AH} {v' : AV} {c' : CS} (hx : cput c n d v nm pend h = some (v', c')) :
    v' = v ∧ c'.nm = nm ∧ c'.pend = pend ∧ c'.h = h ∧ putA c.tm n d v = some c'.tm := by
  unfold cput at hx
  split at hx
  · rename_i tm hp
    cases hx
    exact ⟨rfl, rfl, rfl, rfl, hp⟩
  · cases hx

theorem cstep_float {ih : Task → Option Res} {ops : Array Oper} {n : Nat} {p : Pt} {c c' : CS} {v : AV} (hf : p.float = true) (hx : cstep E ih ops n p c = some (v, c')) :
    wantedA ops c.tm p.o = true ∧ ∃ b, xalloc E c.tm c.nm p.o = some (v, b) ∧ c'.nm = c.nm + 1 ∧ c'.pend = c.pend ++ [⟨p.i, c.nm, b⟩] ∧ c'.h = c.h ∧ putA c.tm n p.o.dst v = some c'.tm := by
  unfold cstep at hx
  rw [if_pos hf] at hx
  split at hx
  · rename_i hw
    split at hx
    · rename_i v1 b hb
      obtain ⟨rfl, h1, h2, h3, h4⟩ := cput_spec hx
      exact ⟨hw, b, hb, h1, h2, h3, h4⟩
    · cases hx
  · cases hx

theorem cstep_main {ih : Task → Option Res} {ops : Array Oper} {n : Nat} {p : Pt} {c c' : CS} {v : AV} (hm : isMain E p = true) (hx : cstep E ih ops n p c = some (v, c')) :
    ∃ h1, layAll c.h (due p.pre c.pend) = some h1 ∧ stepA E ih ops c.tm h1 p.o = some (v, c'.h) ∧ c'.nm = c.nm ∧ c'.pend = rest p.pre c.pend ∧ putA c.tm n p.o.dst v = some c'.tm := by
  have hf : p.float = false := by
    unfold isMain at hm
    simp only [Bool.and_eq_true, Bool.not_eq_true'] at hm
    exact hm.2
  unfold cstep at hx
  rw [if_neg (by simp [hf]), if_pos hm] at hx
  split at hx
  · rename_i h1 hl
    split at hx
    · rename_i v1 h2 hs
      obtain ⟨rfl, g1, g2, g3, g4⟩ := cput_spec hx
      exact ⟨h1, hl, by rw [g3]; exact hs, g1, g2, g4⟩
    · cases hx
  · cases hx

theorem cstep_other {ih : Task → Option Res} {ops : Array Oper} {n : Nat} {p : Pt} {c c' : CS} {v : AV} (hf : p.float = false) (hm : isMain E p = false) (hx : cstep E ih ops n p c = some (v, c')) :
    ∃ h1, stepA E ih ops c.tm c.h p.o = some (v, h1) ∧ c'.nm = c.nm ∧ c'.pend = c.pend ∧ c'.h = c.h ∧ putA c.tm n p.o.dst v = some c'.tm := by
  unfold cstep at hx
  rw [if_neg (by simp [hf]), if_neg (by simp [hm])] at hx
  split at hx
  · rename_i v1 h1 hs
    obtain ⟨rfl, g1, g2, g3, g4⟩ := cput_spec hx
    exact ⟨h1, hs, g1, g2, g3, g4⟩
  · cases hx

theorem cstep_put {ih : Task → Option Res} {ops : Array Oper} {n : Nat} {p : Pt} {c c' : CS} {v : AV} (hx : cstep E ih ops n p c = some (v, c')) : putA c.tm n p.o.dst v = some c'.tm := by
  cases hf : p.float with
  | true => obtain ⟨_, _, _, _, _, _, h⟩ := cstep_float hf hx; exact h
  | false =>
    cases hm : isMain E p with
    | true => obtain ⟨_, _, _, _, _, h⟩ := cstep_main hm hx; exact h
    | false => obtain ⟨_, _, _, _, _, h⟩ := cstep_other hf hm hx; exact h

theorem layAll_next : ∀ {l : List Pend} {h h' : AH}, layAll h l = some h' → h'.next = h.next
  | [], h, h', hx => by cases hx; rfl
  | x :: l, h, h', hx => by
    simp only [layAll] at hx
    split at hx
    · rw [layAll_next hx]; rfl
    · cases hx

theorem putA_at {tm tm' : Tm} {n : Nat} {d : Option Tmp} {v : AV} (h : putA tm n d v = some tm') (t : Nat) : Tm.at tm' t = if d = some t then v else Tm.at tm t := by
  cases d with
  | none => simp [putA] at h; subst h; simp
  | some d =>
    simp only [putA] at h
    split at h
    · cases h
      rw [Tm.at_set]
      by_cases e : t = d
      · subst e; simp
      · have : ¬ d = t := fun h => e h.symm
        simp [e, this]
    · cases h

theorem putA_of {tm tm' tm2 : Tm} {n : Nat} {d : Option Tmp} {v : AV} (h : putA tm n d v = some tm') : ∃ tm3, putA tm2 n d v = some tm3 := by
  cases d with
  | none => exact ⟨tm2, rfl⟩
  | some d =>
    simp only [putA] at h ⊢
    split at h
    · rename_i hd; exact ⟨_, by rw [if_pos hd]⟩
    · cases h

end
end Go.Hx

/-! ## A region that draws its order: whatever the order, it comes to what the text's order comes to. -/
set_option linter.unusedSimpArgs false
set_option linter.unusedVariables false
namespace Go.Hx
variable [Inp]
set_option linter.unusedSectionVars false

section
variable {E : Env}

/-- the text's order of a region: its steps -/
structure Text (E : Env) (ih : Task → Option Res) (ops : Array Oper) (n : Nat) (C : Nat → CS) (V : Nat → AV) : Prop where
  step : ∀ (i : Nat) (p : Pt), (pts E ops)[i]? = some p → cstep E ih ops n p (C i) = some (V i, C (i + 1))

section text
variable {ih : Task → Option Res} {ops : Array Oper} {n : Nat} {C : Nat → CS} {V : Nat → AV}

theorem Text.pt (i : Nat) (h : i < (pts E ops).length) : ∃ p, (pts E ops)[i]? = some p := ⟨(pts E ops)[i], by simp [h]⟩

theorem Text.tm_same (T : Text E ih ops n C V) {t i : Nat} : ∀ {k : Nat}, i ≤ k → k ≤ (pts E ops).length →
    (∀ (j : Nat) (p : Pt), i ≤ j → j < k → (pts E ops)[j]? = some p → p.o.dst ≠ some t) → Tm.at (C k).tm t = Tm.at (C i).tm t := by
  intro k hik
  induction hik with
  | refl => intros; rfl
  | step hik ih' =>
    rename_i k
    intro hk hno
    obtain ⟨p, hp⟩ := Text.pt (E := E) (ops := ops) k (by omega)
    have h1 := putA_at (cstep_put (T.step k p hp)) t
    rw [h1, if_neg (hno k p hik (Nat.lt_succ_self _) hp)]
    exact ih' (by omega) (fun j q h2 h3 h4 => hno j q h2 (by omega) h4)

theorem Text.h_same (T : Text E ih ops n C V) {i : Nat} : ∀ {k : Nat}, i ≤ k → k ≤ (pts E ops).length →
    (∀ (j : Nat) (p : Pt), i ≤ j → j < k → (pts E ops)[j]? = some p → isMain E p = false) → (C k).h = (C i).h := by
  intro k hik
  induction hik with
  | refl => intros; rfl
  | step hik ih' =>
    rename_i k
    intro hk hno
    obtain ⟨p, hp⟩ := Text.pt (E := E) (ops := ops) k (by omega)
    have h1 := T.step k p hp
    have hm := hno k p hik (Nat.lt_succ_self _) hp
    rw [← ih' (by omega) (fun j q h2 h3 h4 => hno j q h2 (by omega) h4)]
    cases hf : p.float with
    | true => obtain ⟨_, _, _, _, _, h, _⟩ := cstep_float hf h1; exact h
    | false => obtain ⟨_, _, _, _, h, _⟩ := cstep_other hf hm h1; exact h

theorem Text.next_le (hih : IH E.P ih) (T : Text E ih ops n C V) {i : Nat} : ∀ {k : Nat}, i ≤ k → k ≤ (pts E ops).length → (C i).h.next ≤ (C k).h.next := by
  intro k hik
  induction hik with
  | refl => intros; exact Nat.le_refl _
  | step hik ih' =>
    rename_i k
    intro hk
    obtain ⟨p, hp⟩ := Text.pt (E := E) (ops := ops) k (by omega)
    have h1 := T.step k p hp
    refine Nat.le_trans (ih' (by omega)) ?_
    cases hf : p.float with
    | true => obtain ⟨_, _, _, _, _, h, _⟩ := cstep_float hf h1; rw [h]; exact Nat.le_refl _
    | false =>
      cases hm : isMain E p with
      | true =>
        obtain ⟨h2, g1, g2, _⟩ := cstep_main hm h1
        have := stepA_next hih g2
        rw [layAll_next g1] at this
        exact this
      | false => obtain ⟨_, _, _, _, h, _⟩ := cstep_other hf hm h1; rw [h]; exact Nat.le_refl _

theorem Text.nm_le (T : Text E ih ops n C V) {i : Nat} : ∀ {k : Nat}, i ≤ k → k ≤ (pts E ops).length → (C i).nm ≤ (C k).nm := by
  intro k hik
  induction hik with
  | refl => intros; exact Nat.le_refl _
  | step hik ih' =>
    rename_i k
    intro hk
    obtain ⟨p, hp⟩ := Text.pt (E := E) (ops := ops) k (by omega)
    have h1 := T.step k p hp
    refine Nat.le_trans (ih' (by omega)) ?_
    cases hf : p.float with
    | true => obtain ⟨_, _, _, h, _⟩ := cstep_float hf h1; rw [h]; exact Nat.le_succ _
    | false =>
      cases hm : isMain E p with
      | true => obtain ⟨_, _, _, h, _⟩ := cstep_main hm h1; rw [h]; exact Nat.le_refl _
      | false => obtain ⟨_, _, h, _⟩ := cstep_other hf hm h1; rw [h]; exact Nat.le_refl _

theorem Text.nm_float (T : Text E ih ops n C V) {f : Nat} {p : Pt} (hp : (pts E ops)[f]? = some p) (hf : p.float = true) : (C (f + 1)).nm = (C f).nm + 1 := by
  obtain ⟨_, _, _, h, _⟩ := cstep_float hf (T.step f p hp)
  exact h

theorem lt_length {l : List Pt} {i : Nat} {p : Pt} (h : l[i]? = some p) : i < l.length := (List.getElem?_eq_some_iff.1 h).1

theorem Text.nm_lt (T : Text E ih ops n C V) {f g : Nat} {p : Pt} (hp : (pts E ops)[f]? = some p) (hf : p.float = true) (hfg : f < g) (hg : g ≤ (pts E ops).length) : (C f).nm < (C g).nm := by
  have h1 := T.nm_float hp hf
  have h2 := T.nm_le (i := f + 1) (k := g) hfg hg
  omega

theorem Text.nm_inj (T : Text E ih ops n C V) {f g : Nat} {p q : Pt} (hp : (pts E ops)[f]? = some p) (hf : p.float = true) (hq : (pts E ops)[g]? = some q) (hg : q.float = true) (e : (C f).nm = (C g).nm) : f = g := by
  rcases Nat.lt_trichotomy f g with h | h | h
  · have := T.nm_lt hp hf h (Nat.le_of_lt (lt_length hq)); omega
  · exact h
  · have := T.nm_lt hq hg h (Nat.le_of_lt (lt_length hp)); omega

theorem pre_lt (rk : RegOK E ops) {j f : Nat} {p : Pt} (hp : (pts E ops)[j]? = some p) (hb : Nat.testBit p.pre f = true) : f < j :=
  (pre_in (S := fun _ => True) rk (fun _ _ _ _ _ _ _ => trivial) j p hp (fun _ _ _ => trivial) hb).2

/-- is the block of float f laid ahead of place m? -/
def Laid (E : Env) (ops : Array Oper) (m f : Nat) : Prop := ∃ (j : Nat) (p : Pt), j < m ∧ (pts E ops)[j]? = some p ∧ isMain E p = true ∧ Nat.testBit p.pre f = true

theorem due_mem {m : Nat} {x : Pend} : ∀ {l : List Pend}, x ∈ due m l ↔ x ∈ l ∧ Nat.testBit m x.i = true
  | [] => by simp [due]
  | y :: l => by
    simp only [due]
    cases hb : Nat.testBit m y.i with
    | true =>
      simp only [cond_true, List.mem_cons, due_mem (l := l)]
      constructor
      · rintro (rfl | h)
        · exact ⟨.inl rfl, hb⟩
        · exact ⟨.inr h.1, h.2⟩
      · rintro ⟨rfl | h, h2⟩
        · exact .inl rfl
        · exact .inr ⟨h, h2⟩
    | false =>
      simp only [cond_false, List.mem_cons, due_mem (l := l)]
      constructor
      · rintro h; exact ⟨.inr h.1, h.2⟩
      · rintro ⟨rfl | h, h2⟩
        · rw [hb] at h2; cases h2
        · exact ⟨h, h2⟩

theorem rest_mem {m : Nat} {x : Pend} : ∀ {l : List Pend}, x ∈ rest m l ↔ x ∈ l ∧ Nat.testBit m x.i = false
  | [] => by simp [rest]
  | y :: l => by
    simp only [rest]
    cases hb : Nat.testBit m y.i with
    | false =>
      simp only [cond_false, List.mem_cons, rest_mem (l := l)]
      constructor
      · rintro (rfl | h)
        · exact ⟨.inl rfl, hb⟩
        · exact ⟨.inr h.1, h.2⟩
      · rintro ⟨rfl | h, h2⟩
        · exact .inl rfl
        · exact .inr ⟨h, h2⟩
    | true =>
      simp only [cond_true, List.mem_cons, rest_mem (l := l)]
      constructor
      · rintro h; exact ⟨.inr h.1, h.2⟩
      · rintro ⟨rfl | h, h2⟩
        · rw [hb] at h2; cases h2
        · exact ⟨h, h2⟩

theorem Laid.mono {m k f : Nat} (h : Laid E ops m f) (hk : m ≤ k) : Laid E ops k f := by
  obtain ⟨j, p, h1, h2⟩ := h
  exact ⟨j, p, by omega, h2⟩

/-- what is pending at a place: the floats ahead of it that are not laid -/
theorem Text.pend_mem (rk : RegOK E ops) (T : Text E ih ops n C V) (h0 : (C 0).pend = []) : ∀ (m : Nat), m ≤ (pts E ops).length → ∀ x ∈ (C m).pend,
    ∃ p, (pts E ops)[x.i]? = some p ∧ p.float = true ∧ x.i < m ∧ ¬ Laid E ops m x.i ∧ x.n = (C x.i).nm ∧ xalloc E (C x.i).tm (C x.i).nm p.o = some (V x.i, x.b) := by
  intro m
  induction m with
  | zero => intro _ x hx; rw [h0] at hx; cases hx
  | succ m ih' =>
    intro hm x hx
    obtain ⟨p, hp⟩ := Text.pt (E := E) (ops := ops) m (by omega)
    have h1 := T.step m p hp
    have hpi := (pts_get hp).1
    cases hf : p.float with
    | true =>
      obtain ⟨_, b, hb, _, h, _, _⟩ := cstep_float hf h1
      have nomain : isMain E p = false := by unfold isMain; simp [hf]
      rw [h] at hx
      rcases List.mem_append.1 hx with hx | hx
      · obtain ⟨q, g1, g2, g3, g4, g5, g6⟩ := ih' (by omega) x hx
        refine ⟨q, g1, g2, by omega, ?_, g5, g6⟩
        rintro ⟨j, r, k1, k2, k3, k4⟩
        by_cases e : j = m
        · subst e; rw [hp] at k2; cases k2; rw [nomain] at k3; cases k3
        · exact g4 ⟨j, r, by omega, k2, k3, k4⟩
      · rw [List.mem_singleton] at hx
        subst hx
        simp only [hpi]
        refine ⟨p, hp, hf, by omega, ?_, by simp, hb⟩
        rintro ⟨j, r, k1, k2, k3, k4⟩
        by_cases e : j = m
        · subst e; rw [hp] at k2; cases k2; rw [nomain] at k3; cases k3
        · have := pre_lt rk k2 k4; omega
    | false =>
      cases hmn : isMain E p with
      | true =>
        obtain ⟨_, _, _, _, h, _⟩ := cstep_main hmn h1
        rw [h] at hx
        obtain ⟨hx1, hx2⟩ := rest_mem.1 hx
        obtain ⟨q, g1, g2, g3, g4, g5, g6⟩ := ih' (by omega) x hx1
        refine ⟨q, g1, g2, by omega, ?_, g5, g6⟩
        rintro ⟨j, r, k1, k2, k3, k4⟩
        by_cases e : j = m
        · subst e; rw [hp] at k2; cases k2; rw [hx2] at k4; cases k4
        · exact g4 ⟨j, r, by omega, k2, k3, k4⟩
      | false =>
        obtain ⟨_, _, _, h, _⟩ := cstep_other hf hmn h1
        rw [h] at hx
        obtain ⟨q, g1, g2, g3, g4, g5, g6⟩ := ih' (by omega) x hx
        refine ⟨q, g1, g2, by omega, ?_, g5, g6⟩
        rintro ⟨j, r, k1, k2, k3, k4⟩
        by_cases e : j = m
        · subst e; rw [hp] at k2; cases k2; rw [hmn] at k3; cases k3
        · exact g4 ⟨j, r, by omega, k2, k3, k4⟩

theorem Text.pend_all (rk : RegOK E ops) (T : Text E ih ops n C V) : ∀ (m : Nat), m ≤ (pts E ops).length → ∀ (f : Nat) (p : Pt), (pts E ops)[f]? = some p → p.float = true → f < m → ¬ Laid E ops m f →
    ∃ x ∈ (C m).pend, x.i = f := by
  intro m
  induction m with
  | zero => intro _ f p _ _ h; omega
  | succ m ih' =>
    intro hm f q hq hqf hlt hno
    obtain ⟨p, hp⟩ := Text.pt (E := E) (ops := ops) m (by omega)
    have h1 := T.step m p hp
    have hpi := (pts_get hp).1
    by_cases hfm : f = m
    · subst hfm
      rw [hp] at hq; cases hq
      obtain ⟨_, b, hb, _, h, _, _⟩ := cstep_float hqf h1
      rw [h]
      exact ⟨⟨q.i, (C f).nm, b⟩, List.mem_append_right _ (List.mem_singleton.2 rfl), hpi⟩
    · obtain ⟨x, hx, hxi⟩ := ih' (by omega) f q hq hqf (by omega) (fun hl => hno (hl.mono (by omega)))
      cases hf : p.float with
      | true =>
        obtain ⟨_, b, hb, _, h, _, _⟩ := cstep_float hf h1
        rw [h]
        exact ⟨x, List.mem_append_left _ hx, hxi⟩
      | false =>
        cases hmn : isMain E p with
        | true =>
          obtain ⟨_, _, _, _, h, _⟩ := cstep_main hmn h1
          rw [h]
          refine ⟨x, rest_mem.2 ⟨hx, ?_⟩, hxi⟩
          cases hb : Nat.testBit p.pre x.i with
          | false => rfl
          | true => exact absurd ⟨m, p, by omega, hp, hmn, by rw [← hxi]; exact hb⟩ hno
        | false =>
          obtain ⟨_, _, _, h, _⟩ := cstep_other hf hmn h1
          rw [h]
          exact ⟨x, hx, hxi⟩

/-! ### laying blocks that stand already -/
theorem layAll_new : ∀ {l : List Pend} {h h' : AH}, layAll h l = some h' → ∀ x ∈ l, h.get x.n ≠ none → False
  | [], h, h', hx, x, hm, _ => by cases hm
  | y :: l, h, h', hx, x, hm, hne => by
    simp only [layAll] at hx
    split at hx
    · rename_i hn
      rcases List.mem_cons.1 hm with rfl | hm
      · exact hne hn
      · refine layAll_new hx x hm ?_
        rw [AH.get_put]
        split
        · simp
        · exact hne
    · cases hx

theorem layAll_sound {w : World} {ρ : Ren} : ∀ {l : List Pend} {h h' : AH}, layAll h l = some h' → HR ρ h w →
    (∀ x ∈ l, ∃ b κ o, ρ x.n = some (b, κ) ∧ w.heap[b]? = some o ∧ BR ρ κ x.b o ∧ ¬ InH ρ h b ∧ Inp.size ≤ b) →
    (∀ x ∈ l, ∀ y ∈ l, ∀ b κ κ', ρ x.n = some (b, κ) → ρ y.n = some (b, κ') → x.n = y.n) →
    HR ρ h' w ∧ (∀ b, InH ρ h' b → InH ρ h b ∨ ∃ x ∈ l, ∃ κ, ρ x.n = some (b, κ))
  | [], h, h', hx, hr, _, _ => by cases hx; exact ⟨hr, fun b hb => .inl hb⟩
  | x :: l, h, h', hx, hr, hp, hi => by
    simp only [layAll] at hx
    split at hx
    · rename_i hn
      obtain ⟨b, κ, o, h1, h2, h3, h4, h5⟩ := hp x (by simp)
      have hr1 : HR ρ (h.put x.n x.b) w := by
        refine ⟨⟨hr.base.inp, hr.base.hsize, fun m a b2 κ2 hm e2 => ?_⟩, ?_, ?_⟩
        · rw [AH.get_put] at hm
          by_cases e : m = x.n
          · subst e; rw [h1] at e2; cases e2; exact h5
          · rw [if_neg e] at hm; exact hr.base.above m a b2 κ2 hm e2
        · intro m a hm
          rw [AH.get_put] at hm
          by_cases e : m = x.n
          · rw [if_pos e] at hm; cases hm; subst e; exact ⟨b, κ, o, h1, h2, h3⟩
          · rw [if_neg e] at hm; exact hr.blk m a hm
        · intro m k a a' b2 κ2 κ3 hm hk e1 e2
          rw [AH.get_put] at hm hk
          by_cases e : m = x.n
          · by_cases e' : k = x.n
            · rw [e, e']
            · rw [if_neg e'] at hk; subst e
              rw [h1] at e1; cases e1
              exact absurd ⟨k, a', κ3, hk, e2⟩ h4
          · rw [if_neg e] at hm
            by_cases e' : k = x.n
            · subst e'
              rw [h1] at e2; cases e2
              exact absurd ⟨m, a, κ2, hm, e1⟩ h4
            · rw [if_neg e'] at hk; exact hr.inj m k a a' b2 κ2 κ3 hm hk e1 e2
      have inp : ∀ b2, InH ρ (h.put x.n x.b) b2 → InH ρ h b2 ∨ b2 = b := by
        rintro b2 ⟨m, a, κ2, hm, e2⟩
        rw [AH.get_put] at hm
        by_cases e : m = x.n
        · subst e; rw [h1] at e2; cases e2; exact .inr rfl
        · rw [if_neg e] at hm; exact .inl ⟨m, a, κ2, hm, e2⟩
      have hp' : ∀ y ∈ l, ∃ b κ o, ρ y.n = some (b, κ) ∧ w.heap[b]? = some o ∧ BR ρ κ y.b o ∧ ¬ InH ρ (h.put x.n x.b) b ∧ Inp.size ≤ b := by
        intro y hy
        obtain ⟨b2, κ2, o2, k1, k2, k3, k4, k5⟩ := hp y (by simp [hy])
        refine ⟨b2, κ2, o2, k1, k2, k3, ?_, k5⟩
        intro hin
        rcases inp b2 hin with g | rfl
        · exact k4 g
        · have hxy : x.n = y.n := hi x (by simp) y (by simp [hy]) b2 κ κ2 h1 k1
          -- the same name twice: it could not be laid twice
          exact layAll_new hx y hy (by rw [AH.get_put, if_pos hxy.symm]; simp)
      obtain ⟨g1, g2⟩ := layAll_sound hx hr1 hp' (fun y hy z hz => hi y (by simp [hy]) z (by simp [hz]))
      refine ⟨g1, fun b2 hb2 => ?_⟩
      rcases g2 b2 hb2 with g | ⟨y, hy, κ2, g⟩
      · rcases inp b2 g with g | rfl
        · exact .inl g
        · exact .inr ⟨x, by simp, κ, h1⟩
      · exact .inr ⟨y, by simp [hy], κ2, g⟩
    · cases hx

end text
end
end Go.Hx

/-! ## A region that draws its order: an invariant over what has come up, and the region as a whole. -/
set_option linter.unusedSimpArgs false
set_option linter.unusedVariables false
namespace Go.Hx
variable [Inp]
set_option linter.unusedSectionVars false

section
variable {E : Env} {ih : Task → Option Res} {ops : Array Oper} {n : Nat} {C : Nat → CS} {V : Nat → AV}

/-- a block that is made and not yet laid stands, and no one else's name leads to it -/
def PoolAt (ρ : Ren) (H : AH) (w : World) (size : Nat) (nm : Nat) (b : ABlk) : Prop :=
  ∃ bk κ o, ρ nm = some (bk, κ) ∧ w.heap[bk]? = some o ∧ BR ρ κ b o ∧ size ≤ bk ∧ ¬ InH ρ H bk

theorem PoolAt.keep {ρ ρ' : Ren} {H H' : AH} {w w' : World} {size nm : Nat} {b : ABlk} (p : PoolAt ρ H w size nm b) (hn : nm < H.next) (ext : Ext ρ ρ') (st : Stp ρ H w ρ' H' w') : PoolAt ρ' H' w' size nm b := by
  obtain ⟨bk, κ, o, h1, h2, h3, h4, h5⟩ := p
  have hlt : bk < w.heap.size := (Array.getElem?_eq_some_iff.1 h2).1
  refine ⟨bk, κ, o, ?_, ?_, h3.ext ext, h4, fun hin => h5 (st.old bk hin hlt)⟩
  · rw [st.keep nm (by omega)]; exact h1
  · rw [st.frame bk hlt h5]; exact h2

/-- what is fixed ahead -/
structure Setup (E : Env) (ih : Task → Option Res) (ops : Array Oper) (n : Nat) (C : Nat → CS) (V : Nat → AV) (ρ0 : Ren) (h0 : AH) : Prop where
  ok : EnvOK E
  hih : IH E.P ih
  rk : RegOK E ops
  T : Text E ih ops n C V
  pend : (C 0).pend = []
  lo : h0.next ≤ (C 0).nm
  hi : (C (pts E ops).length).nm ≤ (C 0).h.next
  base : h0.next ≤ (C 0).h.next
  fresh : Fresh ρ0 h0.next (C (pts E ops).length).h.next
  reads : ∀ (i : Nat) (p : Pt), (pts E ops)[i]? = some p → isRead E p.o = true → p.float = false → isMain E p = false → ∀ m, m ≤ (pts E ops).length →
    (∀ (j : Nat) (q : Pt), j < m → (pts E ops)[j]? = some q → isMain E q = true → Nat.testBit q.pre i = false) →
    (∀ (j : Nat) (q : Pt), (pts E ops)[j]? = some q → isMain E q = true → Nat.testBit p.pre j = true → j < m) →
    sameAt E ops ⟨p, C i, V i⟩ (C m).h = true

structure Inv (E : Env) (ops : Array Oper) (n : Nat) (C : Nat → CS) (V : Nat → AV) (ρ0 : Ren) (h0 : AH) (w0 : World) (ds0 : List Deferred) (S : Nat → Prop) (m : Nat) (ρ : Ren) (tm : Tm) (a : Act) (w : World) : Prop where
  closed : Closed E ops S
  le : m ≤ (pts E ops).length
  mains : ∀ (j : Nat) (p : Pt), (pts E ops)[j]? = some p → isMain E p = true → (S j ↔ j < m)
  tr : TR ρ tm n a.tmps
  slots : ∀ (t i : Nat), i ≤ (pts E ops).length → (∀ (j : Nat) (p : Pt), (pts E ops)[j]? = some p → p.o.dst = some t → (S j ↔ j < i)) → Tm.at tm t = Tm.at (C i).tm t
  defers : a.defers = ds0
  stp : Stp ρ0 h0 w0 ρ (C m).h w
  pool : ∀ (f : Nat) (p : Pt), (pts E ops)[f]? = some p → p.float = true → S f → ¬ Laid E ops m f → ∃ b, xalloc E (C f).tm (C f).nm p.o = some (V f, b) ∧ PoolAt ρ (C m).h w w0.heap.size (C f).nm b
  poolInj : ∀ (f g : Nat) (p q : Pt), (pts E ops)[f]? = some p → p.float = true → S f → ¬ Laid E ops m f → (pts E ops)[g]? = some q → q.float = true → S g → ¬ Laid E ops m g →
    ∀ b κ κ', ρ (C f).nm = some (b, κ) → ρ (C g).nm = some (b, κ') → f = g
  fresh : ∀ (f : Nat) (p : Pt), (pts E ops)[f]? = some p → p.float = true → ¬ S f → ρ (C f).nm = none
  bs : Inp.size ≤ w0.heap.size

section
variable {ρ0 : Ren} {h0 : AH} {w0 : World} {ds0 : List Deferred} {S : Nat → Prop} {m : Nat} {ρ : Ren} {tm : Tm} {a : Act} {w : World}

theorem Setup.nm_hi (U : Setup E ih ops n C V ρ0 h0) {f : Nat} {p : Pt} (hp : (pts E ops)[f]? = some p) (hf : p.float = true) : (C f).nm < (C 0).h.next :=
  Nat.lt_of_lt_of_le (U.T.nm_lt hp hf (lt_length hp) (Nat.le_refl _)) U.hi
theorem Setup.nm_lo (U : Setup E ih ops n C V ρ0 h0) {f : Nat} {p : Pt} (hp : (pts E ops)[f]? = some p) : h0.next ≤ (C f).nm :=
  Nat.le_trans U.lo (U.T.nm_le (Nat.zero_le _) (Nat.le_of_lt (lt_length hp)))
theorem Setup.nm_m (U : Setup E ih ops n C V ρ0 h0) {f m : Nat} {p : Pt} (hp : (pts E ops)[f]? = some p) (hf : p.float = true) (hm : m ≤ (pts E ops).length) : (C f).nm < (C m).h.next :=
  Nat.lt_of_lt_of_le (U.nm_hi hp hf) (U.T.next_le U.hih (Nat.zero_le _) hm)

/-- another place with the same memory -/
theorem Inv.move (U : Setup E ih ops n C V ρ0 h0) (I : Inv E ops n C V ρ0 h0 w0 ds0 S m ρ tm a w) {k : Nat} (hmk : m ≤ k) (hk : k ≤ (pts E ops).length)
    (hno : ∀ (j : Nat) (p : Pt), m ≤ j → j < k → (pts E ops)[j]? = some p → isMain E p = false) : Inv E ops n C V ρ0 h0 w0 ds0 S k ρ tm a w := by
  have hh := U.T.h_same hmk hk hno
  have laid : ∀ f, ¬ Laid E ops k f → ¬ Laid E ops m f := fun f hl h => hl (h.mono hmk)
  refine ⟨I.closed, hk, ?_, I.tr, I.slots, I.defers, by rw [hh]; exact I.stp, ?_, ?_, I.fresh, I.bs⟩
  · intro j p hp hm
    rw [I.mains j p hp hm]
    constructor
    · intro h; omega
    · intro h
      rcases Nat.lt_or_ge j m with h1 | h1
      · exact h1
      · have := hno j p h1 h hp; rw [hm] at this; cases this
  · intro f p hp hf hs hl
    rw [hh]; exact I.pool f p hp hf hs (laid f hl)
  · intro f g p q hp hf hs hl hq hg hsg hlg
    exact I.poolInj f g p q hp hf hs (laid f hl) hq hg hsg (laid g hlg)

/-- what an operation reads is what it reads in the text's order -/
theorem Inv.reads_at (U : Setup E ih ops n C V ρ0 h0) (I : Inv E ops n C V ρ0 h0 w0 ds0 S m ρ tm a w) {i : Nat} {p : Pt} (hp : (pts E ops)[i]? = some p) (hnS : ¬ S i)
    (hrd : ∀ e ∈ p.o.after.toList, bindsE e = true → S e.on) : ∀ t ∈ readsOf ops p.o, Tm.at tm t = Tm.at (C i).tm t := by
  intro t ht
  refine I.slots t i (Nat.le_of_lt (lt_length hp)) ?_
  intro j q hq hd
  have hpi := (pts_get hp).1
  have hqi := (pts_get hq).1
  rcases Nat.lt_trichotomy j i with h | h | h
  · refine ⟨fun _ => h, fun _ => ?_⟩
    rcases pair_cases (U.rk.pair j i q p h hq hp) with ⟨h1, _⟩ | ⟨_, _, h3⟩
    · rw [hqi] at h1
      exact (pre_in U.rk I.closed i p hp hrd h1).1
    · exact absurd ht ((slots_cases h3).1 t hd)
  · subst h
    exact ⟨fun h => absurd h hnS, fun h => absurd h (Nat.lt_irrefl _)⟩
  · refine ⟨fun hs => ?_, fun h' => by omega⟩
    exfalso
    rcases pair_cases (U.rk.pair i j p q h hp hq) with ⟨h1, _⟩ | ⟨_, _, h3⟩
    · rw [hpi] at h1
      exact hnS (pre_in U.rk I.closed j q hq (I.closed j q hq hs) h1).1
    · exact absurd ht ((slots_cases h3).2.2 t hd)

theorem Inv.slots_step (U : Setup E ih ops n C V ρ0 h0) (I : Inv E ops n C V ρ0 h0 w0 ds0 S m ρ tm a w) {i : Nat} {p : Pt} (hp : (pts E ops)[i]? = some p) (hnS : ¬ S i)
    {S' : Nat → Prop} (hS : ∀ j, S' j ↔ S j ∨ j = i) {tm' : Tm} (hput : putA tm n p.o.dst (V i) = some tm') :
    ∀ (t k : Nat), k ≤ (pts E ops).length → (∀ (j : Nat) (q : Pt), (pts E ops)[j]? = some q → q.o.dst = some t → (S' j ↔ j < k)) → Tm.at tm' t = Tm.at (C k).tm t := by
  intro t k hk hw
  have hpi := (pts_get hp).1
  rw [putA_at hput t]
  by_cases hd : p.o.dst = some t
  · rw [if_pos hd]
    have hik : i < k := (hw i p hp hd).1 ((hS i).2 (.inr rfl))
    have h1 := U.T.tm_same (t := t) (i := i + 1) (k := k) hik hk ?_
    · rw [h1, putA_at (cstep_put (U.T.step i p hp)) t, if_pos hd]
    · intro j q hj1 hj2 hq hqd
      have hs' := (hw j q hq hqd).2 hj2
      have hs : S j := by
        rcases (hS j).1 hs' with h | h
        · exact h
        · omega
      rcases pair_cases (U.rk.pair i j p q (by omega) hp hq) with ⟨h1, _⟩ | ⟨_, _, h3⟩
      · rw [hpi] at h1
        exact hnS (pre_in U.rk I.closed j q hq (I.closed j q hq hs) h1).1
      · exact (slots_cases h3).2.1 t hd hqd
  · rw [if_neg hd]
    refine I.slots t k hk ?_
    intro j q hq hqd
    rw [← hw j q hq hqd, hS j]
    constructor
    · exact .inl
    · rintro (h | h)
      · exact h
      · subst h; rw [hp] at hq; cases hq; exact absurd hqd hd

theorem Inv.closed_step (I : Inv E ops n C V ρ0 h0 w0 ds0 S m ρ tm a w) {i : Nat} {p : Pt} (hp : (pts E ops)[i]? = some p) (hrd : ∀ e ∈ p.o.after.toList, bindsE e = true → S e.on)
    {S' : Nat → Prop} (hS : ∀ j, S' j ↔ S j ∨ j = i) : Closed E ops S' := by
  intro j q hq hs e he hb
  rcases (hS j).1 hs with h | h
  · exact (hS _).2 (.inl (I.closed j q hq h e he hb))
  · subst h; rw [hp] at hq; cases hq; exact (hS _).2 (.inl (hrd e he hb))

/-! ### an operation that is no act -/
theorem other_at (U : Setup E ih ops n C V ρ0 h0) (I : Inv E ops n C V ρ0 h0 w0 ds0 S m ρ tm a w) {i : Nat} {p : Pt} (hp : (pts E ops)[i]? = some p) (hnS : ¬ S i)
    (hrd : ∀ e ∈ p.o.after.toList, bindsE e = true → S e.on) (hf : p.float = false) (hm : isMain E p = false) : stepA E ih ops (C i).tm (C m).h p.o = some (V i, (C m).h) := by
  obtain ⟨h1, hs, _⟩ := cstep_other hf hm (U.T.step i p hp)
  unfold stepA at hs ⊢
  cases hw : wantedA ops (C i).tm p.o with
  | false =>
    rw [hw] at hs
    simp only [Bool.false_eq_true, if_false, Option.some.injEq, Prod.mk.injEq] at hs ⊢
    exact ⟨hs.1, trivial⟩
  | true =>
    rw [hw] at hs
    simp only [if_true] at hs ⊢
    unfold doneA xop at hs ⊢
    cases hpu : isPure E p.o with
    | true =>
      simp only [hpu, if_true] at hs ⊢
      cases hx : xpure E (C i).tm p.o with
      | none => simp [hx, vh] at hs
      | some v => simp [hx, vh] at hs ⊢; exact hs.1
    | false =>
      have hrd' : isRead E p.o = true := by
        unfold isMain isAct at hm
        simp [hpu, hf] at hm
        exact hm
      simp only [hpu, Bool.false_eq_true, if_false, hrd', if_true] at hs ⊢
      have hsame := U.reads i p hp hrd' hf hm m I.le ?_ ?_
      · unfold sameAt at hsame
        simp only [hw, cond_true] at hsame
        split at hsame
        · rename_i v hv
          have hvv : v = V i := AV.beq_eq hsame
          have hv' : xread E (C i).tm (C m).h p.o = some v := hv
          simp [hv', vh, hvv]
        · cases hsame
      · intro j q hj hq hqm
        cases hb : Nat.testBit q.pre i with
        | false => rfl
        | true =>
          have hsj := (I.mains j q hq hqm).2 hj
          exact absurd (pre_in U.rk I.closed j q hq (I.closed j q hq hsj) hb).1 hnS
      · intro j q hq hqm hb
        exact (I.mains j q hq hqm).1 (pre_in U.rk I.closed i p hp hrd hb).1

theorem step_other (U : Setup E ih ops n C V ρ0 h0) (I : Inv E ops n C V ρ0 h0 w0 ds0 S m ρ tm a w) {i : Nat} {p : Pt} (hp : (pts E ops)[i]? = some p) (hnS : ¬ S i)
    (hrd : ∀ e ∈ p.o.after.toList, bindsE e = true → S e.on) (hf : p.float = false) (hm : isMain E p = false) {S' : Nat → Prop} (hS : ∀ j, S' j ↔ S j ∨ j = i)
    {lo : Option Nat} {Q : Exit → Act → World → Prop} {K : Act → World → Prop} (hK : ∀ m' ρ' tm' a' w', Inv E ops n C V ρ0 h0 w0 ds0 S' m' ρ' tm' a' w' → K a' w') : wpOpIn (FF lo) 0 E.P ops Q i K a w := by
  have hs := other_at U I hp hnS hrd hf hm
  rw [← stepA_congr (I.reads_at U hp hnS hrd)] at hs
  refine stepA_sound U.ok U.hih (pts_get hp).2.1 hs I.stp.hr (fun k h1 h2 => absurd h2 (by omega)) I.tr ?_
  intro ρ' x w' st hv
  have ext : Ext ρ ρ' := st.ext (fun k h1 h2 => absurd h2 (by omega))
  obtain ⟨tm', hput⟩ := putA_of (tm2 := tm) (cstep_put (U.T.step i p hp))
  have hmi : ∀ f (q : Pt), (pts E ops)[f]? = some q → q.float = true → S' f → S f := by
    intro f q hq hqf hs'
    rcases (hS f).1 hs' with h | h
    · exact h
    · subst h; rw [hp] at hq; cases hq; rw [hf] at hqf; cases hqf
  have same : ∀ f (q : Pt), (pts E ops)[f]? = some q → q.float = true → ρ' (C f).nm = ρ (C f).nm := by
    intro f q hq hqf
    have := U.nm_m hq hqf I.le
    exact st.keep _ (by omega)
  refine hK m ρ' tm' _ w' ⟨I.closed_step hp hrd hS, I.le, ?_, (I.tr.ext ext).put hv hput, I.slots_step U hp hnS hS hput, by rw [put_defers]; exact I.defers, I.stp.trans st, ?_, ?_, ?_, I.bs⟩
  · intro j q hq hqm
    rw [hS j, ← I.mains j q hq hqm]
    constructor
    · rintro (h | h)
      · exact h
      · subst h; rw [hp] at hq; cases hq; rw [hm] at hqm; cases hqm
    · exact .inl
  · intro f q hq hqf hs' hl
    obtain ⟨b, h1, h2⟩ := I.pool f q hq hqf (hmi f q hq hqf hs') hl
    exact ⟨b, h1, h2.keep (U.nm_m hq hqf I.le) ext st⟩
  · intro f g q r hq hqf hsf hl hr hrf hsg hlg b κ κ' e1 e2
    rw [same f q hq hqf] at e1
    rw [same g r hr hrf] at e2
    exact I.poolInj f g q r hq hqf (hmi f q hq hqf hsf) hl hr hrf (hmi g r hr hrf hsg) hlg b κ κ' e1 e2
  · intro f q hq hqf hns
    rw [same f q hq hqf]
    exact I.fresh f q hq hqf (fun h => hns ((hS f).2 (.inl h)))

/-! ### a block that may be made at any time -/
theorem isAlloc_not {o : Oper} (h : isAlloc E o = true) : isPure E o = false ∧ isRead E o = false := by
  obtain ⟨dst, op, ty, pos, after, guard⟩ := o
  unfold isAlloc at h
  cases op <;> simp only [Bool.false_eq_true] at h <;> simp only [isPure, isRead, and_self]
  rename_i s d x
  have hk := beq_yes h
  rw [hk]
  exact ⟨rfl, rfl⟩

theorem step_float (U : Setup E ih ops n C V ρ0 h0) (I : Inv E ops n C V ρ0 h0 w0 ds0 S m ρ tm a w) {i : Nat} {p : Pt} (hp : (pts E ops)[i]? = some p) (hnS : ¬ S i)
    (hrd : ∀ e ∈ p.o.after.toList, bindsE e = true → S e.on) (hf : p.float = true) {S' : Nat → Prop} (hS : ∀ j, S' j ↔ S j ∨ j = i)
    {lo : Option Nat} {Q : Exit → Act → World → Prop} {K : Act → World → Prop} (hK : ∀ m' ρ' tm' a' w', Inv E ops n C V ρ0 h0 w0 ds0 S' m' ρ' tm' a' w' → K a' w') : wpOpIn (FF lo) 0 E.P ops Q i K a w := by
  obtain ⟨hw, b, hb, _, _, _, hput0⟩ := cstep_float hf (U.T.step i p hp)
  obtain ⟨np, nr⟩ := isAlloc_not ((pts_get hp).2.2.2 hf)
  have hs : stepA E ih ops (C i).tm ⟨(C m).h.blk, (C i).nm⟩ p.o = some (V i, (⟨(C m).h.blk, (C i).nm⟩ : AH).new b) := by
    unfold stepA doneA xop
    simp only [hw, if_true, np, nr, Bool.false_eq_true, if_false, (pts_get hp).2.2.2 hf, hb, ah]
  rw [← stepA_congr (I.reads_at U hp hnS hrd)] at hs
  have hnm := I.fresh i p hp hf hnS
  have hr1 : HR ρ ⟨(C m).h.blk, (C i).nm⟩ w := ⟨⟨I.stp.hr.base.inp, I.stp.hr.base.hsize, I.stp.hr.base.above⟩, I.stp.hr.blk, I.stp.hr.inj⟩
  have hfr : Fresh ρ (C i).nm ((C i).nm + 1) := fun k h1 h2 => by
    have : k = (C i).nm := by omega
    rw [this]; exact hnm
  refine stepA_sound U.ok U.hih (pts_get hp).2.1 hs hr1 hfr I.tr ?_
  intro ρ' x w' st hv
  have ext : Ext ρ ρ' := st.ext hfr
  obtain ⟨tm', hput⟩ := putA_of (tm2 := tm) hput0
  have hmain : isMain E p = false := by unfold isMain; simp [hf]
  have hlt := U.nm_m hp hf I.le
  have hno : (C m).h.get (C i).nm = none := by
    cases hg : (C m).h.get (C i).nm with
    | none => rfl
    | some a0 =>
      obtain ⟨b1, k1, o1, e1, _⟩ := I.stp.hr.blk _ _ hg
      rw [hnm] at e1; cases e1
  have sub : ∀ k a0, (C m).h.get k = some a0 → ((⟨(C m).h.blk, (C i).nm⟩ : AH).new b).get k = some a0 := by
    intro k a0 hk
    rw [AH.get_new]
    by_cases e : k = (C i).nm
    · subst e; rw [hno] at hk; cases hk
    · rw [if_neg e]; exact hk
  have getnew : ((⟨(C m).h.blk, (C i).nm⟩ : AH).new b).get (C i).nm = some b := by rw [AH.get_new, if_pos rfl]
  have inp : ∀ b2, InH ρ' (C m).h b2 → InH ρ' ((⟨(C m).h.blk, (C i).nm⟩ : AH).new b) b2 := by
    rintro b2 ⟨k, a0, κ, h1, h2⟩; exact ⟨k, a0, κ, sub k a0 h1, h2⟩
  have inq : ∀ b2, InH ρ ⟨(C m).h.blk, (C i).nm⟩ b2 → InH ρ (C m).h b2 := fun b2 h => h
  obtain ⟨bk, κ, o, e1, e2, e3⟩ := st.hr.blk (C i).nm b getnew
  have notIn : ¬ InH ρ' (C m).h bk := by
    rintro ⟨k, a0, κ2, h1, h2⟩
    have := st.hr.inj k (C i).nm a0 b bk κ2 κ (sub k a0 h1) getnew h2 e1
    subst this
    rw [hno] at h1; cases h1
  have isNew : w.heap.size ≤ bk := by
    rcases Nat.lt_or_ge bk w.heap.size with h | h
    · exfalso
      obtain ⟨k, a0, κ2, h1, h2⟩ := st.old bk ⟨_, b, κ, getnew, e1⟩ h
      exact notIn ⟨k, a0, κ2, h1, ext _ _ h2⟩
    · exact h
  have stp' : Stp ρ0 h0 w0 ρ' (C m).h w' := by
    refine ⟨I.stp.next, ?_, ⟨⟨st.hr.base.inp, st.hr.base.hsize, fun k a0 b κ hk => st.hr.base.above k a0 b κ (sub k a0 hk)⟩, fun k a0 hk => st.hr.blk k a0 (sub k a0 hk), fun k l a0 a1 b2 κ2 κ3 h1 h2 => st.hr.inj k l a0 a1 b2 κ2 κ3 (sub k a0 h1) (sub l a1 h2)⟩,
      st.os.trans I.stp.os, st.tape.trans I.stp.tape, st.out.trans I.stp.out, Nat.le_trans I.stp.size st.size, ?_, ?_⟩
    · intro k hk
      have h1 := U.nm_lo hp
      rw [st.keep k (by simp only [AH.next_new]; omega), I.stp.keep k hk]
    · intro b2 hb2 hni
      rw [st.frame b2 (Nat.lt_of_lt_of_le hb2 I.stp.size) (fun h => hni (I.stp.old b2 h hb2)), I.stp.frame b2 hb2 hni]
    · intro b2 hb2 hlt2
      exact I.stp.old b2 (st.old b2 (inp b2 hb2) (Nat.lt_of_lt_of_le hlt2 I.stp.size)) hlt2
  have same : ∀ f (q : Pt), (pts E ops)[f]? = some q → q.float = true → f ≠ i → ρ' (C f).nm = ρ (C f).nm := by
    intro f q hq hqf hne
    have : (C f).nm ≠ (C i).nm := fun e => hne (U.T.nm_inj hq hqf hp hf e)
    exact st.keep _ (by simp only [AH.next_new]; omega)
  have olds : ∀ f (q : Pt), (pts E ops)[f]? = some q → q.float = true → f ≠ i → S' f → ¬ Laid E ops m f → ∃ b, xalloc E (C f).tm (C f).nm q.o = some (V f, b) ∧ PoolAt ρ' (C m).h w' w0.heap.size (C f).nm b ∧ ∃ b2 κ2, ρ (C f).nm = some (b2, κ2) ∧ b2 < w.heap.size := by
    intro f q hq hqf hne hs' hl
    have hsf : S f := ((hS f).1 hs').resolve_right hne
    obtain ⟨b1, h1, b2, κ2, o2, k1, k2, k3, k4, k5⟩ := I.pool f q hq hqf hsf hl
    have hlt2 : b2 < w.heap.size := (Array.getElem?_eq_some_iff.1 k2).1
    refine ⟨b1, h1, ⟨b2, κ2, o2, ?_, ?_, k3.ext ext, k4, ?_⟩, b2, κ2, k1, hlt2⟩
    · rw [same f q hq hqf hne]; exact k1
    · rw [st.frame b2 hlt2 k5]; exact k2
    · intro hin; exact k5 (st.old b2 (inp b2 hin) hlt2)
  refine hK m ρ' tm' _ w' ⟨I.closed_step hp hrd hS, I.le, ?_, (I.tr.ext ext).put hv hput, I.slots_step U hp hnS hS hput, by rw [put_defers]; exact I.defers, stp', ?_, ?_, ?_, I.bs⟩
  · intro j q hq hqm
    rw [hS j, ← I.mains j q hq hqm]
    constructor
    · rintro (h | h)
      · exact h
      · subst h; rw [hp] at hq; cases hq; rw [hmain] at hqm; cases hqm
    · exact .inl
  · intro f q hq hqf hs' hl
    by_cases e : f = i
    · subst e; rw [hp] at hq; cases hq
      exact ⟨b, hb, bk, κ, o, e1, e2, e3, Nat.le_trans I.stp.size isNew, notIn⟩
    · obtain ⟨b1, h1, h2, _⟩ := olds f q hq hqf e hs' hl
      exact ⟨b1, h1, h2⟩
  · intro f g q r hq hqf hsf hl hr hrf hsg hlg b2 κ2 κ3 g1 g2
    by_cases e : f = i
    · by_cases e' : g = i
      · rw [e, e']
      · exfalso
        obtain ⟨_, _, _, b4, κ4, k1, k2⟩ := olds g r hr hrf e' hsg hlg
        rw [same g r hr hrf e', k1] at g2; cases g2
        subst e; rw [e1] at g1; cases g1; omega
    · obtain ⟨_, _, _, b4, κ4, k1, k2⟩ := olds f q hq hqf e hsf hl
      by_cases e' : g = i
      · exfalso
        rw [same f q hq hqf e, k1] at g1; cases g1
        subst e'; rw [e1] at g2; cases g2; omega
      · rw [same f q hq hqf e] at g1
        rw [same g r hr hrf e'] at g2
        exact I.poolInj f g q r hq hqf (((hS f).1 hsf).resolve_right e) hl hr hrf (((hS g).1 hsg).resolve_right e') hlg b2 κ2 κ3 g1 g2
  · intro f q hq hqf hns
    have hne : f ≠ i := fun e => hns ((hS f).2 (.inr e))
    rw [same f q hq hqf hne]
    exact I.fresh f q hq hqf (fun h => hns ((hS f).2 (.inl h)))

end
end
end Go.Hx

/-! ## A region that draws its order: its acts, and the region as a whole. -/
set_option linter.unusedSimpArgs false
set_option linter.unusedVariables false
namespace Go.Hx
variable [Inp]
set_option linter.unusedSectionVars false

section
variable {E : Env} {ih : Task → Option Res} {ops : Array Oper} {n : Nat} {C : Nat → CS} {V : Nat → AV}
variable {ρ0 : Ren} {h0 : AH} {w0 : World} {ds0 : List Deferred} {S : Nat → Prop} {m : Nat} {ρ : Ren} {tm : Tm} {a : Act} {w : World}

theorem main_notFloat {p : Pt} (hm : isMain E p = true) : p.float = false := by
  unfold isMain at hm
  simp only [Bool.and_eq_true, Bool.not_eq_true'] at hm
  exact hm.2

/-- laying what is pending and stands -/
theorem Inv.lay (U : Setup E ih ops n C V ρ0 h0) (I : Inv E ops n C V ρ0 h0 w0 ds0 S m ρ tm a w) {l : List Pend} {h1 : AH} (hl : layAll (C m).h l = some h1) (hsub : ∀ x ∈ l, x ∈ (C m).pend ∧ S x.i) :
    HR ρ h1 w ∧ Stp ρ0 h0 w0 ρ h1 w ∧ (∀ b, InH ρ h1 b → InH ρ (C m).h b ∨ ∃ x ∈ l, ∃ κ, ρ x.n = some (b, κ)) := by
  have fact : ∀ x ∈ l, ∃ p, (pts E ops)[x.i]? = some p ∧ p.float = true ∧ S x.i ∧ ¬ Laid E ops m x.i ∧ x.n = (C x.i).nm ∧ PoolAt ρ (C m).h w w0.heap.size x.n x.b := by
    intro x hx
    obtain ⟨hp, hs⟩ := hsub x hx
    obtain ⟨p, g1, g2, g3, g4, g5, g6⟩ := U.T.pend_mem U.rk U.pend m I.le x hp
    obtain ⟨b, k1, k2⟩ := I.pool x.i p g1 g2 hs g4
    rw [g6] at k1
    cases k1
    rw [← g5] at k2
    exact ⟨p, g1, g2, hs, g4, g5, k2⟩
  obtain ⟨g1, g2⟩ := layAll_sound (w := w) (ρ := ρ) hl I.stp.hr (by
    intro x hx
    obtain ⟨p, _, _, _, _, _, bk, κ, o, k1, k2, k3, k4, k5⟩ := fact x hx
    exact ⟨bk, κ, o, k1, k2, k3, k5, Nat.le_trans I.bs k4⟩) (by
    intro x hx y hy b κ κ' e1 e2
    obtain ⟨p, f1, f2, f3, f4, f5, _⟩ := fact x hx
    obtain ⟨q, q1, q2, q3, q4, q5, _⟩ := fact y hy
    rw [f5] at e1; rw [q5] at e2
    have := I.poolInj x.i y.i p q f1 f2 f3 f4 q1 q2 q3 q4 b κ κ' e1 e2
    rw [f5, q5, this])
  refine ⟨g1, ⟨?_, ?_, g1, I.stp.os, I.stp.tape, I.stp.out, I.stp.size, I.stp.frame, ?_⟩, g2⟩
  · rw [layAll_next hl]; exact I.stp.next
  · intro k hk; rw [layAll_next hl] at hk; exact I.stp.keep k hk
  · intro b hb hlt
    rcases g2 b hb with h | ⟨x, hx, κ, e⟩
    · exact I.stp.old b h hlt
    · obtain ⟨p, _, _, _, _, _, bk, κ2, o, k1, k2, k3, k4, k5⟩ := fact x hx
      rw [e] at k1; cases k1
      omega

theorem step_main (U : Setup E ih ops n C V ρ0 h0) (I0 : Inv E ops n C V ρ0 h0 w0 ds0 S m ρ tm a w) {i : Nat} {p : Pt} (hp : (pts E ops)[i]? = some p) (hnS : ¬ S i)
    (hrd : ∀ e ∈ p.o.after.toList, bindsE e = true → S e.on) (hm : isMain E p = true) {S' : Nat → Prop} (hS : ∀ j, S' j ↔ S j ∨ j = i)
    {lo : Option Nat} {Q : Exit → Act → World → Prop} {K : Act → World → Prop} (hK : ∀ m' ρ' tm' a' w', Inv E ops n C V ρ0 h0 w0 ds0 S' m' ρ' tm' a' w' → K a' w') : wpOpIn (FF lo) 0 E.P ops Q i K a w := by
  have hlen := lt_length hp
  have hmi : m ≤ i := by
    rcases Nat.lt_or_ge i m with h | h
    · exact absurd ((I0.mains i p hp hm).2 h) hnS
    · exact h
  have I := I0.move U hmi (Nat.le_of_lt hlen) (by
    intro j q h1 h2 hq
    cases hqm : isMain E q with
    | false => rfl
    | true =>
      exfalso
      rcases pair_cases (U.rk.pair j i q p h2 hq hp) with ⟨g1, _⟩ | ⟨_, g2, _⟩
      · rw [(pts_get hq).1] at g1
        have := (I0.mains j q hq hqm).1 (pre_in U.rk I0.closed i p hp hrd g1).1
        omega
      · exact g2 ⟨hqm, hm⟩)
  have hf := main_notFloat hm
  obtain ⟨h1, hlay, hs, _, _, hput0⟩ := cstep_main hm (U.T.step i p hp)
  obtain ⟨hr1, stp1, inh⟩ := I.lay U hlay (by
    intro x hx
    obtain ⟨k1, k2⟩ := due_mem.1 hx
    exact ⟨k1, (pre_in U.rk I.closed i p hp hrd k2).1⟩)
  rw [← stepA_congr (I.reads_at U hp hnS hrd)] at hs
  have hnext1 : h1.next = (C i).h.next := layAll_next hlay
  have hlast : (C (i + 1)).h.next ≤ (C (pts E ops).length).h.next := U.T.next_le U.hih (by omega) (Nat.le_refl _)
  have hfr : Fresh ρ h1.next (C (i + 1)).h.next := by
    intro k k1 k2
    rw [stp1.keep k (by omega)]
    exact U.fresh k (by have := stp1.next; omega) (by omega)
  refine stepA_sound U.ok U.hih (pts_get hp).2.1 hs hr1 hfr I.tr ?_
  intro ρ' x w' st hv
  have ext : Ext ρ ρ' := st.ext hfr
  obtain ⟨tm', hput⟩ := putA_of (tm2 := tm) hput0
  have same : ∀ f (q : Pt), (pts E ops)[f]? = some q → q.float = true → ρ' (C f).nm = ρ (C f).nm := by
    intro f q hq hqf
    have := U.nm_m hq hqf I.le
    exact st.keep _ (by omega)
  have hfi : ∀ f (q : Pt), (pts E ops)[f]? = some q → q.float = true → S' f → S f := by
    intro f q hq hqf hs'
    rcases (hS f).1 hs' with h | h
    · exact h
    · subst h; rw [hp] at hq; cases hq; rw [hf] at hqf; cases hqf
  have hla : ∀ f, ¬ Laid E ops (i + 1) f → ¬ Laid E ops i f ∧ Nat.testBit p.pre f = false := by
    intro f hl
    refine ⟨fun h => hl (h.mono (Nat.le_succ _)), ?_⟩
    cases hb : Nat.testBit p.pre f with
    | false => rfl
    | true => exact absurd ⟨i, p, Nat.lt_succ_self _, hp, hm, hb⟩ hl
  refine hK (i + 1) ρ' tm' _ w' ⟨I.closed_step hp hrd hS, hlen, ?_, (I.tr.ext ext).put hv hput, I.slots_step U hp hnS hS hput, by rw [put_defers]; exact I.defers, stp1.trans st, ?_, ?_, ?_, I.bs⟩
  · intro j q hq hqm
    rw [hS j, I.mains j q hq hqm]
    omega
  · intro f q hq hqf hs' hl
    obtain ⟨l1, l2⟩ := hla f hl
    obtain ⟨b, k1, k2⟩ := I.pool f q hq hqf (hfi f q hq hqf hs') l1
    refine ⟨b, k1, ?_⟩
    have k3 : PoolAt ρ h1 w w0.heap.size (C f).nm b := by
      obtain ⟨bk, κ, o, e1, e2, e3, e4, e5⟩ := k2
      refine ⟨bk, κ, o, e1, e2, e3, e4, ?_⟩
      intro hin
      rcases inh bk hin with h | ⟨y, hy, κ2, e⟩
      · exact e5 h
      · obtain ⟨y1, y2⟩ := due_mem.1 hy
        obtain ⟨r, g1, g2, g3, g4, g5, _⟩ := U.T.pend_mem U.rk U.pend i I.le y y1
        rw [g5] at e
        have := I.poolInj f y.i q r hq hqf (hfi f q hq hqf hs') l1 g1 g2 (pre_in U.rk I.closed i p hp hrd y2).1 g4 bk κ κ2 e1 e
        rw [this] at l2; rw [l2] at y2; cases y2
    exact k3.keep (by rw [hnext1]; exact U.nm_m hq hqf I.le) ext st
  · intro f g q r hq hqf hsf hl hr hrf hsg hlg b κ κ' e1 e2
    rw [same f q hq hqf] at e1
    rw [same g r hr hrf] at e2
    exact I.poolInj f g q r hq hqf (hfi f q hq hqf hsf) (hla f hl).1 hr hrf (hfi g r hr hrf hsg) (hla g hlg).1 b κ κ' e1 e2
  · intro f q hq hqf hns
    rw [same f q hq hqf]
    exact I.fresh f q hq hqf (fun h => hns ((hS f).2 (.inl h)))

theorem step_any (U : Setup E ih ops n C V ρ0 h0) (I : Inv E ops n C V ρ0 h0 w0 ds0 S m ρ tm a w) {i : Nat} {p : Pt} (hp : (pts E ops)[i]? = some p) (hnS : ¬ S i)
    (hrd : ∀ e ∈ p.o.after.toList, bindsE e = true → S e.on) {S' : Nat → Prop} (hS : ∀ j, S' j ↔ S j ∨ j = i)
    {lo : Option Nat} {Q : Exit → Act → World → Prop} {K : Act → World → Prop} (hK : ∀ m' ρ' tm' a' w', Inv E ops n C V ρ0 h0 w0 ds0 S' m' ρ' tm' a' w' → K a' w') : wpOpIn (FF lo) 0 E.P ops Q i K a w := by
  cases hf : p.float with
  | true => exact step_float U I hp hnS hrd hf hS hK
  | false =>
    cases hm : isMain E p with
    | true => exact step_main U I hp hnS hrd hm hS hK
    | false => exact step_other U I hp hnS hrd hf hm hS hK

/-! ### the whole order -/
theorem count_set : ∀ {l : List Bool} {i : Nat}, l[i]? = some false → (l.set i true).count false + 1 = l.count false
  | [], i, h => by simp at h
  | b :: l, 0, h => by simp at h; subst h; simp
  | b :: l, i + 1, h => by
    have := count_set (l := l) (i := i) (by simpa using h)
    simp only [List.set_cons_succ, List.count_cons]
    omega

theorem listed_false {listed : Array Bool} {i : Nat} (h : listed.getD i true = false) : listed[i]? = some false := by
  rw [Array.getD_eq_getD_getElem?] at h
  cases hx : listed[i]? with
  | none => rw [hx] at h; cases h
  | some b => rw [hx] at h; simp at h; rw [h]

theorem any_sound (U : Setup E ih ops n C V ρ0 h0) {lo : Option Nat} {Q : Exit → Act → World → Prop}
    (hQ : ∀ S m ρ tm a w, (∀ i, i < ops.size → S i) → Inv E ops n C V ρ0 h0 w0 ds0 S m ρ tm a w → Q .normal a w) :
    ∀ (fuel : Nat) (listed : Array Bool) (m : Nat) (ρ : Ren) (tm : Tm) (a : Act) (w : World), listed.size = ops.size → listed.toList.count false = fuel →
      Inv E ops n C V ρ0 h0 w0 ds0 (fun j => listed.getD j false = true) m ρ tm a w → wpAnyIn (FF lo) 0 E.P .any ops Q fuel listed a w := by
  intro fuel
  have done : ∀ (listed : Array Bool) (m : Nat) (ρ : Ren) (tm : Tm) (a : Act) (w : World), listed.size = ops.size → Region.ready .any ops listed = [] →
      Inv E ops n C V ρ0 h0 w0 ds0 (fun j => listed.getD j false = true) m ρ tm a w → Q .normal a w := by
    intro listed m ρ tm a w hsz hr I
    refine hQ _ m ρ tm a w ?_ I
    intro i
    induction i using Nat.strongRecOn with
    | _ i ihi =>
      intro hi
      cases hx : listed[i]? with
      | none => rw [Array.getElem?_eq_none_iff] at hx; omega
      | some b =>
        cases b with
        | true => show listed.getD i false = true; rw [Array.getD_eq_getD_getElem?, hx]; rfl
        | false =>
          exfalso
          have hlt : i < (pts E ops).length := by rw [pts_length]; exact hi
          obtain ⟨p, hp⟩ := Text.pt (E := E) (ops := ops) i hlt
          have : i ∈ Region.ready .any ops listed := by
            refine mem_ready.2 ⟨?_, p.o, (pts_get hp).2.1, ?_⟩
            · rw [Array.getD_eq_getD_getElem?, hx]; rfl
            · intro e he hb
              have hl := U.rk.below i p hp e (by simpa using he) (by rw [bindsE_eq]; exact hb)
              exact ihi e.on hl (by omega)
          rw [hr] at this
          cases this
  induction fuel with
  | zero =>
    intro listed m ρ tm a w hsz hc I
    have hr : Region.ready .any ops listed = [] := by
      cases hx : Region.ready .any ops listed with
      | nil => rfl
      | cons j l =>
        exfalso
        have hj : j ∈ Region.ready .any ops listed := by rw [hx]; simp
        have h1 := listed_false (mem_ready.1 hj).1
        have h2 : false ∈ listed.toList := List.mem_of_getElem? (by rw [Array.getElem?_toList]; exact h1)
        have := List.count_pos_iff.2 h2
        omega
    exact ⟨hr, done listed m ρ tm a w hsz hr I⟩
  | succ fuel ihf =>
    intro listed m ρ tm a w hsz hc I
    refine ⟨fun hr => done listed m ρ tm a w hsz hr I, ?_⟩
    intro i hi
    obtain ⟨h1, o, ho, h2⟩ := mem_ready.1 hi
    have h3 := listed_false h1
    have hlt : i < listed.size := (Array.getElem?_eq_some_iff.1 h3).1
    obtain ⟨p, hp⟩ := Text.pt (E := E) (ops := ops) i (by rw [pts_length]; omega)
    have hpo : p.o = o := by
      have := (pts_get hp).2.1
      rw [ho] at this; cases this; rfl
    have hget : listed.getD i false = false := by rw [Array.getD_eq_getD_getElem?, h3]; rfl
    refine step_any U I hp (by rw [hget]; simp) ?_ (S' := fun j => (listed.setIfInBounds i true).getD j false = true) ?_ ?_
    · intro e he hb
      rw [hpo] at he
      exact h2 e (by simpa using he) (by rw [← bindsE_eq]; exact hb)
    · intro j
      by_cases e : j = i
      · subst e
        simp [Array.getD_eq_getD_getElem?, hlt]
      · rw [getD_set_ne false (fun h => e h.symm)]
        simp [e]
    · intro m' ρ' tm' a' w' I'
      refine ihf _ m' ρ' tm' a' w' (by simpa using hsz) ?_ I'
      have := count_set (l := listed.toList) (i := i) (by rw [Array.getElem?_toList]; exact h3)
      rw [Array.toList_setIfInBounds]
      omega

/-! ### what reads -/
theorem mainsMask_bit {j : Nat} : ∀ {l : List Pt}, Nat.testBit (mainsMask E l) j = true → ∃ p ∈ l, isMain E p = true ∧ p.i = j
  | [], h => by simp [mainsMask] at h
  | p :: l, h => by
    simp only [mainsMask] at h
    cases hm : isMain E p with
    | false =>
      rw [hm] at h
      obtain ⟨q, h1, h2⟩ := mainsMask_bit (l := l) h
      exact ⟨q, by simp [h1], h2⟩
    | true =>
      rw [hm] at h
      have h' : Nat.testBit (2 ^ p.i ||| mainsMask E l) j = true := h
      rw [Nat.testBit_or, Nat.testBit_two_pow] at h'
      simp only [Bool.or_eq_true, decide_eq_true_eq] at h'
      rcases h' with h1 | h1
      · exact ⟨p, by simp, hm, h1⟩
      · obtain ⟨q, h2, h3⟩ := mainsMask_bit (l := l) h1
        exact ⟨q, by simp [h2], h3⟩

theorem readersOK_mem {mm : Nat} {last : AH} {all : List Ent} : ∀ {l : List Ent}, readersOK E ops mm last all l = true → ∀ e ∈ l, isRead E e.p.o = true → e.p.float = false → isMain E e.p = false →
    readOK E ops e (Nat.land e.p.pre mm) last all = true
  | [], h, e, he, _, _, _ => by cases he
  | x :: l, h, e, he, h1, h2, h3 => by
    simp only [readersOK, Bool.and_eq_true] at h
    rcases List.mem_cons.1 he with rfl | he
    · have := h.1
      simp only [h1, h2, h3, Bool.not_false, Bool.and_self, cond_true] at this
      exact this
    · exact readersOK_mem h.2 e he h1 h2 h3

theorem readOK_at (T : Text E ih ops n C V) {es : List Ent} (hlen : es.length = (pts E ops).length) (hes : ∀ (i : Nat) (p : Pt), (pts E ops)[i]? = some p → es[i]? = some ⟨p, C i, V i⟩) {e : Ent} {need m : Nat} (hm : m ≤ (pts E ops).length)
    (hbl : ∀ (j : Nat) (q : Pt), j < m → (pts E ops)[j]? = some q → isMain E q = true → Nat.testBit q.pre e.p.i = false) (hneed : need < 2 ^ m) :
    ∀ (l : List Ent) (k : Nat), l = es.drop k → k ≤ (pts E ops).length → (∀ (j : Nat) (q : Pt), (pts E ops)[j]? = some q → isMain E q = true → m ≤ j → k ≤ j) → readOK E ops e need (C (pts E ops).length).h l = true →
      sameAt E ops e (C m).h = true
  | [], k, hl, hk, hno, hr => by
    have hkn : k = (pts E ops).length := by
      have : (es.drop k).length = 0 := by rw [← hl]; rfl
      rw [List.length_drop] at this
      omega
    have := T.h_same hm (Nat.le_refl _) (fun j q h1 h2 hq => by
      cases hqm : isMain E q with
      | false => rfl
      | true => have := hno j q hq hqm h1; omega)
    rw [← this]
    exact hr
  | x :: l, k, hl, hk, hno, hr => by
    have hkl : k < (pts E ops).length := by
      rcases Nat.lt_or_ge k (pts E ops).length with h | h
      · exact h
      · rw [List.drop_eq_nil_of_le (by omega)] at hl; cases hl
    obtain ⟨p, hp⟩ := Text.pt (E := E) (ops := ops) k hkl
    have hx : x = ⟨p, C k, V k⟩ := by
      have h1 : (es.drop k)[0]? = some x := by rw [← hl]; rfl
      rw [List.getElem?_drop, Nat.add_zero, hes k p hp] at h1
      exact (Option.some.inj h1).symm
    have hl' : l = es.drop (k + 1) := by rw [← List.drop_drop, ← hl]; rfl
    subst hx
    have hpi := (pts_get hp).1
    simp only [readOK] at hr
    cases hpm : isMain E p with
    | false =>
      simp only [hpm, cond_false] at hr
      refine readOK_at T hlen hes hm hbl hneed l (k + 1) hl' hkl ?_ hr
      intro j q hq hqm hmj
      have h1 := hno j q hq hqm hmj
      rcases Nat.lt_or_ge k j with h | h
      · exact h
      · have : j = k := by omega
        subst this; rw [hp] at hq; cases hq; rw [hpm] at hqm; cases hqm
    | true =>
      simp only [hpm, cond_true, Bool.and_eq_true] at hr
      rcases Nat.lt_or_ge k m with h | h
      · have hb := hbl k p h hp hpm
        rw [hb] at hr
        simp only [cond_false] at hr
        refine readOK_at T hlen hes hm hbl hneed l (k + 1) hl' hkl ?_ hr.2
        intro j q hq hqm hmj
        omega
      · have h1 : Nat.ble (need + 1) (2 ^ p.i) = true := by
          rw [hpi]
          exact Nat.ble_eq_true_of_le (Nat.lt_of_lt_of_le hneed (Nat.pow_le_pow_right (by omega) h))
        rw [h1] at hr
        simp only [cond_true] at hr
        have := T.h_same h (Nat.le_of_lt hkl) (fun j q g1 g2 hq => by
          cases hqm : isMain E q with
          | false => rfl
          | true => have := hno j q hq hqm g1; omega)
        rw [← this]
        exact hr.1

/-! ### the region -/
theorem drawn_sound (ok : EnvOK E) {ih : Task → Option Res} (hih : IH E.P ih) : DrawnOK E ih := by
  intro ops n tm tm' h h' hx
  unfold drawnA at hx
  split at hx
  · rename_i hreg
    split at hx
    · rename_i es c hcs
      split at hx
      · rename_i hchk
        split at hx
        · rename_i h2 hlay
          simp only [Option.some.injEq, Prod.mk.injEq] at hx
          obtain ⟨rfl, rfl⟩ := hx
          simp only [Bool.and_eq_true] at hchk
          obtain ⟨hc1, hc2⟩ := hchk
          have hc1 := Nat.le_of_ble_eq_true hc1
          have rk := regOK_spec hreg
          obtain ⟨C, V, g1, g2, g3, g4⟩ := csteps_spec hcs
          have T : Text E ih ops n C V := ⟨fun i p hp => (g4 i p hp).1⟩
          have hbase : h.next ≤ (C 0).h.next := by rw [g1]; exact Nat.le_add_right _ _
          have hnext2 : h2.next = (C (pts E ops).length).h.next := by rw [layAll_next hlay, g2]
          have hmono := T.next_le hih (Nat.zero_le _) (Nat.le_refl (pts E ops).length)
          refine ⟨by rw [hnext2]; exact Nat.le_trans hbase hmono, ?_⟩
          intro ρ a w lo Q id hr hf ht hQ
          have U : Setup E ih ops n C V ρ h := by
            refine ⟨ok, hih, rk, T, by rw [g1], by rw [g1]; exact Nat.le_refl _, by rw [g2, g1]; exact hc1, hbase, by rw [← hnext2]; exact hf, ?_⟩
            intro i p hp h1 h2 h3 m hm hbl hpre
            have he := (g4 i p hp).2
            have hro := readersOK_mem hc2 ⟨p, C i, V i⟩ (List.mem_of_getElem? he) h1 h2 h3
            rw [← g2] at hro
            have hpi := (pts_get hp).1
            refine readOK_at T g3 (fun i p hp => (g4 i p hp).2) hm (by simp only [hpi]; exact hbl) ?_ es 0 (by simp) (Nat.zero_le _) (fun _ _ _ _ _ => Nat.zero_le _) hro
            refine Nat.lt_pow_two_of_testBit _ ?_
            intro j hj
            cases hb : Nat.testBit (Nat.land p.pre (mainsMask E (pts E ops))) j with
            | false => rfl
            | true =>
              exfalso
              have hb' : Nat.testBit (p.pre &&& mainsMask E (pts E ops)) j = true := hb
              rw [Nat.testBit_and, Bool.and_eq_true] at hb'
              obtain ⟨q, q1, q2, q3⟩ := mainsMask_bit hb'.2
              obtain ⟨k, hk⟩ := List.mem_iff_getElem?.1 q1
              have hki := (pts_get hk).1
              have : k = j := by rw [← hki, q3]
              subst this
              have := hpre k q hk q2 hb'.1
              omega
          refine wpIn_region_any ok.mixed ?_
          have hsz : (Array.replicate ops.size false).size = ops.size := by simp
          refine any_sound (ρ0 := ρ) (h0 := h) (w0 := w.drew) (ds0 := a.defers) U ?_ ops.size _ 0 ρ tm a w.drew hsz (by simp) ?_
          · intro S m ρ' tm2 a' w' hall I
            have I' := I.move U I.le (Nat.le_refl _) (by
              intro j q h1 h2 hq
              cases hqm : isMain E q with
              | false => rfl
              | true =>
                have := (I.mains j q hq hqm).1 (hall j (by rw [← pts_length (E := E)]; exact h2))
                omega)
            rw [← g2] at hlay
            obtain ⟨hr1, stp1, _⟩ := I'.lay U hlay (by
              intro x hx
              refine ⟨hx, ?_⟩
              obtain ⟨p, q1, _⟩ := T.pend_mem rk (by rw [g1]) _ (Nat.le_refl _) x hx
              exact hall _ (by rw [← pts_length (E := E)]; exact lt_length q1))
            refine hQ ρ' a' w' ((Stp.drew hr).trans stp1) ⟨I'.tr.1, ?_⟩ I'.defers
            intro t
            have := I'.slots t (pts E ops).length (Nat.le_refl _) (by
              intro j p hp _
              have hlt := lt_length hp
              exact ⟨fun _ => hlt, fun _ => hall j (by rw [← pts_length (E := E)]; exact hlt)⟩)
            rw [← g2, ← this]
            exact I'.tr.2 t
          · have hnone : ∀ j, ¬ ((Array.replicate ops.size false).getD j false = true) := by
              intro j
              rw [Array.getD_eq_getD_getElem?, Array.getElem?_replicate]
              split <;> simp
            refine ⟨fun i p hp hs => absurd hs (hnone i), Nat.zero_le _, fun j p hp hm => ⟨fun h => absurd h (hnone j), fun h => absurd h (Nat.not_lt_zero _)⟩, ht, ?_, rfl, ?_, fun f p hp hf' hs => absurd hs (hnone f), fun f g p q hp hf' hs => absurd hs (hnone f), ?_, hr.base.hsize⟩
            · intro t i hi hw
              have := T.tm_same (t := t) (i := 0) (k := i) (Nat.zero_le _) hi (by
                intro j p _ hj hp hd
                exact hnone j ((hw j p hp hd).2 hj))
              rw [this, g1]
            · rw [g1]
              exact ⟨Nat.le_add_right _ _, fun _ _ => rfl, ⟨⟨hr.base.inp, hr.base.hsize, hr.base.above⟩, hr.blk, hr.inj⟩, rfl, rfl, rfl, Nat.le_refl _, fun _ _ _ => rfl, fun b hb _ => hb⟩
            · intro f p hp hff hs
              refine hf _ (U.nm_lo hp) ?_
              rw [hnext2]
              exact Nat.lt_of_lt_of_le (U.nm_hi hp hff) hmono
        · cases hx
      · cases hx
    · cases hx
  · cases hx

/-- THE EXECUTOR IS SOUND -/
theorem sound (ok : EnvOK E) (n : Nat) : IH E.P (run E n) := (run_sound ok (fun _ h => drawn_sound ok h) n).1

end
end Go.Hx
