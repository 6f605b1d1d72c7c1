/- Values that lead to no block. -/
import Derived.Test.YtdjdiibloohddaaGreatDoorHyA
import Derived.Lib.Bytealg
import Derived.Shelf.SlIter.Nil
import Derived.Shelf.SlIterI.Nil
import Derived.KernelRfl
import Derived.ChangeSame
import Derived.Carry

/-! ## Values that lead to no block. -/
set_option linter.unusedVariables false
set_option linter.unusedSimpArgs false
namespace Go.Hx
variable [Inp]
set_option linter.unusedSectionVars false

mutual
/-- a value that leads to no block -/
def AV.ground : AV → Bool
  | .bool _ => true
  | .int _ _ => true
  | .rng _ _ _ => true
  | .any => true
  | .str _ => true
  | .nilptr => true
  | .eslice => true
  | .nilslice => true
  | .nilmap => true
  | .nilfunc => true
  | .niliface => true
  | .inp _ => true
  | .iface _ v => AV.ground v
  | .agg l => AV.grounds l
  | .tup l => AV.grounds l
  | _ => false
def AV.grounds : List AV → Bool
  | [] => true
  | a :: l => AV.ground a && AV.grounds l
end

mutual
theorem VR.ground {ρ ρ' : Ren} : ∀ {a : AV} {v : Value}, VR ρ a v → a.ground = true → VR ρ' a v
  | _, _, .bool b, _ => .bool b
  | _, _, .int k n, _ => .int k n
  | _, _, .rng h1 h2, _ => .rng h1 h2
  | _, _, .any h, _ => .any h
  | _, _, .str s, _ => .str s
  | _, _, .ptr h, g => by simp [AV.ground] at g
  | _, _, .nilptr, _ => .nilptr
  | _, _, .slice h hl, g => by simp [AV.ground] at g
  | _, _, .uslice h hl, g => by simp [AV.ground] at g
  | _, _, .eslice, _ => .eslice
  | _, _, .nilslice, _ => .nilslice
  | _, _, .map h, g => by simp [AV.ground] at g
  | _, _, .nilmap, _ => .nilmap
  | _, _, .fn h1 h2, g => by simp [AV.ground] at g
  | _, _, .yield h, g => by simp [AV.ground] at g
  | _, _, .nilfunc, _ => .nilfunc
  | _, _, .iface h, g => .iface (VR.ground h (by simpa [AV.ground] using g))
  | _, _, .niliface, _ => .niliface
  | _, _, .agg h, g => .agg (VRs.ground h (by simpa [AV.ground] using g))
  | _, _, .tup h, g => .tup (VRs.ground h (by simpa [AV.ground] using g))
  | _, _, .inp h, _ => .inp h
theorem VRs.ground {ρ ρ' : Ren} : ∀ {l : List AV} {vs : List Value}, VRs ρ l vs → AV.grounds l = true → VRs ρ' l vs
  | _, _, .nil, _ => .nil
  | _, _, .cons h hs, g => by
    simp only [AV.grounds, Bool.and_eq_true] at g
    exact .cons (VR.ground h g.1) (VRs.ground hs g.2)
end

end Go.Hx

/-! ## The two functions without a body that the runs come to. -/
set_option linter.unusedVariables false
namespace Go.Hx
variable [Inp]
set_option linter.unusedSectionVars false

theorem ext_run {P : Program} {g : FuncId} {fn : Func} {entry : Array Value → Sem Value} (hf : P.funcs[g]? = some fn) (hn : (fn.name == "runtime.NumGoroutine") = false) (hb : fn.body = none)
    (h1 : Extern.findNext fn = none) (h2 : Extern.find fn = some entry) (args : Array Value) (w : World) {x : Value} (hx : (entry args).run P w = .ok x w) : (callFunc g args).run P w = .ok (.value x) w := by
  have hn' : ¬ fn.name = "runtime.NumGoroutine" := by simpa using hn
  have hm : (Sem.run P (Sem.mark (Mark.extern g) (Sem.pure ())) w) = .ok () w := rfl
  simp [callFunc, hf, hn', hb, h1, h2, mark, hm, hx]

/-- the place of a byte in a string; how many there are -/
def ext2 (ix ct : FuncId) (f : FuncId) (args : List AV) : Option AV := match args with
  | [.str s, .int .u8 c] => if Nat.beq f ix then some (.int .i64 (Lib.indexByte s c.toNat.toUInt8)) else if Nat.beq f ct then some (.int .i64 (Lib.countByte s c.toNat.toUInt8)) else none
  | _ => none

structure ExtOK (P : Program) (ix ct : FuncId) : Prop where
  ix : ∀ fn, P.funcs[ix]? = some fn → (fn.name == "runtime.NumGoroutine") = false ∧ fn.body = none ∧ Extern.findNext fn = none ∧ Extern.find fn = some Extern.BytealgIndexByte.indexByte
  ct : ∀ fn, P.funcs[ct]? = some fn → (fn.name == "runtime.NumGoroutine") = false ∧ fn.body = none ∧ Extern.findNext fn = none ∧ Extern.find fn = some Extern.BytealgCount.count

theorem ext2_sound {P : Program} {ix ct : FuncId} (ok : ExtOK P ix ct) (g : FuncId) (fn : Func) (args : List AV) (v : AV) (hf : P.funcs[g]? = some fn) (_ : fn.body = none) (hx : ext2 ix ct g args = some v) (ρ : Ren) (w : World) (vargs : Array Value)
    (hv : VRs ρ args vargs.toList) : ∃ x, (callFunc g vargs).run P w = .ok (.value x) w ∧ VR ρ v x := by
  unfold ext2 at hx
  split at hx
  · rename_i s c
    have hva : vargs = #[.string ⟨s.toArray⟩, .int .u8 c] := by
      apply Array.toList_inj.1
      generalize vargs.toList = us at hv
      cases hv with | cons h1 h2 =>
      cases h2 with | cons h3 h4 =>
      cases h4
      cases h1
      cases h3
      rfl
    subst hva
    split at hx
    · rename_i hg
      cases hx
      obtain ⟨h1, h2, h3, h4⟩ := ok.ix fn (by rw [← beq_yes hg]; exact hf)
      refine ⟨_, ext_run hf h1 h2 h3 h4 _ w (Lib.run_indexByteString _ c w), ?_⟩
      exact .int _ _
    · split at hx
      · rename_i hg
        cases hx
        obtain ⟨h1, h2, h3, h4⟩ := ok.ct fn (by rw [← beq_yes hg]; exact hf)
        refine ⟨_, ext_run hf h1 h2 h3 h4 _ w (Lib.run_countString _ c w), ?_⟩
        exact .int _ _
      · cases hx
  · cases hx

end Go.Hx

/-! ## One value tells another; a call on a part of memory, the blocks' contents told. -/
set_option linter.unusedVariables false
set_option linter.unusedSimpArgs false
namespace Go.Hx
variable [Inp]
set_option linter.unusedSectionVars false

mutual
/-- whatever a stands for, b stands for too; b leads to no block -/
def AV.sub : AV → AV → Bool
  | .int j n, .rng k lo hi => kindEq j k && decide (lo ≤ n) && decide (n ≤ hi)
  | .rng j a b, .rng k lo hi => kindEq j k && decide (lo ≤ a) && decide (b ≤ hi)
  | .agg l, .agg m => AV.subs l m
  | .tup l, .tup m => AV.subs l m
  | a, b => AV.beq a b && b.ground
def AV.subs : List AV → List AV → Bool
  | [], [] => true
  | a :: l, b :: m => AV.sub a b && AV.subs l m
  | _, _ => false
end

theorem sub_other {ρ ρ' : Ren} {a b : AV} {v : Value} (h : (AV.beq a b && b.ground) = true) (hv : VR ρ a v) : VR ρ' b v := by
  simp only [Bool.and_eq_true] at h
  have := AV.beq_eq h.1
  subst this
  exact hv.ground h.2

mutual
theorem AV.sub_VR {ρ ρ' : Ren} : ∀ {a b : AV} {v : Value}, AV.sub a b = true → VR ρ a v → VR ρ' b v
  | .int j n, b, v, h, hv => by
    cases b <;> first
      | (simp only [AV.sub] at h; exact sub_other h hv)
      | skip
    simp only [AV.sub, Bool.and_eq_true, decide_eq_true_eq] at h
    cases hv
    have := kindEq_eq h.1.1
    subst this
    exact .rng h.1.2 h.2
  | .rng j a c, b, v, h, hv => by
    cases b <;> first
      | (simp only [AV.sub] at h; exact sub_other h hv)
      | skip
    simp only [AV.sub, Bool.and_eq_true, decide_eq_true_eq] at h
    cases hv with | rng h1 h2 =>
    have := kindEq_eq h.1.1
    subst this
    exact .rng (Int.le_trans h.1.2 h1) (Int.le_trans h2 h.2)
  | .agg l, b, v, h, hv => by
    cases b <;> first
      | (simp only [AV.sub] at h; exact sub_other h hv)
      | skip
    simp only [AV.sub] at h
    cases hv with | agg hs => exact .agg (AV.subs_VR h hs)
  | .tup l, b, v, h, hv => by
    cases b <;> first
      | (simp only [AV.sub] at h; exact sub_other h hv)
      | skip
    simp only [AV.sub] at h
    cases hv with | tup hs => exact .tup (AV.subs_VR h hs)
  | .bool x, b, v, h, hv => by simp only [AV.sub] at h; exact sub_other h hv
  | .any, b, v, h, hv => by simp only [AV.sub] at h; exact sub_other h hv
  | .str x, b, v, h, hv => by simp only [AV.sub] at h; exact sub_other h hv
  | .ptr x y, b, v, h, hv => by simp only [AV.sub] at h; exact sub_other h hv
  | .nilptr, b, v, h, hv => by simp only [AV.sub] at h; exact sub_other h hv
  | .slice .., b, v, h, hv => by simp only [AV.sub] at h; exact sub_other h hv
  | .eslice, b, v, h, hv => by simp only [AV.sub] at h; exact sub_other h hv
  | .nilslice, b, v, h, hv => by simp only [AV.sub] at h; exact sub_other h hv
  | .map x, b, v, h, hv => by simp only [AV.sub] at h; exact sub_other h hv
  | .nilmap, b, v, h, hv => by simp only [AV.sub] at h; exact sub_other h hv
  | .fn .., b, v, h, hv => by simp only [AV.sub] at h; exact sub_other h hv
  | .yield x, b, v, h, hv => by simp only [AV.sub] at h; exact sub_other h hv
  | .nilfunc, b, v, h, hv => by simp only [AV.sub] at h; exact sub_other h hv
  | .iface .., b, v, h, hv => by simp only [AV.sub] at h; exact sub_other h hv
  | .niliface, b, v, h, hv => by simp only [AV.sub] at h; exact sub_other h hv
  | .inp _, b, v, h, hv => by simp only [AV.sub] at h; exact sub_other h hv
theorem AV.subs_VR {ρ ρ' : Ren} : ∀ {l m : List AV} {vs : List Value}, AV.subs l m = true → VRs ρ l vs → VRs ρ' m vs
  | [], [], _, _, .nil => .nil
  | [], _ :: _, _, h, _ => by simp [AV.subs] at h
  | _ :: _, [], _, h, _ => by simp [AV.subs] at h
  | a :: l, b :: m, _, h, .cons hv hs => by
    simp only [AV.subs, Bool.and_eq_true] at h
    exact .cons (AV.sub_VR h.1 hv) (AV.subs_VR h.2 hs)
end

theorem AV.subs_length : ∀ {l m : List AV}, AV.subs l m = true → l.length = m.length
  | [], [], _ => rfl
  | [], _ :: _, h => by simp [AV.subs] at h
  | _ :: _, [], h => by simp [AV.subs] at h
  | a :: l, b :: m, h => by
    simp only [AV.subs, Bool.and_eq_true] at h
    simp [AV.subs_length h.2]

theorem BR.sub {ρ ρ' : Ren} {κ es : Nat} {L M : List AV} {o : Obj} (h : AV.subs L M = true) (hb : BR ρ κ (.cells L es) o) : BR ρ' κ (.cells M es) o := by
  cases hb with | cells hv hl hκ hf =>
  have e := AV.subs_length h
  rw [e] at hv hl
  exact .cells (AV.subs_VR h hv) hl hκ hf

/-! ### a call on a part of memory -/
def putAll : AH → List Nat → List ABlk → AH
  | h, n :: l, b :: m => putAll (h.put n b) l m
  | h, _, _ => h

theorem putAll_next : ∀ (l : List Nat) (m : List ABlk) (h : AH), (putAll h l m).next = h.next
  | [], m, h => by cases m <;> rfl
  | n :: l, [], h => rfl
  | n :: l, b :: m, h => by show (putAll (h.put n b) l m).next = _; rw [putAll_next l m]; rfl

theorem putAll_out : ∀ (l : List Nat) (m : List ABlk) (h : AH) (n : Nat), n ∉ l → (putAll h l m).get n = h.get n
  | [], m, h, n, _ => by cases m <;> rfl
  | k :: l, [], h, n, _ => rfl
  | k :: l, b :: m, h, n, hn => by
    show (putAll (h.put k b) l m).get n = _
    rw [putAll_out l m _ n (fun e => hn (by simp [e])), AH.get_put, if_neg (fun e => hn (by simp [e]))]

theorem putAll_in : ∀ (l : List Nat) (m : List ABlk) (h : AH) (i n : Nat) (b : ABlk), l.Nodup → l[i]? = some n → m[i]? = some b → (putAll h l m).get n = some b
  | [], m, h, i, n, b, _, hl, _ => by simp at hl
  | k :: l, [], h, i, n, b, _, _, hm => by simp at hm
  | k :: l, c :: m, h, 0, n, b, nd, hl, hm => by
    simp at hl hm; subst hl hm
    show (putAll (h.put k c) l m).get k = _
    rw [putAll_out l m _ k (List.nodup_cons.1 nd).1, AH.get_put, if_pos rfl]
  | k :: l, c :: m, h, i + 1, n, b, nd, hl, hm => by
    show (putAll (h.put k c) l m).get n = _
    exact putAll_in l m _ i n b (List.nodup_cons.1 nd).2 (by simpa using hl) (by simpa using hm)

theorem nodup_get {l : List Nat} (nd : l.Nodup) {i j n : Nat} (hi : l[i]? = some n) (hj : l[j]? = some n) : i = j := by
  induction l generalizing i j with
  | nil => simp at hi
  | cons a l ih =>
    obtain ⟨h1, h2⟩ := List.nodup_cons.1 nd
    cases i with
    | zero => cases j with
      | zero => rfl
      | succ j => simp at hi hj; subst hi; exact absurd (List.mem_of_getElem? hj) h1
    | succ i => cases j with
      | zero => simp at hi hj; subst hj; exact absurd (List.mem_of_getElem? hi) h1
      | succ j =>
        have := ih h2 (i := i) (j := j) (by simpa using hi) (by simpa using hj)
        omega

def memOf (bs : List ABlk) : AH := ⟨Tr.ofListFrom bs 0 .nil, bs.length⟩
theorem memOf_get (bs : List ABlk) (n : Nat) : (memOf bs).get n = bs[n]? := by
  show (Tr.ofListFrom bs 0 .nil).get n = _
  rw [Tr.get_ofListFrom]
  by_cases h : n < bs.length
  · rw [if_pos (by omega)]; simp
  · rw [if_neg (by omega), List.getElem?_eq_none (by omega)]; rfl

theorem sub_sum {E : Env} (ok : EnvOK E) {n : Nat} {f : FuncId} {args args0 : List AV} {v : AV} {h h1 : AH} {m0 m1 : List ABlk} {θ : List Nat}
    (hrun : run E n (.call f args0 (memOf m0)) = some (.call v h1)) (hlen : θ.length = m0.length) (hlen1 : m1.length = m0.length) (nd : θ.Nodup)
    (hin : ∀ (i : Nat) (B : ABlk), m0[i]? = some B → ∃ nm L L0 es, θ[i]? = some nm ∧ h.get nm = some (.cells L es) ∧ B = .cells L0 es ∧ AV.subs L L0 = true)
    (hout : ∀ (i : Nat) (B : ABlk), m1[i]? = some B → h1.get i = some B ∧ ∃ M es, B = .cells M es ∧ AV.grounds M = true)
    (hargs : ∀ (ρ ρ2 : Ren) (us : List Value), (∀ i nm, θ[i]? = some nm → ρ2 i = ρ nm) → VRs ρ args us → VRs ρ2 args0 us) (gv : v.ground = true) : SumOK E.P f args h v (putAll h θ m1) := by
  have hs := (sound ok n _ _ hrun).2
  intro ρ w vargs hr hf hv
  let ρ2 : Ren := fun i => match θ[i]? with
    | some nm => ρ nm
    | none => none
  have hρ2 : ∀ i nm, θ[i]? = some nm → ρ2 i = ρ nm := fun i nm hi => by simp only [ρ2, hi]
  have hr2 : HR ρ2 (memOf m0) w := by
    refine ⟨⟨hr.base.inp, hr.base.hsize, fun i B b κ hB e => ?_⟩, ?_, ?_⟩
    · rw [memOf_get] at hB
      obtain ⟨nm, L, L0, es, h2, h3, _, _⟩ := hin i B hB
      rw [hρ2 i nm h2] at e
      exact hr.base.above nm _ b κ h3 e
    · intro i B hB
      rw [memOf_get] at hB
      obtain ⟨nm, L, L0, es, h2, h3, rfl, h5⟩ := hin i B hB
      obtain ⟨b, κ, o, e1, e2, e3⟩ := hr.blk nm _ h3
      exact ⟨b, κ, o, by rw [hρ2 i nm h2]; exact e1, e2, e3.sub h5⟩
    · intro i j B B' b κ κ' hB hB' e1 e2
      rw [memOf_get] at hB hB'
      obtain ⟨nm, L, L0, es, h2, h3, rfl, h5⟩ := hin i B hB
      obtain ⟨nm', L', L0', es', h2', h3', rfl, h5'⟩ := hin j B' hB'
      rw [hρ2 i nm h2] at e1
      rw [hρ2 j nm' h2'] at e2
      have := hr.inj nm nm' _ _ b κ κ' h3 h3' e1 e2
      subst this
      exact nodup_get nd h2 h2'
  have hin2 : ∀ b, InH ρ2 (memOf m0) b → ∃ (i nm κ : Nat), θ[i]? = some nm ∧ ρ nm = some (b, κ) ∧ InH ρ h b := by
    rintro b ⟨i, B, κ, hB, e⟩
    rw [memOf_get] at hB
    obtain ⟨nm, L, L0, es, h2, h3, _, h5⟩ := hin i B hB
    rw [hρ2 i nm h2] at e
    exact ⟨i, nm, κ, h2, e, nm, _, κ, h3, e⟩
  have fresh2 : Fresh ρ2 (memOf m0).next h1.next := by
    intro i h2 _
    have h2' : m0.length ≤ i := h2
    simp only [ρ2, List.getElem?_eq_none (show θ.length ≤ i by omega)]
  refine (hs ρ2 w vargs hr2 fresh2 (hargs ρ ρ2 _ hρ2 hv)).mono ?_
  rintro e w' ⟨x, ρ', rfl, st, hx⟩
  refine ⟨x, ρ, rfl, Stp.mkB hr ?_ (fun _ _ => rfl) ?_ ?_ st.os st.tape st.out st.size ?_ ?_, hx.ground gv⟩
  · rw [putAll_next]; exact Nat.le_refl _
  · intro k a hk
    by_cases hkθ : k ∈ θ
    · obtain ⟨i, hi⟩ := List.mem_iff_getElem?.1 hkθ
      have hil : i < m1.length := by
        have := (List.getElem?_eq_some_iff.1 hi).1
        omega
      have hB : m1[i]? = some m1[i] := by simp [hil]
      rw [putAll_in θ m1 h i k _ nd hi hB] at hk
      cases hk
      obtain ⟨g1, M, es, g2, g3⟩ := hout i _ hB
      obtain ⟨b, κ, o, e1, e2, e3⟩ := st.hr.blk i _ g1
      rw [g2] at e3
      have hkeep : ρ' i = ρ2 i := st.keep i (by
        have : (memOf m0).next = m0.length := rfl
        omega)
      rw [hkeep, hρ2 i k hi] at e1
      refine ⟨b, κ, o, e1, e2, ?_⟩
      rw [g2]
      cases e3 with | cells hv2 hl hκ hfz => exact .cells (VRs.ground hv2 g3) hl hκ hfz
    · rw [putAll_out θ m1 h k hkθ] at hk
      obtain ⟨b, κ, o, e1, e2, e3⟩ := hr.blk k a hk
      refine ⟨b, κ, o, e1, ?_, e3⟩
      rw [st.frame b (Array.getElem?_eq_some_iff.1 e2).1 ?_]
      · exact e2
      · intro hi
        obtain ⟨i, nm, κ2, h2, h3, _⟩ := hin2 b hi
        obtain ⟨B, hB⟩ : ∃ B, m0[i]? = some B := by
          have := (List.getElem?_eq_some_iff.1 h2).1
          exact ⟨m0[i]'(by omega), by simp⟩
        obtain ⟨nm', L, L0, es, g2, g3, _, _⟩ := hin i B hB
        rw [h2] at g2; cases g2
        have := hr.inj k nm _ _ b κ κ2 hk g3 e1 h3
        subst this
        exact hkθ (List.mem_of_getElem? h2)
  · intro k m a a' b κ κ' hk hm e1 e2
    have dom : ∀ k a, (putAll h θ m1).get k = some a → ∃ a0, h.get k = some a0 := by
      intro k a hk
      by_cases hkθ : k ∈ θ
      · obtain ⟨i, hi⟩ := List.mem_iff_getElem?.1 hkθ
        obtain ⟨B, hB⟩ : ∃ B, m0[i]? = some B := by
          have := (List.getElem?_eq_some_iff.1 hi).1
          exact ⟨m0[i]'(by omega), by simp⟩
        obtain ⟨nm', L, L0, es, g2, g3, _, _⟩ := hin i B hB
        rw [hi] at g2; cases g2
        exact ⟨_, g3⟩
      · rw [putAll_out θ m1 h k hkθ] at hk; exact ⟨a, hk⟩
    obtain ⟨a0, h2⟩ := dom k a hk
    obtain ⟨a1, h3⟩ := dom m a' hm
    exact hr.inj k m a0 a1 b κ κ' h2 h3 e1 e2
  · intro b hb hni
    exact st.frame b hb (fun hi => by obtain ⟨_, _, _, _, _, h4⟩ := hin2 b hi; exact hni h4)
  · rintro b ⟨k, a, κ, hk, e⟩ _
    by_cases hkθ : k ∈ θ
    · obtain ⟨i, hi⟩ := List.mem_iff_getElem?.1 hkθ
      obtain ⟨B, hB⟩ : ∃ B, m0[i]? = some B := by
        have := (List.getElem?_eq_some_iff.1 hi).1
        exact ⟨m0[i]'(by omega), by simp⟩
      obtain ⟨nm', L, L0, es, g2, g3, _, _⟩ := hin i B hB
      rw [hi] at g2; cases g2
      exact ⟨k, _, κ, g3, e⟩
    · rw [putAll_out θ m1 h k hkθ] at hk
      exact ⟨k, a, κ, hk, e⟩

end Go.Hx

/-! ## Tables of calls on a part of memory: what the executor may take for a call. -/
set_option linter.unusedVariables false
set_option linter.unusedSimpArgs false
namespace Go.Hx
variable [Inp]
set_option linter.unusedSectionVars false

/-- a call that has been run: the blocks that it is handed are named 0, 1, .. in the order of the arguments -/
structure SubE where
  f : FuncId
  args : List AV
  m0 : List (List AV × Nat)
  m1 : List (List AV × Nat)
  v : AV

def blks (l : List (List AV × Nat)) : List ABlk := l.map fun p => .cells p.1 p.2

def SubE.ok (E : Env) (p : SubE) : Prop :=
  p.v.ground = true ∧ p.m1.length = p.m0.length ∧ ∃ n h1, run E n (.call p.f p.args (memOf (blks p.m0))) = some (.call p.v h1) ∧
    ∀ (i : Nat) (L : List AV) (es : Nat), p.m1[i]? = some (L, es) → h1.get i = some (.cells L es) ∧ AV.grounds L = true

/-- do the arguments fit? the names that they bring -/
def fits : List AV → List AV → Nat → Option (List Nat)
  | [], [], _ => some []
  | a :: l, b :: m, i => match a, b with
    | .ptr n off, .ptr k off' => if Nat.beq k i && Nat.beq off off' then (match fits l m (i + 1) with
        | some r => some (n :: r)
        | none => none) else none
    | .slice n off len kn c, .slice k off' len' kn' c' => if Nat.beq k i && Nat.beq off off' && Nat.beq len len' && kn == kn' && Nat.beq c c' then (match fits l m (i + 1) with
        | some r => some (n :: r)
        | none => none) else none
    | a, b => if AV.sub a b then fits l m i else none
  | _, _, _ => none

theorem fits_sound {ρ ρ2 : Ren} : ∀ {l m : List AV} {i : Nat} {r : List Nat} {us : List Value}, fits l m i = some r → (∀ j nm, r[j]? = some nm → ρ2 (i + j) = ρ nm) → VRs ρ l us → VRs ρ2 m us
  | [], [], i, r, us, h, hr, hv => by cases hv; exact .nil
  | [], _ :: _, i, r, us, h, hr, hv => by simp [fits] at h
  | _ :: _, [], i, r, us, h, hr, hv => by simp [fits] at h
  | a :: l, b :: m, i, r, us, h, hr, hv => by
    cases hv with | cons h1 h2 =>
    unfold fits at h
    split at h
    · rename_i n off k off'
      split at h
      · rename_i hc
        simp only [Bool.and_eq_true] at hc
        split at h
        · rename_i r' hr'
          cases h
          have e1 := beq_yes hc.1
          have e2 := beq_yes hc.2
          subst e1 e2
          refine .cons ?_ (fits_sound hr' (fun j nm hj => by have := hr (j + 1) nm (by simpa using hj); rw [← this]; congr 1; omega) h2)
          cases h1 with | ptr hp =>
          exact .ptr (by have := hr 0 n (by simp); rw [Nat.add_zero] at this; rw [this]; exact hp)
        · cases h
      · cases h
    · rename_i n off len kn c k off' len' kn' c'
      split at h
      · rename_i hc
        simp only [Bool.and_eq_true] at hc
        obtain ⟨⟨⟨⟨c1, c2⟩, c3⟩, c4⟩, c5⟩ := hc
        split at h
        · rename_i r' hr'
          cases h
          have e1 := beq_yes c1
          have e2 := beq_yes c2
          have e3 := beq_yes c3
          have e4 : kn = kn' := by simpa using c4
          have e5 := beq_yes c5
          subst e1 e2 e3 e4 e5
          refine .cons ?_ (fits_sound hr' (fun j nm hj => by have := hr (j + 1) nm (by simpa using hj); rw [← this]; congr 1; omega) h2)
          cases h1 with
          | slice hp hl => exact .slice (by have := hr 0 n (by simp); rw [Nat.add_zero] at this; rw [this]; exact hp) hl
          | uslice hp hl => exact .uslice (by have := hr 0 n (by simp); rw [Nat.add_zero] at this; rw [this]; exact hp) hl
        · cases h
      · cases h
    · split at h
      · rename_i hs
        exact .cons (AV.sub_VR hs h1) (fits_sound h hr h2)
      · cases h

/-- do the blocks fit? -/
def blksFit (h : AH) : List Nat → List (List AV × Nat) → Bool
  | [], [] => true
  | n :: l, (L0, es) :: m => (match h.get n with
    | some (.cells L es') => Nat.beq es' es && AV.subs L L0
    | _ => false) && blksFit h l m
  | _, _ => false

theorem blksFit_length {h : AH} : ∀ {l : List Nat} {m : List (List AV × Nat)}, blksFit h l m = true → l.length = m.length
  | [], [], _ => rfl
  | [], _ :: _, h => by simp [blksFit] at h
  | _ :: _, [], h => by simp [blksFit] at h
  | n :: l, (L0, es) :: m, h => by
    simp only [blksFit, Bool.and_eq_true] at h
    simp [blksFit_length h.2]

theorem blksFit_get {h : AH} : ∀ {l : List Nat} {m : List (List AV × Nat)}, blksFit h l m = true → ∀ (i : Nat) (B : ABlk), (blks m)[i]? = some B →
    ∃ nm L L0 es, l[i]? = some nm ∧ h.get nm = some (.cells L es) ∧ B = .cells L0 es ∧ AV.subs L L0 = true
  | [], [], _, i, B, hB => by simp [blks] at hB
  | [], _ :: _, h, i, B, hB => by simp [blksFit] at h
  | _ :: _, [], h, i, B, hB => by simp [blksFit] at h
  | n :: l, (L0, es) :: m, h, i, B, hB => by
    simp only [blksFit, Bool.and_eq_true] at h
    cases i with
    | zero =>
      simp [blks] at hB
      have h1 := h.1
      split at h1
      · rename_i L es' hg
        simp only [Bool.and_eq_true] at h1
        have e := beq_yes h1.1
        subst e
        exact ⟨n, L, L0, es', rfl, hg, hB.symm, h1.2⟩
      · cases h1
    | succ i => exact blksFit_get h.2 i B (by simpa [blks] using hB)

def nodupN : List Nat → Bool
  | [] => true
  | x :: l => !memN x l && nodupN l
theorem nodupN_sound : ∀ {l : List Nat}, nodupN l = true → l.Nodup
  | [], _ => List.nodup_nil
  | x :: l, h => by
    simp only [nodupN, Bool.and_eq_true, Bool.not_eq_true'] at h
    refine List.nodup_cons.2 ⟨fun hm => ?_, nodupN_sound h.2⟩
    rw [← memN_iff] at hm
    rw [hm] at h; cases h.1

/-- what a table says of a call -/
def look (f : FuncId) (args : List AV) (h : AH) : List SubE → Option (AV × AH)
  | [] => none
  | p :: T => if Nat.beq p.f f then (match fits args p.args 0 with
      | some θ => if nodupN θ && blksFit h θ p.m0 then some (p.v, putAll h θ (blks p.m1)) else look f args h T
      | none => look f args h T) else look f args h T

theorem look_sound {E : Env} (ok : EnvOK E) {f : FuncId} {args : List AV} {h h' : AH} {v : AV} : ∀ {T : List SubE}, (∀ p ∈ T, p.ok E) → look f args h T = some (v, h') → h.next ≤ h'.next ∧ SumOK E.P f args h v h'
  | [], _, hx => by cases hx
  | p :: T, hT, hx => by
    simp only [look] at hx
    split at hx
    · rename_i hf
      have hf := beq_yes hf
      split at hx
      · rename_i θ hθ
        split at hx
        · rename_i hc
          simp only [Bool.and_eq_true] at hc
          cases hx
          refine ⟨by rw [putAll_next]; exact Nat.le_refl _, ?_⟩
          obtain ⟨g1, g2, n, h1, g3, g4⟩ := hT p (by simp)
          rw [← hf]
          refine sub_sum ok g3 (by rw [blksFit_length hc.2]; simp [blks]) (by simp [blks, g2]) (nodupN_sound hc.1) (blksFit_get hc.2) ?_ ?_ g1
          · intro i B hB
            simp only [blks, List.getElem?_map, Option.map_eq_some_iff] at hB
            obtain ⟨⟨L, es⟩, e1, rfl⟩ := hB
            obtain ⟨k1, k2⟩ := g4 i L es e1
            exact ⟨k1, L, es, rfl, k2⟩
          · intro ρ ρ2 us hρ hv
            exact fits_sound hθ (fun j nm hj => by rw [Nat.zero_add]; exact hρ j nm hj) hv
        · exact look_sound ok (fun q hq => hT q (by simp [hq])) hx
      · exact look_sound ok (fun q hq => hT q (by simp [hq])) hx
    · exact look_sound ok (fun q hq => hT q (by simp [hq])) hx

/-- an executor that takes a table first -/
def Env.with (E : Env) (T : List SubE) : Env := { E with sum := fun f args h => match look f args h T with
  | some r => some (some r)
  | none => E.sum f args h }

theorem Env.with_ok {E : Env} (ok : EnvOK E) {T : List SubE} (hT : ∀ p ∈ T, p.ok E) : EnvOK (E.with T) where
  mixed := ok.mixed
  num := ok.num
  ext := ok.ext
  sum f args h v h' hx := by
    have hx' : (match look f args h T with
      | some r => some (some r)
      | none => E.sum f args h : Option (Option (AV × AH))) = some (some (v, h')) := hx
    split at hx'
    · rename_i r hr
      cases hx'
      exact look_sound ok hT hr
    · exact ok.sum f args h v h' hx'

end Go.Hx

/-! ## slices.Sorted at what maps.Keys hands back: what the executor may take for such a call; the sorts' contracts are a premise. -/
set_option linter.unusedVariables false
set_option linter.unusedSimpArgs false
namespace Go.Hx
variable [Inp]
set_option linter.unusedSectionVars false
open Go.RowKit Go.Maps Go.Sort Go.Shelf Go.Proofs
open Go.WideElems (rg)

/-! ### blocks of a call's own -/
theorem Stp.below {ρ : Ren} {h : AH} {w w' : World} (hr : HR ρ h w) (hb : Below w.heap.size w w') : Stp ρ h w ρ h w' := by
  refine Stp.mkB hr (Nat.le_refl _) (fun _ _ => rfl) ?_ hr.inj hb.os hb.tape hb.output hb.size (fun b hlt _ => hb.block b hlt) (fun b hb' _ => hb')
  intro n a hn
  obtain ⟨b, κ, o, h1, h2, h3⟩ := hr.blk n a hn
  exact ⟨b, κ, o, h1, by rw [hb.block b (Array.getElem?_eq_some_iff.1 h2).1]; exact h2, h3⟩

theorem Stp.fresh_block {ρ : Ren} {h : AH} {w w' : World} (hr : HR ρ h w) (f : ρ h.next = none) (hb : Below w.heap.size w w') {g κ : Nat} {a : ABlk} {o : Obj} (hg : w.heap.size ≤ g) (ho : w'.heap[g]? = some o)
    (hbr : BR (ρ.with h.next g κ) κ a o) : Stp ρ h w (ρ.with h.next g κ) (h.new a) w' := by
  have ext := Ren.with_ext (b := g) (κ := κ) f
  refine Stp.mkB hr (Nat.le_succ _) ?_ ?_ ?_ hb.os hb.tape hb.output hb.size (fun b hlt _ => hb.block b hlt) ?_
  · intro n hn
    have : n ≠ h.next := fun e => hn (by subst e; exact ⟨Nat.le_refl _, Nat.lt_succ_self _⟩)
    simp [Ren.with, this]
  · intro n x hn
    rw [AH.get_new] at hn
    by_cases e : n = h.next
    · rw [if_pos e] at hn; cases hn
      subst e
      exact ⟨g, κ, o, Ren.with_same _ _ _ _, ho, hbr⟩
    · rw [if_neg e] at hn
      obtain ⟨b, κ', o', h1, h2, h3⟩ := hr.blk n x hn
      exact ⟨b, κ', o', ext _ _ h1, by rw [hb.block b (Array.getElem?_eq_some_iff.1 h2).1]; exact h2, h3.ext ext⟩
  · have old : ∀ n x b κ', h.get n = some x → ρ.with h.next g κ n = some (b, κ') → n ≠ h.next → ρ n = some (b, κ') ∧ b < w.heap.size := by
      intro n x b κ' hn he hne
      have e1 : ρ n = some (b, κ') := by simpa [Ren.with, hne] using he
      exact ⟨e1, hr.lt ⟨n, x, κ', hn, e1⟩⟩
    intro n m x y b κ1 κ2 hn hm e1 e2
    rw [AH.get_new] at hn hm
    by_cases en : n = h.next
    · by_cases em : m = h.next
      · rw [en, em]
      · rw [if_neg em] at hm
        have := (old m y b κ2 hm e2 em).2
        rw [en, Ren.with_same] at e1
        cases e1
        omega
    · rw [if_neg en] at hn
      obtain ⟨g1, g2⟩ := old n x b κ1 hn e1 en
      by_cases em : m = h.next
      · rw [em, Ren.with_same] at e2
        cases e2
        omega
      · rw [if_neg em] at hm
        obtain ⟨g3, g4⟩ := old m y b κ2 hm e2 em
        exact hr.inj n m x y b κ1 κ2 hn hm g1 g3
  · rintro b ⟨n, x, κ', hn, e⟩ hlt
    rw [AH.get_new] at hn
    by_cases en : n = h.next
    · rw [en, Ren.with_same] at e
      cases e
      omega
    · rw [if_neg en] at hn
      exact ⟨n, x, κ', hn, by simpa [Ren.with, en] using e⟩

/-! ### keys that are strings -/
theorem bytesLess_iff : ∀ (x y : List UInt8), bytesLess x y = true ↔ x < y
  | _, [] => by simp [bytesLess]
  | [], b :: y => by simp [bytesLess]
  | a :: x, b :: y => by
    simp only [bytesLess, Bool.or_eq_true, Bool.and_eq_true, decide_eq_true_eq, beq_iff_eq, List.cons_lt_cons_iff, bytesLess_iff x y]

def insK (x : List UInt8) : List (List UInt8) → List (List UInt8)
  | [] => [x]
  | y :: l => bif bytesLess x y then x :: y :: l else y :: insK x l

theorem insK_perm (x : List UInt8) : ∀ l, (insK x l).Perm (x :: l)
  | [] => .refl _
  | y :: l => by
    unfold insK
    cases bytesLess x y
    · exact ((insK_perm x l).cons y).trans (.swap x y l)
    · exact .refl _

/-- a string map's keys, sorted as they come; the births below the clock, each another -/
def keysK : List (AV × AV × Nat) → Option (List (List UInt8))
  | [] => some []
  | (.str s, _, _) :: l => match keysK l with
    | some m => if Nat.ble s.length 1000000 then some (insK s m) else none
    | none => none
  | _ => none

def risingK : List (List UInt8) → Bool
  | [] => true
  | x :: l => (match l with
    | [] => true
    | y :: _ => bytesLess x y) && risingK l

theorem risingK_pw : ∀ {l : List (List UInt8)}, risingK l = true → l.Pairwise (fun x y => x < y)
  | [], _ => .nil
  | [x], _ => by simp
  | x :: y :: l, h => by
    simp only [risingK, Bool.and_eq_true] at h
    have ih : (y :: l).Pairwise (fun x y => x < y) := risingK_pw (l := y :: l) (by simp only [risingK, Bool.and_eq_true]; exact h.2)
    have h1 := (bytesLess_iff x y).1 h.1
    refine .cons ?_ ih
    intro z hz
    rcases List.mem_cons.1 hz with rfl | hz
    · exact h1
    · exact List.lt_trans h1 ((List.pairwise_cons.1 ih).1 z hz)

def birthsOK (clock : Nat) : List (AV × AV × Nat) → List Nat → Bool
  | [], _ => true
  | (_, _, b) :: l, seen => Nat.ble (b + 1) clock && !memN b seen && birthsOK clock l (b :: seen)

theorem birthsOK_sound {ρ : Ren} {clock : Nat} : ∀ {l : List (AV × AV × Nat)} {es : List MapEntry} {seen : List Nat}, birthsOK clock l seen = true → EVR ρ l es →
    (∀ x ∈ es, x.born < clock) ∧ (es.map (·.born)).Nodup ∧ ∀ x ∈ es, x.born ∉ seen
  | [], _, seen, _, .nil => ⟨by simp, by simp, by simp⟩
  | (k, v, b) :: l, _, seen, h, .cons (es := es) hk hv hs => by
    simp only [birthsOK, Bool.and_eq_true, Bool.not_eq_true'] at h
    obtain ⟨⟨h1, h2⟩, h3⟩ := h
    obtain ⟨i1, i2, i3⟩ := birthsOK_sound h3 hs
    have hb : b < clock := Nat.le_of_ble_eq_true h1
    have hm : b ∉ seen := fun hm => by rw [← memN_iff] at hm; rw [hm] at h2; cases h2
    refine ⟨?_, ?_, ?_⟩
    · intro x hx
      rcases List.mem_cons.1 hx with rfl | hx
      · exact hb
      · exact i1 x hx
    · rw [List.map_cons, List.nodup_cons]
      refine ⟨fun hx => ?_, i2⟩
      obtain ⟨x, hx, e⟩ := List.mem_map.1 hx
      exact i3 x hx (by rw [e]; exact List.mem_cons_self)
    · intro x hx
      rcases List.mem_cons.1 hx with rfl | hx
      · exact hm
      · exact fun hm => i3 x hx (List.mem_cons_of_mem _ hm)

theorem keysK_sound {ρ : Ren} {P : Program} {kt : TypeId} (hk : P.underlying kt = some .string) : ∀ {l : List (AV × AV × Nat)} {es : List MapEntry} {ks : List (List UInt8)}, keysK l = some ks → EVR ρ l es →
    ∃ ss : List (List UInt8), ss.Perm ks ∧ es.map (·.key) = ss.map encStr ∧ (∀ s ∈ ss, s.length ≤ maxLen) ∧ es.length = l.length
  | [], _, ks, h, .nil => by
    simp only [keysK] at h; cases h
    exact ⟨[], .refl _, rfl, by simp, rfl⟩
  | (k, v, b) :: l, _, ks, h, .cons (es := es) hkv hv hs => by
    unfold keysK at h
    split at h
    · rename_i he; cases he
    · rename_i s v' b' l' he
      cases he
      split at h
      · rename_i m hm
        split at h
        · rename_i hle
          cases h
          obtain ⟨ss, i1, i2, i3, i4⟩ := keysK_sound hk hm hs
          cases hkv
          refine ⟨s :: ss, (i1.cons s).trans (insK_perm s m).symm, ?_, ?_, by simp [i4]⟩
          · rw [List.map_cons, List.map_cons, i2]
          · intro x hx
            rcases List.mem_cons.1 hx with rfl | hx
            · have := Nat.le_of_ble_eq_true hle
              have h2 : 1000000 ≤ maxLen := by decide
              omega
            · exact i3 x hx
        · cases h
      · cases h
    · cases h

/-- slices.Sorted's contract at keys that are strings -/
def SortedS (P : Program) (f g : FuncId) (kt : TypeId) : Prop :=
  ∀ (b nn q : Nat) (D0 : DataW Unit) (R : Value → Option (DataW Unit × List MemPlace)) (w : World), q < w.heap.size → w.cell? ⟨q, 0, none⟩ = some (.map (some b)) → w.ownsMap P kt R b nn D0 → Maps.size D0 ≤ maxLen → Maps.size D0 * 16 ≤ 140737488355328 →
    CallsIn Fence.wide 5 P f #[.func (.func g) #[] #[.pointer (some ⟨q, 0, none⟩)]] w fun e w' => ∃ (v : Value) (ss : List (List UInt8)), e = .returned v ∧ ss.Perm (strKeys D0) ∧
      w'.ownsRow w.heap.size kt 1 v ss.length ((ss.mergeSort (fun x y => decide (x ≤ y))).map encStr) ∧ (v = .slice none 0 0 ↔ ss = []) ∧ Below w.heap.size w w'

def SortedI (P : Program) (f g : FuncId) (kt : TypeId) : Prop :=
  ∀ (b nn q : Nat) (D0 : DataW Unit) (R : Value → Option (DataW Unit × List MemPlace)) (w : World), q < w.heap.size → w.cell? ⟨q, 0, none⟩ = some (.map (some b)) → w.ownsMap P kt R b nn D0 → Maps.size D0 ≤ maxLen → Maps.size D0 * 8 ≤ 140737488355328 →
    CallsIn Fence.wide 5 P f #[.func (.func g) #[] #[.pointer (some ⟨q, 0, none⟩)]] w fun e w' => ∃ (v : Value) (ss : List Int), e = .returned v ∧ ss.Perm (intKeys D0) ∧
      w'.ownsRow w.heap.size kt 1 v ss.length ((ss.mergeSort (fun x y => decide (x ≤ y))).map encZ) ∧ (v = .slice none 0 0 ↔ ss = []) ∧ Below w.heap.size w w'

/-- what a call of slices.Sorted comes to -/
def sortedA (keys : List (AV × AV × Nat) → Option (List AV)) (gs : List FuncId) (args : List AV) (h : AH) : Option (AV × AH) :=
  match args with
  | [.fn g [] [.ptr q 0]] => if memN g gs then (match h.get q with
    | some (.cells (.map m :: _) _) => match h.get m with
      | some (.map es clock) => if birthsOK clock es [] && Nat.ble es.length 100000 then (match keys es with
        | some [] => some (.nilslice, h)
        | some l => some (.slice h.next 0 l.length false 0, h.new (.cells l 1))
        | none => none) else none
      | _ => none
    | _ => none) else none
  | _ => none

def keysS (es : List (AV × AV × Nat)) : Option (List AV) := match keysK es with
  | some ks => if risingK ks then some (ks.map .str) else none
  | none => none

/-- the map that a call of slices.Sorted goes over, in the world -/
theorem sortedA_open {ρ : Ren} {keys : List (AV × AV × Nat) → Option (List AV)} {gs : List FuncId} {args : List AV} {h h' : AH} {v : AV} (hx : sortedA keys gs args h = some (v, h')) {w : World} {vargs : Array Value} (hr : HR ρ h w)
    (hv : VRs ρ args vargs.toList) : ∃ (g bq bm : Nat) (es : List (AV × AV × Nat)) (clock : Nat) (a : Array MapEntry) (l : List AV), g ∈ gs ∧ vargs = #[.func (.func g) #[] #[.pointer (some ⟨bq, 0, none⟩)]] ∧ bq < w.heap.size ∧
      w.cell? ⟨bq, 0, none⟩ = some (.map (some bm)) ∧ w.heap[bm]? = some (.map a clock) ∧ EVR ρ es a.toList ∧ birthsOK clock es [] = true ∧ es.length ≤ 100000 ∧ keys es = some l ∧
      ((l = [] ∧ v = .nilslice ∧ h' = h) ∨ (l ≠ [] ∧ v = .slice h.next 0 l.length false 0 ∧ h' = h.new (.cells l 1))) := by
  unfold sortedA at hx
  split at hx
  · rename_i g q
    split at hx
    · rename_i hg
      split at hx
      · rename_i m rest es1 hq
        split at hx
        · rename_i es clock hm
          split at hx
          · rename_i hc
            simp only [Bool.and_eq_true] at hc
            have hlen := Nat.le_of_ble_eq_true hc.2
            have hva : ∃ bq κ, ρ q = some (bq, κ) ∧ vargs = #[.func (.func g) #[] #[.pointer (some ⟨bq, 0, none⟩)]] := by
              generalize hus : vargs.toList = us at hv
              cases hv with | cons h1 h2 =>
              cases h2
              cases h1 with | fn hf hcap =>
              rename_i fa fc
              generalize hcs : fc.toList = cs at hcap
              generalize hfs : fa.toList = fs at hf
              cases hf
              cases hcap with | cons c1 c2 =>
              cases c2
              cases c1 with | ptr hp =>
              refine ⟨_, _, hp, ?_⟩
              have e1 : fa = #[] := Array.toList_inj.1 hfs
              have e2 : fc = #[.pointer (some ⟨_, 0, none⟩)] := Array.toList_inj.1 hcs
              apply Array.toList_inj.1
              rw [hus, e1, e2]
            obtain ⟨bq, κq, hρq, hva⟩ := hva
            obtain ⟨b2, κ2, o2, e1, e2, e3⟩ := hr.blk q _ hq
            rw [hρq] at e1; cases e1
            obtain ⟨bm, κm, om, f1, f2, f3⟩ := hr.blk m _ hm
            cases f3 with | map hev =>
            rename_i a0
            have hcell : w.cell? ⟨bq, 0, none⟩ = some (.map (some bm)) := by
              cases e3 with | cells hvs hl hκ hf =>
              rename_i cs t lo hi
              obtain ⟨x, hx0, hxr⟩ := hvs.get (i := 0) rfl
              cases hxr with | map hρm =>
              rw [f1] at hρm; cases hρm
              have : cs[0]? = some (.map (some bm)) := by
                rw [List.getElem?_take] at hx0
                split at hx0
                · simpa using hx0
                · cases hx0
              simp [World.cell?, e2, this]
            refine ⟨g, bq, bm, es, clock, a0, ?_⟩
            have hgm : g ∈ gs := by rw [← memN_iff]; exact hg
            have hbq := (Array.getElem?_eq_some_iff.1 e2).1
            split at hx
            · rename_i hk
              cases hx
              exact ⟨[], hgm, hva, hbq, hcell, f2, hev, hc.1, hlen, hk, .inl ⟨rfl, rfl, rfl⟩⟩
            · rename_i l hne hk
              cases hx
              exact ⟨l, hgm, hva, hbq, hcell, f2, hev, hc.1, hlen, hk, .inr ⟨fun e => hne e, rfl, rfl⟩⟩
            · cases hx
          · cases hx
        · cases hx
      · cases hx
    · cases hx
  · cases hx

/-- what comes back: the slice, its block -/
theorem sorted_back {ρ : Ren} {h h' : AH} {w w' : World} {kt : TypeId} {v : AV} {x : Value} {l : List AV} {xs : List Value} (hr : HR ρ h w) (hf : Fresh ρ h.next h'.next) (hb : Below w.heap.size w w')
    (hrow : w'.ownsRow w.heap.size kt 1 x xs.length xs) (hnil : x = .slice none 0 0 ↔ xs = []) (hl : ∀ ρ', VRs ρ' l xs)
    (ho : (l = [] ∧ v = .nilslice ∧ h' = h) ∨ (l ≠ [] ∧ v = .slice h.next 0 l.length false 0 ∧ h' = h.new (.cells l 1))) : ∃ ρ', Stp ρ h w ρ' h' w' ∧ VR ρ' v x := by
  have hlen : xs.length = l.length := (hl ρ).length
  rcases ho with ⟨h1, rfl, rfl⟩ | ⟨h1, rfl, rfl⟩
  · subst h1
    have : xs = [] := List.eq_nil_of_length_eq_zero (by simpa using hlen)
    rw [hnil.2 this]
    exact ⟨ρ, Stp.below hr hb, .nilslice⟩
  · rcases hrow.2 with ⟨rfl, hz⟩ | ⟨g, cap, cur, rfl, hbase, hgb, r1, r2, r3, r4⟩
    · exact absurd (List.eq_nil_of_length_eq_zero (by rw [← hlen]; exact hz)) h1
    · have hfr : ρ h.next = none := hf _ (Nat.le_refl _) (Nat.lt_succ_self _)
      refine ⟨ρ.with h.next g cap, Stp.fresh_block hr hfr hb hbase hgb (.cells ?_ ?_ ?_ (.inl rfl)), ?_⟩
      · have : cur.toList.take l.length = xs := by rw [← hlen]; simpa using r4
        rw [this]
        exact hl _
      · rw [← hlen, r3]; omega
      · rw [r3]; exact Nat.le_refl _
      · have hu := VR.uslice (ρ := ρ.with h.next g cap) (n := h.next) (off := 0) (len := l.length) (sk := 0) (b := g) (κ := cap) (Ren.with_same _ _ _ _) (by rw [← hlen]; omega)
        rw [hlen]
        simpa using hu

theorem mergeSort_rising {ss ks : List (List UInt8)} (hp : ss.Perm ks) (hr : risingK ks = true) : ss.mergeSort (fun x y => decide (x ≤ y)) = ks := by
  rw [mergeSort_of_perm hp]
  have pw := risingK_pw hr
  exact List.mergeSort_of_pairwise (pw.imp (fun {a b} h => by simp only [decide_eq_true_eq]; exact List.le_of_lt h))

theorem VRs_strs (ρ : Ren) : ∀ (l : List (List UInt8)), VRs ρ (l.map .str) (l.map encStr)
  | [] => .nil
  | x :: l => .cons (.str x) (VRs_strs ρ l)

/-- A CALL OF slices.Sorted AT KEYS THAT ARE STRINGS -/
theorem sortedS_ok {P : Program} {f : FuncId} {kt : TypeId} (hk : P.underlying kt = some .string) {gs : List FuncId} (hS : ∀ g ∈ gs, SortedS P f g kt) {args : List AV} {h h' : AH} {v : AV} (hx : sortedA keysS gs args h = some (v, h')) :
    h.next ≤ h'.next ∧ SumOK P f args h v h' := by
  refine ⟨?_, ?_⟩
  · unfold sortedA at hx
    repeat' split at hx
    all_goals first
      | (cases hx; exact Nat.le_refl _)
      | (cases hx; exact Nat.le_succ _)
      | cases hx
  intro ρ w vargs hr hf hv
  obtain ⟨g, bq, bm, es, clock, a, l, hg, rfl, hbq, hcell, hm, hev, hbirth, hlen, hkeys, ho⟩ := sortedA_open hx hr hv
  unfold keysS at hkeys
  split at hkeys
  · rename_i ks hks
    split at hkeys
    · rename_i hris
      cases hkeys
      obtain ⟨ss0, i1, i2, i3, i4⟩ := keysK_sound (P := P) hk hks hev
      obtain ⟨j1, j2, _⟩ := birthsOK_sound hbirth hev
      have R : Value → Option (DataW Unit × List MemPlace) := fun _ => some (.nil, [])
      have hnd : ks.Nodup := (risingK_pw hris).imp (fun {a b} h e => by rw [e] at h; exact List.lt_irrefl _ h)
      have hnd0 : ss0.Nodup := (i1.nodup_iff).2 hnd
      have hkey : ∀ x ∈ a.toList, ∃ s : List UInt8, x.key = encStr s ∧ keyOf P kt x.key = some (.string s) := by
        intro x hx
        have : x.key ∈ a.toList.map (·.key) := List.mem_map_of_mem hx
        rw [i2] at this
        obtain ⟨s, hs, e⟩ := List.mem_map.1 this
        refine ⟨s, e.symm, ?_⟩
        rw [← e]
        have := WideMaps.keyOf_string_mk (P := P) (k := kt) hk (s := ⟨s.toArray⟩) (by show s.toArray.size ≤ maxLen; simpa using i3 s hs)
        simpa using this
      have hown : w.ownsMap P kt (fun _ => some (DataW.nil, [])) bm a.size (.map ((a.toList.map (rg P kt (fun _ => some ((DataW.nil : DataW Unit), [])))).foldr DataW.insert [])) := by
        refine ⟨a, clock, hm, ⟨?_, ?_, ?_⟩, Nat.le_refl _, rfl⟩
        · have h2 : 100000 ≤ maxLen := by decide
          rw [← Array.length_toList, i4]; omega
        · refine ⟨j1, j2, ?_⟩
          rw [i2]
          exact List.pairwise_map.2 (hnd0.imp (fun {x y} hne e => hne (encStr_inj e)))
        · intro x hx
          obtain ⟨s, e1, e2⟩ := hkey x hx
          exact ⟨_, WideElems.rd_mk (born := x.born) e2 rfl⟩
      have hst : (strKeys (.map ((a.toList.map (rg P kt (fun _ => some ((DataW.nil : DataW Unit), [])))).foldr DataW.insert []))).Perm ks := by
        refine (List.Perm.trans (List.Perm.map _ (WideShapes.sorted_perm _)) ?_).trans i1
        rw [List.map_map]
        have : a.toList.map ((fun p => strOf p.1) ∘ rg P kt (fun _ => some ((DataW.nil : DataW Unit), []))) = ss0 := by
          have h1 : a.toList.map ((fun p => strOf p.1) ∘ rg P kt (fun _ => some ((DataW.nil : DataW Unit), []))) = (a.toList.map (·.key)).map (fun v => match keyOf P kt v with
              | some l => strOf l
              | none => []) := by
            rw [List.map_map]
            refine List.map_congr_left ?_
            intro x hx
            obtain ⟨s, e1, e2⟩ := hkey x hx
            simp only [Function.comp_apply]
            rw [WideElems.rg_of (WideElems.rd_mk (born := x.born) (val := x.val) e2 rfl), e2]
          rw [h1, i2, List.map_map]
          conv => rhs; rw [← List.map_id ss0]
          refine List.map_congr_left ?_
          intro s hs
          have := WideMaps.keyOf_string_mk (P := P) (k := kt) hk (s := ⟨s.toArray⟩) (by show s.toArray.size ≤ maxLen; simpa using i3 s hs)
          simp only [Function.comp_apply]
          rw [this]
          simp [strOf]
        rw [this]
      have hsz : Maps.size (DataW.map ((a.toList.map (rg P kt (fun _ => some ((DataW.nil : DataW Unit), [])))).foldr DataW.insert [])) ≤ 100000 := by
        show List.length _ ≤ _
        rw [(WideShapes.sorted_perm _).length_eq, List.length_map, i4]
        exact hlen
      have h2 : 100000 ≤ maxLen := by decide
      refine (callsIn_wide.2 (callsIn_wide.1 (hS g hg bm a.size bq _ _ w hbq hcell hown (by omega) (by omega)))).mono ?_
      rintro e w' ⟨x, ss, rfl, hperm, hrow, hnil, hbl⟩
      have hms : ss.mergeSort (fun x y => decide (x ≤ y)) = ks := mergeSort_rising (hperm.trans hst) hris
      rw [hms] at hrow
      have hlk : ss.length = ks.length := (hperm.trans hst).length_eq
      obtain ⟨ρ', hstp, hvr⟩ := sorted_back (xs := ks.map encStr) hr hf hbl (by rw [List.length_map, ← hlk]; exact hrow) (by
        rw [hnil, List.map_eq_nil_iff]
        constructor
        · intro e; exact List.eq_nil_of_length_eq_zero (by rw [← hlk, e]; rfl)
        · intro e; exact List.eq_nil_of_length_eq_zero (by rw [hlk, e]; rfl)) (fun ρ' => VRs_strs ρ' ks) ho
      exact ⟨x, ρ', rfl, hstp, hvr⟩
    · cases hkeys
  · cases hkeys

/-! ### keys that are ints -/
def insZ (x : Int) : List Int → List Int
  | [] => [x]
  | y :: l => bif decide (x < y) then x :: y :: l else y :: insZ x l

theorem insZ_perm (x : Int) : ∀ l, (insZ x l).Perm (x :: l)
  | [] => .refl _
  | y :: l => by
    unfold insZ
    cases decide (x < y)
    · exact ((insZ_perm x l).cons y).trans (.swap x y l)
    · exact .refl _

def keysZ : List (AV × AV × Nat) → Option (List Int)
  | [] => some []
  | (.int .i64 s, _, _) :: l => match keysZ l with
    | some m => if (Lit.int .i64 s).wf then some (insZ s m) else none
    | none => none
  | _ => none

def risingZ : List Int → Bool
  | [] => true
  | x :: l => (match l with
    | [] => true
    | y :: _ => decide (x < y)) && risingZ l

theorem risingZ_pw : ∀ {l : List Int}, risingZ l = true → l.Pairwise (fun x y => x < y)
  | [], _ => .nil
  | [x], _ => by simp
  | x :: y :: l, h => by
    simp only [risingZ, Bool.and_eq_true, decide_eq_true_eq] at h
    have ih : (y :: l).Pairwise (fun x y => x < y) := risingZ_pw (l := y :: l) (by simp only [risingZ, Bool.and_eq_true]; exact h.2)
    refine .cons ?_ ih
    intro z hz
    rcases List.mem_cons.1 hz with rfl | hz
    · exact h.1
    · exact Int.lt_trans h.1 ((List.pairwise_cons.1 ih).1 z hz)

def keysI (es : List (AV × AV × Nat)) : Option (List AV) := match keysZ es with
  | some ks => if risingZ ks then some (ks.map (.int .i64)) else none
  | none => none

theorem keysZ_sound {ρ : Ren} : ∀ {l : List (AV × AV × Nat)} {es : List MapEntry} {ks : List Int}, keysZ l = some ks → EVR ρ l es →
    ∃ ss : List Int, ss.Perm ks ∧ es.map (·.key) = ss.map encZ ∧ (∀ s ∈ ss, (Lit.int .i64 s).wf = true) ∧ es.length = l.length
  | [], _, ks, h, .nil => by
    simp only [keysZ] at h; cases h
    exact ⟨[], .refl _, rfl, by simp, rfl⟩
  | (k, v, b) :: l, _, ks, h, .cons (es := es) hkv hv hs => by
    unfold keysZ at h
    split at h
    · rename_i he; cases he
    · rename_i s v' b' l' he
      cases he
      split at h
      · rename_i m hm
        split at h
        · rename_i hle
          cases h
          obtain ⟨ss, i1, i2, i3, i4⟩ := keysZ_sound hm hs
          cases hkv
          refine ⟨s :: ss, (i1.cons s).trans (insZ_perm s m).symm, ?_, ?_, by simp [i4]⟩
          · rw [List.map_cons, List.map_cons, i2]
          · intro x hx
            rcases List.mem_cons.1 hx with rfl | hx
            · exact hle
            · exact i3 x hx
        · cases h
      · cases h
    · cases h

theorem mergeSort_perm_int {l l' : List Int} (h : l.Perm l') : l.mergeSort leI = l'.mergeSort leI := by
  have tr : ∀ a b c : Int, leI a b = true → leI b c = true → leI a c = true := fun a b c h1 h2 => by simp only [leI, decide_eq_true_eq] at *; omega
  have to : ∀ a b : Int, (leI a b || leI b a) = true := fun a b => by simp only [leI, Bool.or_eq_true, decide_eq_true_eq]; omega
  refine List.Perm.eq_of_pairwise (le := fun a b => leI a b = true) (fun a b _ _ h1 h2 => ?_) (List.pairwise_mergeSort tr to l) (List.pairwise_mergeSort tr to l') (((List.mergeSort_perm l leI).trans h).trans (List.mergeSort_perm l' leI).symm)
  simp only [leI, decide_eq_true_eq] at h1 h2
  omega

theorem mergeSort_risingZ {ss ks : List Int} (hp : ss.Perm ks) (hr : risingZ ks = true) : ss.mergeSort (fun x y => decide (x ≤ y)) = ks := by
  rw [mergeSort_perm_int hp]
  have pw := risingZ_pw hr
  exact List.mergeSort_of_pairwise (pw.imp (fun {a b} h => by simp only [decide_eq_true_eq]; omega))

theorem VRs_ints (ρ : Ren) : ∀ (l : List Int), VRs ρ (l.map (.int .i64)) (l.map encZ)
  | [] => .nil
  | x :: l => .cons (.int .i64 x) (VRs_ints ρ l)

/-- A CALL OF slices.Sorted AT KEYS THAT ARE INTS -/
theorem sortedI_ok {P : Program} {f : FuncId} {kt : TypeId} (hk : P.underlying kt = some (.int .i64)) {gs : List FuncId} (hS : ∀ g ∈ gs, SortedI P f g kt) {args : List AV} {h h' : AH} {v : AV} (hx : sortedA keysI gs args h = some (v, h')) :
    h.next ≤ h'.next ∧ SumOK P f args h v h' := by
  refine ⟨?_, ?_⟩
  · unfold sortedA at hx
    repeat' split at hx
    all_goals first
      | (cases hx; exact Nat.le_refl _)
      | (cases hx; exact Nat.le_succ _)
      | cases hx
  intro ρ w vargs hr hf hv
  obtain ⟨g, bq, bm, es, clock, a, l, hg, rfl, hbq, hcell, hm, hev, hbirth, hlen, hkeys, ho⟩ := sortedA_open hx hr hv
  unfold keysI at hkeys
  split at hkeys
  · rename_i ks hks
    split at hkeys
    · rename_i hris
      cases hkeys
      obtain ⟨ss0, i1, i2, i3, i4⟩ := keysZ_sound hks hev
      obtain ⟨j1, j2, _⟩ := birthsOK_sound hbirth hev
      have hnd : ks.Nodup := (risingZ_pw hris).imp (fun {a b} h e => by rw [e] at h; exact Int.lt_irrefl _ h)
      have hnd0 : ss0.Nodup := (i1.nodup_iff).2 hnd
      have hkey : ∀ x ∈ a.toList, ∃ s : Int, x.key = encZ s ∧ keyOf P kt x.key = some (.int .i64 s) := by
        intro x hx
        have : x.key ∈ a.toList.map (·.key) := List.mem_map_of_mem hx
        rw [i2] at this
        obtain ⟨s, hs, e⟩ := List.mem_map.1 this
        refine ⟨s, e.symm, ?_⟩
        rw [← e]
        exact Maps.keyOf_int_mk hk (i3 s hs)
      have hown : w.ownsMap P kt (fun _ => some (DataW.nil, [])) bm a.size (.map ((a.toList.map (rg P kt (fun _ => some ((DataW.nil : DataW Unit), [])))).foldr DataW.insert [])) := by
        refine ⟨a, clock, hm, ⟨?_, ?_, ?_⟩, Nat.le_refl _, rfl⟩
        · have h2 : 100000 ≤ maxLen := by decide
          rw [← Array.length_toList, i4]; omega
        · refine ⟨j1, j2, ?_⟩
          rw [i2]
          exact List.pairwise_map.2 (hnd0.imp (fun {x y} hne e => hne (encZ_inj e)))
        · intro x hx
          obtain ⟨s, e1, e2⟩ := hkey x hx
          exact ⟨_, WideElems.rd_mk (born := x.born) e2 rfl⟩
      have hst : (intKeys (.map ((a.toList.map (rg P kt (fun _ => some ((DataW.nil : DataW Unit), [])))).foldr DataW.insert []))).Perm ks := by
        refine (List.Perm.trans (List.Perm.map _ (WideShapes.sorted_perm _)) ?_).trans i1
        rw [List.map_map]
        have : a.toList.map ((fun p => Go.intOf p.1) ∘ rg P kt (fun _ => some ((DataW.nil : DataW Unit), []))) = ss0 := by
          have h1 : a.toList.map ((fun p => Go.intOf p.1) ∘ rg P kt (fun _ => some ((DataW.nil : DataW Unit), []))) = (a.toList.map (·.key)).map (fun v => match keyOf P kt v with
              | some l => Go.intOf l
              | none => 0) := by
            rw [List.map_map]
            refine List.map_congr_left ?_
            intro x hx
            obtain ⟨s, e1, e2⟩ := hkey x hx
            simp only [Function.comp_apply]
            rw [WideElems.rg_of (WideElems.rd_mk (born := x.born) (val := x.val) e2 rfl), e2]
          rw [h1, i2, List.map_map]
          conv => rhs; rw [← List.map_id ss0]
          refine List.map_congr_left ?_
          intro s hs
          have := Maps.keyOf_int_mk (P := P) (k := kt) hk (i3 s hs)
          simp only [Function.comp_apply, encZ]
          rw [this]
          simp [Go.intOf]
        rw [this]
      have hsz : Maps.size (DataW.map ((a.toList.map (rg P kt (fun _ => some ((DataW.nil : DataW Unit), [])))).foldr DataW.insert [])) ≤ 100000 := by
        show List.length _ ≤ _
        rw [(WideShapes.sorted_perm _).length_eq, List.length_map, i4]
        exact hlen
      have h2 : 100000 ≤ maxLen := by decide
      refine (callsIn_wide.2 (callsIn_wide.1 (hS g hg bm a.size bq _ _ w hbq hcell hown (by omega) (by omega)))).mono ?_
      rintro e w' ⟨x, ss, rfl, hperm, hrow, hnil, hbl⟩
      have hms : ss.mergeSort (fun x y => decide (x ≤ y)) = ks := mergeSort_risingZ (hperm.trans hst) hris
      rw [hms] at hrow
      have hlk : ss.length = ks.length := (hperm.trans hst).length_eq
      obtain ⟨ρ', hstp, hvr⟩ := sorted_back (xs := ks.map encZ) hr hf hbl (by rw [List.length_map, ← hlk]; exact hrow) (by
        rw [hnil, List.map_eq_nil_iff]
        constructor
        · intro e; exact List.eq_nil_of_length_eq_zero (by rw [← hlk, e]; rfl)
        · intro e; exact List.eq_nil_of_length_eq_zero (by rw [hlk, e]; rfl)) (fun ρ' => VRs_ints ρ' ks) ho
      exact ⟨x, ρ', rfl, hstp, hvr⟩
    · cases hkeys
  · cases hkeys

end Go.Hx

/-! ## Entries that are good whatever surroundings they were run in; a check that the kernel carries out. -/
set_option linter.unusedVariables false
set_option linter.unusedSimpArgs false
namespace Go.Hx
variable [Inp]
set_option linter.unusedSectionVars false

/-- whatever call fits the entry comes to what the entry says -/
def SubE.Valid (P : Program) (p : SubE) : Prop :=
  ∀ (args : List AV) (h : AH) (θ : List Nat), fits args p.args 0 = some θ → nodupN θ = true → blksFit h θ p.m0 = true → SumOK P p.f args h p.v (putAll h θ (blks p.m1))

theorem SubE.ok.valid {E : Env} (ok : EnvOK E) {p : SubE} (hp : p.ok E) : p.Valid E.P := by
  intro args h θ hθ hn hb
  obtain ⟨g1, g2, n, h1, g3, g4⟩ := hp
  refine sub_sum ok g3 (by rw [blksFit_length hb]; simp [blks]) (by simp [blks, g2]) (nodupN_sound hn) (blksFit_get hb) ?_ ?_ g1
  · intro i B hB
    simp only [blks, List.getElem?_map, Option.map_eq_some_iff] at hB
    obtain ⟨⟨L, es⟩, e1, rfl⟩ := hB
    obtain ⟨k1, k2⟩ := g4 i L es e1
    exact ⟨k1, L, es, rfl, k2⟩
  · intro ρ ρ2 us hρ hv
    exact fits_sound hθ (fun j nm hj => by rw [Nat.zero_add]; exact hρ j nm hj) hv

theorem look_valid {P : Program} {f : FuncId} {args : List AV} {h h' : AH} {v : AV} : ∀ {T : List SubE}, (∀ p ∈ T, p.Valid P) → look f args h T = some (v, h') → h.next ≤ h'.next ∧ SumOK P f args h v h'
  | [], _, hx => by cases hx
  | p :: T, hT, hx => by
    simp only [look] at hx
    split at hx
    · rename_i hf
      have hf := beq_yes hf
      split at hx
      · rename_i θ hθ
        split at hx
        · rename_i hc
          simp only [Bool.and_eq_true] at hc
          cases hx
          refine ⟨by rw [putAll_next]; exact Nat.le_refl _, ?_⟩
          rw [← hf]
          exact hT p (by simp) args h θ hθ hc.1 hc.2
        · exact look_valid (fun q hq => hT q (by simp [hq])) hx
      · exact look_valid (fun q hq => hT q (by simp [hq])) hx
    · exact look_valid (fun q hq => hT q (by simp [hq])) hx

theorem Env.with_valid {E : Env} (ok : EnvOK E) {T : List SubE} (hT : ∀ p ∈ T, p.Valid E.P) : EnvOK (E.with T) where
  mixed := ok.mixed
  num := ok.num
  ext := ok.ext
  sum f args h v h' hx := by
    have hx' : (match look f args h T with
      | some r => some (some r)
      | none => E.sum f args h : Option (Option (AV × AH))) = some (some (v, h')) := hx
    split at hx'
    · rename_i r hr
      cases hx'
      exact look_valid hT hr
    · exact ok.sum f args h v h' hx'

/-- do the blocks hold what is said of them? -/
def blksSaid (h : AH) : List (List AV × Nat) → Nat → Bool
  | [], _ => true
  | (L, es) :: m, i => (match h.get i with
    | some (.cells L' es') => Nat.beq es' es && AV.beqs L' L
    | _ => false) && (AV.grounds L && blksSaid h m (i + 1))

theorem blksSaid_get {h : AH} : ∀ {m : List (List AV × Nat)} {i : Nat}, blksSaid h m i = true → ∀ (j : Nat) (L : List AV) (es : Nat), m[j]? = some (L, es) → h.get (i + j) = some (.cells L es) ∧ AV.grounds L = true
  | [], i, _, j, L, es, hj => by simp at hj
  | (L0, es0) :: m, i, hb, j, L, es, hj => by
    simp only [blksSaid, Bool.and_eq_true] at hb
    obtain ⟨h1, h2, h3⟩ := hb
    cases j with
    | zero =>
      simp at hj
      obtain ⟨rfl, rfl⟩ := hj
      split at h1
      · rename_i L' es' hg
        simp only [Bool.and_eq_true] at h1
        have e1 := beq_yes h1.1
        have e2 := AV.beqs_eq h1.2
        subst e1 e2
        exact ⟨hg, h2⟩
      · cases h1
    | succ j =>
      have := blksSaid_get h3 j L es (by simpa using hj)
      rw [show i + (j + 1) = i + 1 + j from by omega]
      exact this

/-- is the entry what the run says? -/
noncomputable def SubE.check (E : Env) (n : Nat) (p : SubE) : Bool :=
  p.v.ground && Nat.beq p.m1.length p.m0.length && match runF E n (.call p.f p.args (memOf (blks p.m0))) with
    | some (.call v h1) => AV.beq v p.v && blksSaid h1 p.m1 0
    | _ => false

theorem SubE.valid_of {E : Env} (ok : EnvOK E) {n : Nat} {p : SubE} (hc : p.check E n = true) : p.Valid E.P := by
  unfold SubE.check at hc
  simp only [Bool.and_eq_true] at hc
  obtain ⟨⟨h1, h2⟩, h3⟩ := hc
  split at h3
  · rename_i v h1' hrun
    simp only [Bool.and_eq_true] at h3
    have e := AV.beq_eq h3.1
    subst e
    rw [runF_eq] at hrun
    refine SubE.ok.valid ok ⟨h1, beq_yes h2, n, h1', hrun, ?_⟩
    intro i L es hi
    have := blksSaid_get h3.2 i L es hi
    rwa [Nat.zero_add] at this
  · cases h3

/-! ### words for entries -/
def byt (l : List Nat) : List AV := l.map fun (n : Nat) => AV.int .u8 (Int.ofNat n)
def anyB (n : Nat) : List AV := List.replicate n (.rng .u8 0 255)
def anyW (n : Nat) : List AV := List.replicate n (.rng .u32 0 4294967295)

/-- does the call come to this value? -/
noncomputable def comesTo (E : Env) (n : Nat) (f : FuncId) (args : List AV) (v : AV) : Bool :=
  match runF E n (.call f args h0) with
  | some (.call x _) => AV.beq x v
  | _ => false

end Go.Hx

/-! ## Entries that tell less of what comes back than the run does. -/
set_option linter.unusedVariables false
set_option linter.unusedSimpArgs false
namespace Go.Hx
variable [Inp]
set_option linter.unusedSectionVars false

/-- a value of one cell, no truth value -/
def AV.oneC : AV → Bool
  | .bool _ => false
  | .agg _ => false
  | .tup _ => false
  | _ => true

theorem AV.oneC_any {ρ ρ' : Ren} {a : AV} {x : Value} (h : a.oneC = true) (hv : VR ρ a x) : VR ρ' .any x := by
  cases hv with
  | any h => exact .any h
  | inp h => exact .any (by rw [← h]; exact Inp.one _)
  | bool b => simp [AV.oneC] at h
  | agg h => simp [AV.oneC] at h
  | tup h => simp [AV.oneC] at h
  | _ => exact .any rfl

mutual
/-- b tells of whatever a tells, perhaps less -/
def AV.wk : AV → AV → Bool
  | a, .any => AV.oneC a
  | .agg l, .agg m => AV.wks l m
  | .tup l, .tup m => AV.wks l m
  | a, b => AV.sub a b
def AV.wks : List AV → List AV → Bool
  | [], [] => true
  | a :: l, b :: m => AV.wk a b && AV.wks l m
  | _, _ => false
end

mutual
theorem AV.wk_VR {ρ ρ' : Ren} : ∀ (a b : AV) {v : Value}, AV.wk a b = true → VR ρ a v → VR ρ' b v
  | .agg l, b, v, h, hv => by
    cases b with
    | agg m => cases hv with | agg hs => exact .agg (AV.wks_VR l m (by simpa [AV.wk] using h) hs)
    | any => exact AV.oneC_any (by simpa [AV.wk] using h) hv
    | _ => exact AV.sub_VR (by simpa [AV.wk] using h) hv
  | .tup l, b, v, h, hv => by
    cases b with
    | tup m => cases hv with | tup hs => exact .tup (AV.wks_VR l m (by simpa [AV.wk] using h) hs)
    | any => exact AV.oneC_any (by simpa [AV.wk] using h) hv
    | _ => exact AV.sub_VR (by simpa [AV.wk] using h) hv
  | .bool _, b, v, h, hv => by
    cases b <;> first
      | exact AV.oneC_any (by simpa [AV.wk] using h) hv
      | exact AV.sub_VR (by simpa [AV.wk] using h) hv
  | .int _ _, b, v, h, hv => by
    cases b <;> first
      | exact AV.oneC_any (by simpa [AV.wk] using h) hv
      | exact AV.sub_VR (by simpa [AV.wk] using h) hv
  | .rng _ _ _, b, v, h, hv => by
    cases b <;> first
      | exact AV.oneC_any (by simpa [AV.wk] using h) hv
      | exact AV.sub_VR (by simpa [AV.wk] using h) hv
  | .any, b, v, h, hv => by
    cases b <;> first
      | exact AV.oneC_any (by simpa [AV.wk] using h) hv
      | exact AV.sub_VR (by simpa [AV.wk] using h) hv
  | .str _, b, v, h, hv => by
    cases b <;> first
      | exact AV.oneC_any (by simpa [AV.wk] using h) hv
      | exact AV.sub_VR (by simpa [AV.wk] using h) hv
  | .ptr _ _, b, v, h, hv => by
    cases b <;> first
      | exact AV.oneC_any (by simpa [AV.wk] using h) hv
      | exact AV.sub_VR (by simpa [AV.wk] using h) hv
  | .nilptr, b, v, h, hv => by
    cases b <;> first
      | exact AV.oneC_any (by simpa [AV.wk] using h) hv
      | exact AV.sub_VR (by simpa [AV.wk] using h) hv
  | .slice .., b, v, h, hv => by
    cases b <;> first
      | exact AV.oneC_any (by simpa [AV.wk] using h) hv
      | exact AV.sub_VR (by simpa [AV.wk] using h) hv
  | .eslice, b, v, h, hv => by
    cases b <;> first
      | exact AV.oneC_any (by simpa [AV.wk] using h) hv
      | exact AV.sub_VR (by simpa [AV.wk] using h) hv
  | .nilslice, b, v, h, hv => by
    cases b <;> first
      | exact AV.oneC_any (by simpa [AV.wk] using h) hv
      | exact AV.sub_VR (by simpa [AV.wk] using h) hv
  | .map _, b, v, h, hv => by
    cases b <;> first
      | exact AV.oneC_any (by simpa [AV.wk] using h) hv
      | exact AV.sub_VR (by simpa [AV.wk] using h) hv
  | .nilmap, b, v, h, hv => by
    cases b <;> first
      | exact AV.oneC_any (by simpa [AV.wk] using h) hv
      | exact AV.sub_VR (by simpa [AV.wk] using h) hv
  | .fn .., b, v, h, hv => by
    cases b <;> first
      | exact AV.oneC_any (by simpa [AV.wk] using h) hv
      | exact AV.sub_VR (by simpa [AV.wk] using h) hv
  | .yield _, b, v, h, hv => by
    cases b <;> first
      | exact AV.oneC_any (by simpa [AV.wk] using h) hv
      | exact AV.sub_VR (by simpa [AV.wk] using h) hv
  | .nilfunc, b, v, h, hv => by
    cases b <;> first
      | exact AV.oneC_any (by simpa [AV.wk] using h) hv
      | exact AV.sub_VR (by simpa [AV.wk] using h) hv
  | .iface .., b, v, h, hv => by
    cases b <;> first
      | exact AV.oneC_any (by simpa [AV.wk] using h) hv
      | exact AV.sub_VR (by simpa [AV.wk] using h) hv
  | .inp _, b, v, h, hv => by
    cases b <;> first
      | exact AV.oneC_any (by simpa [AV.wk] using h) hv
      | exact AV.sub_VR (by simpa [AV.wk] using h) hv
  | .niliface, b, v, h, hv => by
    cases b <;> first
      | exact AV.oneC_any (by simpa [AV.wk] using h) hv
      | exact AV.sub_VR (by simpa [AV.wk] using h) hv
theorem AV.wks_VR {ρ ρ' : Ren} : ∀ (l m : List AV) {vs : List Value}, AV.wks l m = true → VRs ρ l vs → VRs ρ' m vs
  | [], [], _, _, .nil => .nil
  | [], _ :: _, _, h, _ => by simp [AV.wks] at h
  | _ :: _, [], _, h, _ => by simp [AV.wks] at h
  | a :: l, b :: m, _, h, .cons hv hs => by
    simp only [AV.wks, Bool.and_eq_true] at h
    exact .cons (AV.wk_VR a b h.1 hv) (AV.wks_VR l m h.2 hs)
end

theorem sub_sum_w {E : Env} (ok : EnvOK E) {n : Nat} {f : FuncId} {args args0 : List AV} {v v0 : AV} {h h1 : AH} {m0 m1 : List ABlk} {θ : List Nat}
    (hrun : run E n (.call f args0 (memOf m0)) = some (.call v0 h1)) (hlen : θ.length = m0.length) (hlen1 : m1.length = m0.length) (nd : θ.Nodup)
    (hin : ∀ (i : Nat) (B : ABlk), m0[i]? = some B → ∃ nm L L0 es, θ[i]? = some nm ∧ h.get nm = some (.cells L es) ∧ B = .cells L0 es ∧ AV.subs L L0 = true)
    (hout : ∀ (i : Nat) (B : ABlk), m1[i]? = some B → h1.get i = some B ∧ ∃ M es, B = .cells M es ∧ AV.grounds M = true)
    (hargs : ∀ (ρ ρ2 : Ren) (us : List Value), (∀ i nm, θ[i]? = some nm → ρ2 i = ρ nm) → VRs ρ args us → VRs ρ2 args0 us) (gv : ∀ (ρ ρ2 : Ren) (x : Value), VR ρ v0 x → VR ρ2 v x) : SumOK E.P f args h v (putAll h θ m1) := by
  have hs := (sound ok n _ _ hrun).2
  intro ρ w vargs hr hf hv
  let ρ2 : Ren := fun i => match θ[i]? with
    | some nm => ρ nm
    | none => none
  have hρ2 : ∀ i nm, θ[i]? = some nm → ρ2 i = ρ nm := fun i nm hi => by simp only [ρ2, hi]
  have hr2 : HR ρ2 (memOf m0) w := by
    refine ⟨⟨hr.base.inp, hr.base.hsize, fun i B b κ hB e => ?_⟩, ?_, ?_⟩
    · rw [memOf_get] at hB
      obtain ⟨nm, L, L0, es, h2, h3, _, _⟩ := hin i B hB
      rw [hρ2 i nm h2] at e
      exact hr.base.above nm _ b κ h3 e
    · intro i B hB
      rw [memOf_get] at hB
      obtain ⟨nm, L, L0, es, h2, h3, rfl, h5⟩ := hin i B hB
      obtain ⟨b, κ, o, e1, e2, e3⟩ := hr.blk nm _ h3
      exact ⟨b, κ, o, by rw [hρ2 i nm h2]; exact e1, e2, e3.sub h5⟩
    · intro i j B B' b κ κ' hB hB' e1 e2
      rw [memOf_get] at hB hB'
      obtain ⟨nm, L, L0, es, h2, h3, rfl, h5⟩ := hin i B hB
      obtain ⟨nm', L', L0', es', h2', h3', rfl, h5'⟩ := hin j B' hB'
      rw [hρ2 i nm h2] at e1
      rw [hρ2 j nm' h2'] at e2
      have := hr.inj nm nm' _ _ b κ κ' h3 h3' e1 e2
      subst this
      exact nodup_get nd h2 h2'
  have hin2 : ∀ b, InH ρ2 (memOf m0) b → ∃ (i nm κ : Nat), θ[i]? = some nm ∧ ρ nm = some (b, κ) ∧ InH ρ h b := by
    rintro b ⟨i, B, κ, hB, e⟩
    rw [memOf_get] at hB
    obtain ⟨nm, L, L0, es, h2, h3, _, h5⟩ := hin i B hB
    rw [hρ2 i nm h2] at e
    exact ⟨i, nm, κ, h2, e, nm, _, κ, h3, e⟩
  have fresh2 : Fresh ρ2 (memOf m0).next h1.next := by
    intro i h2 _
    have h2' : m0.length ≤ i := h2
    simp only [ρ2, List.getElem?_eq_none (show θ.length ≤ i by omega)]
  refine (hs ρ2 w vargs hr2 fresh2 (hargs ρ ρ2 _ hρ2 hv)).mono ?_
  rintro e w' ⟨x, ρ', rfl, st, hx⟩
  refine ⟨x, ρ, rfl, Stp.mkB hr ?_ (fun _ _ => rfl) ?_ ?_ st.os st.tape st.out st.size ?_ ?_, gv _ _ _ hx⟩
  · rw [putAll_next]; exact Nat.le_refl _
  · intro k a hk
    by_cases hkθ : k ∈ θ
    · obtain ⟨i, hi⟩ := List.mem_iff_getElem?.1 hkθ
      have hil : i < m1.length := by
        have := (List.getElem?_eq_some_iff.1 hi).1
        omega
      have hB : m1[i]? = some m1[i] := by simp [hil]
      rw [putAll_in θ m1 h i k _ nd hi hB] at hk
      cases hk
      obtain ⟨g1, M, es, g2, g3⟩ := hout i _ hB
      obtain ⟨b, κ, o, e1, e2, e3⟩ := st.hr.blk i _ g1
      rw [g2] at e3
      have hkeep : ρ' i = ρ2 i := st.keep i (by
        have : (memOf m0).next = m0.length := rfl
        omega)
      rw [hkeep, hρ2 i k hi] at e1
      refine ⟨b, κ, o, e1, e2, ?_⟩
      rw [g2]
      cases e3 with | cells hv2 hl hκ hfz => exact .cells (VRs.ground hv2 g3) hl hκ hfz
    · rw [putAll_out θ m1 h k hkθ] at hk
      obtain ⟨b, κ, o, e1, e2, e3⟩ := hr.blk k a hk
      refine ⟨b, κ, o, e1, ?_, e3⟩
      rw [st.frame b (Array.getElem?_eq_some_iff.1 e2).1 ?_]
      · exact e2
      · intro hi
        obtain ⟨i, nm, κ2, h2, h3, _⟩ := hin2 b hi
        obtain ⟨B, hB⟩ : ∃ B, m0[i]? = some B := by
          have := (List.getElem?_eq_some_iff.1 h2).1
          exact ⟨m0[i]'(by omega), by simp⟩
        obtain ⟨nm', L, L0, es, g2, g3, _, _⟩ := hin i B hB
        rw [h2] at g2; cases g2
        have := hr.inj k nm _ _ b κ κ2 hk g3 e1 h3
        subst this
        exact hkθ (List.mem_of_getElem? h2)
  · intro k m a a' b κ κ' hk hm e1 e2
    have dom : ∀ k a, (putAll h θ m1).get k = some a → ∃ a0, h.get k = some a0 := by
      intro k a hk
      by_cases hkθ : k ∈ θ
      · obtain ⟨i, hi⟩ := List.mem_iff_getElem?.1 hkθ
        obtain ⟨B, hB⟩ : ∃ B, m0[i]? = some B := by
          have := (List.getElem?_eq_some_iff.1 hi).1
          exact ⟨m0[i]'(by omega), by simp⟩
        obtain ⟨nm', L, L0, es, g2, g3, _, _⟩ := hin i B hB
        rw [hi] at g2; cases g2
        exact ⟨_, g3⟩
      · rw [putAll_out θ m1 h k hkθ] at hk; exact ⟨a, hk⟩
    obtain ⟨a0, h2⟩ := dom k a hk
    obtain ⟨a1, h3⟩ := dom m a' hm
    exact hr.inj k m a0 a1 b κ κ' h2 h3 e1 e2
  · intro b hb hni
    exact st.frame b hb (fun hi => by obtain ⟨_, _, _, _, _, h4⟩ := hin2 b hi; exact hni h4)
  · rintro b ⟨k, a, κ, hk, e⟩ _
    by_cases hkθ : k ∈ θ
    · obtain ⟨i, hi⟩ := List.mem_iff_getElem?.1 hkθ
      obtain ⟨B, hB⟩ : ∃ B, m0[i]? = some B := by
        have := (List.getElem?_eq_some_iff.1 hi).1
        exact ⟨m0[i]'(by omega), by simp⟩
      obtain ⟨nm', L, L0, es, g2, g3, _, _⟩ := hin i B hB
      rw [hi] at g2; cases g2
      exact ⟨k, _, κ, g3, e⟩
    · rw [putAll_out θ m1 h k hkθ] at hk
      exact ⟨k, a, κ, hk, e⟩


/-- is the entry what the run says, or less? -/
noncomputable def SubE.checkW (E : Env) (n : Nat) (p : SubE) : Bool :=
  Nat.beq p.m1.length p.m0.length && match runF E n (.call p.f p.args (memOf (blks p.m0))) with
    | some (.call v h1) => AV.wk v p.v && blksSaid h1 p.m1 0
    | _ => false

theorem SubE.valid_ofW {E : Env} (ok : EnvOK E) {n : Nat} {p : SubE} (hc : p.checkW E n = true) : p.Valid E.P := by
  unfold SubE.checkW at hc
  simp only [Bool.and_eq_true] at hc
  obtain ⟨h2, h3⟩ := hc
  split at h3
  · rename_i v h1' hrun
    simp only [Bool.and_eq_true] at h3
    rw [runF_eq] at hrun
    intro args h θ hθ hn hb
    refine sub_sum_w ok hrun (by rw [blksFit_length hb]; simp [blks]) (by simp [blks, beq_yes h2]) (nodupN_sound hn) (blksFit_get hb) ?_ ?_ (fun ρ ρ2 x hx => AV.wk_VR _ _ h3.1 hx)
    · intro i B hB
      simp only [blks, List.getElem?_map, Option.map_eq_some_iff] at hB
      obtain ⟨⟨L, es⟩, e1, rfl⟩ := hB
      obtain ⟨k1, k2⟩ := blksSaid_get h3.2 i L es e1
      rw [Nat.zero_add] at k1
      exact ⟨k1, L, es, rfl, k2⟩
    · intro ρ ρ2 us hρ hv
      exact fits_sound hθ (fun j nm hj => by rw [Nat.zero_add]; exact hρ j nm hj) hv
  · cases h3

/-- a call that comes to a value, whatever the memory -/
theorem comesTo_calls {E : Env} (ok : EnvOK E) {n : Nat} {f : FuncId} {args : List AV} {v : AV} (hc : comesTo E n f args v = true) {w : World} {vargs : Array Value} (hv : VRs (fun _ => none) args vargs.toList) (hin : ∀ b, b < Inp.size → w.heap[b]? = Inp.heap b) (hsz : Inp.size ≤ w.heap.size) :
    Calls E.P f vargs w fun e w' => ∃ x ρ', e = .returned x ∧ VR ρ' v x ∧ Go.RowKit.Below w.heap.size w w' := by
  unfold comesTo at hc
  split at hc
  · rename_i v' h1 hrun
    have e := AV.beq_eq hc
    subst e
    rw [runF_eq] at hrun
    have hs := (sound ok n _ _ hrun).2
    have none0 : ∀ b, ¬ InH (fun _ => none) h0 b := by rintro b ⟨n, a, κ, hn, _⟩; cases hn
    have hr0 : HR (fun _ => none) h0 w := ⟨⟨hin, hsz, fun n a b κ hn => (by cases hn)⟩, fun n a hn => (by cases hn), fun n m a a' b κ κ' hn => (by cases hn)⟩
    refine (callsIn_wide.1 (hs (fun _ => none) w vargs hr0 (fun _ _ _ => rfl) hv)).mono ?_
    rintro e w' ⟨x, ρ', rfl, st, hx⟩
    exact ⟨x, ρ', rfl, hx, ⟨st.os, st.tape, st.out, st.size, fun k hk => st.frame k hk (none0 k)⟩⟩
  · cases hc

end Go.Hx

/-! ## The end of a law's proof: below the call's start all lies as it lay; what was read reads so again. -/
namespace Go.Hx
variable [Inp]
set_option linter.unusedSectionVars false
open Go.RowKit Go.WideShapes Go.ChangeShapes
variable {H : Type} {enc : TypeId × Value → H} {P : Program}

theorem post_of_below {f : Func} {s : ChangeSpec} {apart fresh handsOn again : Bool} {W W' : World} {args : Array Value} {v : Value} {ds gs : List (DataW H)} {before pa pv : List MemPlace}
    (hW : DataW.Whole enc P f.params.toList s.vars apart W args.toList ds gs before)
    (hres : ∀ (b : Nat) (sp : Nat → Bool) (hd : Bool), DataW.TrodAll enc P W' b sp hd f.resultTypes.toList (v.resultList f.resultTypes.size) (s.fn H (ds ++ gs)).results [])
    (hargs : ∀ sp : Nat → Bool, (∀ p ∈ before, sp p.block = true) → DataW.TrodAll enc P W' 0 sp true f.params.toList args.toList (s.fn H (ds ++ gs)).args pa)
    (hvars : ∀ sp : Nat → Bool, (∀ p ∈ before, sp p.block = true) → DataW.TrodVars enc P W' sp s.vars (s.fn H (ds ++ gs)).vars pv)
    (hps : before = pa ++ pv) (hb : Below W.heap.size W W')
    (hok : ∀ (j : Nat) (t : TypeId) (r : Value), f.resultTypes[j]? = some t → (v.resultList f.resultTypes.size)[j]? = some r → Value.okWide P W' .any 0 t r) :
    s.post enc P f apart fresh handsOn again W args v W' := by
  have hold : ∀ p ∈ before, (fun b => decide (b < W.heap.size)) p.block = true := fun p hp => by simpa using hW.lt p hp
  have hlt : ∀ p ∈ before, p.block < W.heap.size := hW.lt
  refine ⟨ds, gs, before, [], pa, pv, hW, hres _ _ _, hargs _ hold, hvars _ hold, World.keptBut_mono (fun p hp => ⟨hp, ?_⟩) (hb.frame (· ∈ before)), fun _ => ?_⟩
  · rw [hps, List.mem_append] at hp
    exact Or.inr hp
  · obtain ⟨_, _, _, _, _, hz, hn⟩ := hW
    refine ⟨hok, _, _, ([] ++ pa) ++ pv, ⟨[] ++ pa, pv, trodAll_append (hargs _ (fun _ _ => rfl)) (hres _ _ _), hvars _ (fun _ _ => rfl), rfl, ?_, ?_⟩, ?_⟩
    · intro b off hp
      have hm : MemPlace.cell b off ∈ before := by rw [hps]; simpa using hp
      rw [Below.frozen hb (p := ⟨b, off, none⟩) (hlt _ hm)]
      exact hz b off hm
    · intro ha
      have := hn ha
      rw [hps] at this
      simpa using this
    · intro p hp _
      rw [hps]
      simpa using hp

/-! ### what came in -/
/-- one value that came in, the memory as the call finds it -/
@[reducible] def inpOf (w : World) (v : Value) (h : anyCell v = true) : Inp := { val := fun _ => v, one := fun _ => h, heap := fun b => w.heap[b]?, size := w.heap.size }

def noBoolT (P : Program) (u : TypeId) : Bool := match P.underlying u with
  | some (.int _) => true
  | some .string => true
  | some (.slice _) => true
  | _ => false

theorem anyCell_ok {w : World} {r : Reach} {base : Nat} {u : TypeId} {v : Value} (hu : noBoolT P u = true) (h : Cell.okWide P w r base u v) : anyCell v = true := by
  unfold noBoolT at hu
  cases hP : P.underlying u with
  | none => rw [hP] at hu; cases hu
  | some d =>
    rw [hP] at hu
    cases d <;> simp only [Bool.false_eq_true] at hu
    all_goals
      simp only [Cell.okWide, Cell.ok, hP] at h
      cases v <;> first | rfl | (simp only [] at h; done) | (exact h.elim)

theorem cells_any {w : World} {r : Reach} {base : Nat} {t : TypeId} {v : Value} {fs : Array Field} {ts : List TypeId} (ht : P.underlying t = some (.struct fs)) (hv : Value.okWide P w r base t v) (hts : P.cellTypes P.depth t = some ts)
    (hall : ts.all (noBoolT P) = true) : ∃ cs, v = .agg cs ∧ cs.size = P.cellsOf t ∧ ∀ x ∈ cs.toList, anyCell x = true := by
  simp only [Value.okWide, ht] at hv
  obtain ⟨cs, h1, h2, ts', h3, _, h5⟩ := hv
  rw [hts] at h3
  cases h3
  refine ⟨cs, h1, h2, fun x hx => ?_⟩
  obtain ⟨i, hi⟩ := List.mem_iff_getElem?.1 hx
  rw [Array.getElem?_toList] at hi
  obtain ⟨u, hu, hok⟩ := h5 i x hi
  exact anyCell_ok (List.all_eq_true.1 hall u (List.mem_of_getElem? hu)) hok

theorem VRs_any (ρ : Ren) : ∀ (l : List Value), (∀ x ∈ l, anyCell x = true) → VRs ρ (List.replicate l.length .any) l
  | [], _ => .nil
  | x :: l, h => .cons (.any (h x (by simp))) (VRs_any ρ l (fun y hy => h y (by simp [hy])))

theorem weightsEach_mem {P : Program} : ∀ {ts : List TypeId} {ds : List (DataW H)} {i : Nat} {t : TypeId} {d : DataW H}, ts[i]? = some t → ds[i]? = some d → ∀ n ∈ d.weights P t, n ∈ DataW.weightsEach P ts ds
  | [], _, i, t, d, h, _, _, _ => by simp at h
  | _ :: _, [], i, t, d, _, h, _, _ => by simp at h
  | u :: ts, x :: ds, 0, t, d, h1, h2, n, hn => by
    simp at h1 h2; subst h1 h2
    show n ∈ _ ++ _
    exact List.mem_append_left _ hn
  | u :: ts, x :: ds, i + 1, t, d, h1, h2, n, hn => by
    show n ∈ _ ++ _
    exact List.mem_append_right _ (weightsEach_mem (i := i) (by simpa using h1) (by simpa using h2) n hn)
end Go.Hx
