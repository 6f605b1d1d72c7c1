/- Memory: what is read, what is laid, what is written. -/
import Derived.Test.YtdjdiibloohddaaGreatDoorHxB
import Derived.Laws.Append

/-! ## Memory: what is read, what is laid, what is written. -/
set_option linter.unusedSimpArgs false
set_option linter.unusedVariables false
namespace Go.Hx
variable [Inp]
set_option linter.unusedSectionVars false

section
variable {ρ : Ren} {P : Program}

theorem rd_sound {h : AH} {w : World} {b bb off n κ : Nat} {l : List AV} (hr : HR ρ h w) (he : ρ b = some (bb, κ)) (hd : rd h b off n = some l) :
    ∃ vs : List Value, VRs ρ l vs ∧ vs.length = n ∧ ∀ j v, vs[j]? = some v → w.cell? ((⟨bb, off, none⟩ : Addr).add j) = some v := by
  unfold rd at hd
  split at hd
  · rename_i l0 es hg
    obtain ⟨b2, κ2, o, he2, hw, hb⟩ := hr.blk b _ hg
    rw [he] at he2; cases he2
    cases hb with | cells hv hl hκ hf =>
    rename_i cs t lo hi
    split at hd
    · rename_i r hdr
      obtain ⟨e1, l1⟩ := dropN_eq _ _ _ hdr
      obtain ⟨e2, l2⟩ := takeN_eq _ _ _ hd
      refine ⟨((cs.toList.take l0.length).drop off).take n, ?_, ?_, ?_⟩
      · rw [e2, e1]; exact (hv.drop off).take n
      · have hlen := hv.length
        rw [e1] at l2
        simp only [List.length_take, List.length_drop] at *
        omega
      · intro j v hj
        rw [addr_add]
        have hc : w.cell? ⟨bb, off + j, none⟩ = cs[off + j]? := by simp [World.cell?, hw]
        rw [hc]
        rw [List.getElem?_take] at hj
        split at hj
        · rw [List.getElem?_drop, List.getElem?_take] at hj
          split at hj
          · simpa using hj
          · cases hj
        · cases hj
    · cases hd
  · cases hd

theorem loadA_sound {h : AH} {w : World} {t : TypeId} {p r : AV} {vp : Value} (hr : HR ρ h w) (hl : loadA P h t p = some r) (hp : VR ρ p vp) :
    (∃ a, vp = .pointer (some a)) ∧ ∃ v, (Instr.loadAt t vp).run P w = .ok v w ∧ VR ρ r v := by
  unfold loadA at hl
  split at hl
  · cases hp with | ptr he =>
    refine ⟨⟨_, rfl⟩, ?_⟩
    split at hl
    · rename_i ha
      split at hl
      · rename_i n hs
        split at hl
        · rename_i l hd
          cases hl
          obtain ⟨vs, hv, hn, hc⟩ := rd_sound hr he hd
          have := run_loadCells_list (P := P) w _ vs hc
          rw [hn] at this
          exact ⟨.agg vs.toArray, by simp [Instr.loadAt, Instr.sureAddr, loadVar, r_isAgg ha, r_size hs, this], .agg (by simpa using hv)⟩
        · cases hl
      · cases hl
    · rename_i ha
      split at hl
      · rename_i v hd
        cases hl
        obtain ⟨vs, hv, hn, hc⟩ := rd_sound hr he hd
        cases hv with | cons hv hs =>
        rename_i x us
        have h0 := hc 0 x rfl
        rw [addr_add, Nat.add_zero] at h0
        exact ⟨x, by simp [Instr.loadAt, Instr.sureAddr, loadVar, r_isAgg ha, h0], hv⟩
      · cases hl
    · cases hl
  · cases hl

theorem putObj_putObj (w : World) (g : Nat) (o o' : Obj) : (w.putObj g o).putObj g o' = w.putObj g o' := by
  unfold World.putObj
  simp [Array.setIfInBounds_setIfInBounds]

theorem putObj_self (w : World) (g : Nat) (o : Obj) (h : w.heap[g]? = some o) : w.putObj g o = w := by
  have : w.heap.setIfInBounds g o = w.heap := by
    apply Array.ext_getElem?
    intro i
    by_cases e : i = g
    · subst e
      have hlt := (Array.getElem?_eq_some_iff.1 h).1
      rw [Array.getElem?_setIfInBounds_self_of_lt hlt, h]
    · rw [Array.getElem?_setIfInBounds_ne (Ne.symm e)]
  cases w
  simp_all [World.putObj]

theorem setCell_put (w : World) (g i : Nat) (cs : Array Value) (t : TypeId) (f : Nat × Nat) (v : Value) (h : w.heap[g]? = some (.cells cs t f)) :
    w.setCell ⟨g, i, none⟩ v = w.putObj g (.cells (cs.setIfInBounds i v) t f) := by
  have : (w.setCell ⟨g, i, none⟩ v).heap = w.heap.setIfInBounds g (.cells (cs.setIfInBounds i v) t f) := by
    apply Array.ext_getElem?
    intro k
    simp only [World.setCell]
    rw [Array.getElem?_modify]
    by_cases e : g = k
    · subst e
      have hlt := (Array.getElem?_eq_some_iff.1 h).1
      rw [if_pos rfl, h, Array.getElem?_setIfInBounds_self_of_lt hlt]
      rfl
    · rw [if_neg e, Array.getElem?_setIfInBounds_ne e]
  show World.mk (w.setCell ⟨g, i, none⟩ v).heap w.tape w.drawn w.os w.output = World.mk (w.heap.setIfInBounds g (.cells (cs.setIfInBounds i v) t f)) w.tape w.drawn w.os w.output
  rw [this]

theorem run_storeCells_gen (g o : Nat) (t : TypeId) (f : Nat × Nat) : ∀ (vs : List Value) (i : Nat) (cur : Array Value) (w : World), w.heap[g]? = some (.cells cur t f) → o + i + vs.length ≤ cur.size →
    (∀ k, k < cur.size → ¬ (f.1 ≤ k ∧ k < f.2)) → (∀ v ∈ vs, v.oneCell' = true) →
    (storeCells ⟨g, o, none⟩ vs i).run P w = .ok () (w.putObj g (.cells (cur.toList.take (o + i) ++ vs ++ cur.toList.drop (o + i + vs.length)).toArray t f))
  | [], i, cur, w, hg, _, _, _ => by
    simp only [storeCells, List.append_nil, List.length_nil, Nat.add_zero, List.take_append_drop, Array.toArray_toList]
    rw [putObj_self w g _ hg]
    rfl
  | v :: rest, i, cur, w, hg, hl, hf, h1 => by
    have hi : o + i < cur.size := by simp at hl; omega
    have hcell : w.cell? ⟨g, o + i, none⟩ = some cur[o + i] := by simp [World.cell?, hg, hi]
    have hfro : w.frozen? ⟨g, o + i, none⟩ = false := by
      have := hf (o + i) hi
      simp only [World.frozen?, hg]
      simpa using this
    have hst : (store ((⟨g, o, none⟩ : Addr).add i) v).run P w = .ok () (w.putObj g (.cells (cur.setIfInBounds (o + i) v) t f)) := by
      rw [addr_add, run_store P w _ v _ (h1 v (by simp)), hcell]
      simp [hfro, setCell_put w g (o + i) cur t f v hg]
    have hlt := (Array.getElem?_eq_some_iff.1 hg).1
    have ih := run_storeCells_gen g o t f rest (i + 1) (cur.setIfInBounds (o + i) v) (w.putObj g (.cells (cur.setIfInBounds (o + i) v) t f)) (World.putObj_heap_same hlt) (by simp at hl ⊢; omega)
      (by simpa using hf) (fun x hx => h1 x (by simp [hx]))
    simp only [storeCells, Sem.run_bind, hst, Result.andThen_ok, ih, putObj_putObj]
    congr 4
    have e := list_seg_step cur.toList (o + i) v rest (by simp at hl ⊢; omega)
    simpa [Array.toList_setIfInBounds, Nat.add_assoc] using e

theorem take_seg (A us : List Value) (o n : Nat) (h1 : o + us.length ≤ n) (h2 : n ≤ A.length) :
    (A.take o ++ us ++ A.drop (o + us.length)).take n = (A.take n).take o ++ us ++ (A.take n).drop (o + us.length) := by
  rw [List.take_append, List.take_append]
  have e1 : (A.take o).take n = (A.take n).take o := by rw [List.take_take, List.take_take, Nat.min_comm]
  have l1 : (A.take o).length = o := by simp; omega
  have e2 : us.take (n - (A.take o).length) = us := by rw [l1]; exact List.take_of_length_le (by omega)
  have e3 : (A.drop (o + us.length)).take (n - (A.take o ++ us).length) = (A.take n).drop (o + us.length) := by
    rw [List.length_append, l1, List.drop_take]
  rw [e1, e2, e3]

/-- cells laid over others of one block -/
theorem wr_sound {h h' : AH} {w : World} {b bb off κ : Nat} {vs : List AV} {us : List Value} (hr : HR ρ h w) (he : ρ b = some (bb, κ)) (hw : wr h b off vs = some h') (hv : VRs ρ vs us)
    (h1 : ∀ v ∈ us, v.oneCell' = true) : ∃ w', (storeCells ⟨bb, off, none⟩ us).run P w = .ok () w' ∧ Stp ρ h w ρ h' w' := by
  unfold wr at hw
  split at hw
  · rename_i l es hg
    split at hw
    · rename_i m hm
      cases hw
      obtain ⟨b2, κ2, o, he2, hwb, hb⟩ := hr.blk b _ hg
      rw [he] at he2; cases he2
      cases hb with | cells hc hl hκ hf =>
      rename_i cs t lo hi
      obtain ⟨em, lm⟩ := splice_eq _ _ _ _ hm
      have hul := hv.length
      have hfit : off + us.length ≤ cs.size := by omega
      have hrun := run_storeCells_gen (P := P) bb off t (lo, hi) us 0 cs w hwb (by simpa using hfit) (thawed hf) h1
      simp only [Nat.add_zero] at hrun
      refine ⟨_, hrun, Stp.put hr hg he (.cells ?_ ?_ ?_ ?_)⟩
      · have hml : m.length = l.length := by rw [em]; simp; omega
        have hs := splice_VRs hm hc hv
        have hcl : l.length ≤ cs.toList.length := by simpa using hl
        rw [hml, take_seg cs.toList us off l.length (by omega) hcl]
        exact hs
      · have hml : m.length = l.length := by rw [em]; simp; omega
        rw [hml]; simp; omega
      · simp; omega
      · rcases hf with h2 | h2
        · exact .inl h2
        · right; simp; omega
    · cases hw
  · cases hw

theorem storeA_sound {h h' : AH} {w : World} {t : TypeId} {p v : AV} {vp vv : Value} (hr : HR ρ h w) (hs : storeA P h t p v = some h') (hp : VR ρ p vp) (hv : VR ρ v vv) :
    ∃ w', (Instr.storeAt t vp vv).run P w = .ok () w' ∧ Stp ρ h w ρ h' w' := by
  unfold storeA at hs
  split at hs
  · cases hp with | ptr he =>
    split at hs
    · rename_i n hn
      split at hs
      · rename_i hc
        simp only [Bool.and_eq_true] at hc
        have hshape : v.one = true ∨ ∃ l, v = .agg l := by
          cases v <;> first
            | exact .inl rfl
            | exact .inr ⟨_, rfl⟩
            | (exfalso; have := hc.2; simp [AV.cells, allOne, AV.one] at this)
        have hcells := hv.cells hshape
        obtain ⟨w', hw, hst⟩ := wr_sound (P := P) hr he hs hcells (allOne_mem hcells hc.2)
        refine ⟨w', ?_, hst⟩
        have hlen := hcells.length
        have : ¬ vv.cells.size ≠ n := by
          have := beq_yes hc.1
          have h2 : vv.cells.size = vv.cells.toList.length := by simp
          omega
        simp only [Instr.storeAt, Sem.run_bind, Instr.sureAddr, Sem.run_pure, Result.andThen_ok, storeVar, r_size hn, if_neg this]
        exact hw
      · cases hs
    · cases hs
  · cases hs

end
end Go.Hx

/-! ## Maps: what is found, laid and taken away. -/
set_option linter.unusedSimpArgs false
set_option linter.unusedVariables false
namespace Go.Hx
variable [Inp]
set_option linter.unusedSectionVars false

section
variable {ρ : Ren} {P : Program} {w : World}

theorem EVR.length {l : List (AV × AV × Nat)} {es : List MapEntry} (h : EVR ρ l es) : es.length = l.length := by
  induction h with
  | nil => rfl
  | cons _ _ _ ih => simp [ih]

/-! ### keys -/
/-- integers, all of them -/
def Ints : List AV → Prop
  | [] => True
  | .int _ _ :: l => Ints l
  | _ => False

theorem Ints.det : ∀ {l : List AV} {vs us : List Value}, Ints l → VRs ρ l vs → VRs ρ l us → vs = us
  | [], _, _, _, .nil, .nil => rfl
  | .int _ _ :: l, _, _, h, .cons (.int _ _) h1, .cons (.int _ _) h2 => by rw [Ints.det (l := l) h h1 h2]

theorem eqInts_ints : ∀ {l m : List AV} {b : Bool}, eqInts l m = some b → Ints l ∧ (b = true → l = m)
  | [], [], b, h => ⟨trivial, fun _ => rfl⟩
  | [], _ :: _, b, h => by simp [eqInts] at h
  | x :: l, [], b, h => by cases x <;> simp [eqInts] at h
  | x :: l, y :: m, b, h => by
    cases x <;> (try (simp [eqInts] at h; done))
    rename_i j a
    cases y <;> (try (simp [eqInts] at h; done))
    rename_i k c
    simp only [eqInts] at h
    split at h
    · rename_i hk
      have := kindEq_eq hk
      subst this
      split at h
      · rename_i he
        obtain ⟨h1, h2⟩ := eqInts_ints h
        refine ⟨h1, fun hb => ?_⟩
        rw [h2 hb]
        simp at he
        rw [he]
      · split at h
        · rename_i r hr
          obtain ⟨h1, _⟩ := eqInts_ints hr
          cases h
          exact ⟨h1, fun hb => by cases hb⟩
        · cases h
    · cases h

theorem aeq_true {t : TypeId} {x y : AV} {vx vy : Value} (h : aeq P t x y = some true) (hk : keyOk P t x = true) (hx : VR ρ x vx) (hy : VR ρ y vy) : vx = vy := by
  unfold keyOk at hk
  split at hk
  · rename_i hu
    cases hx
    cases y <;> (try (simp [aeq, aeq1] at h; done))
    cases hy
    simp only [aeq, aeq1, hu] at h
    split at h
    · rename_i hk2
      have := kindEq_eq hk2
      subst this
      simp at h
      rw [h]
    · cases h
  · rename_i hu
    cases hx
    cases y <;> (try (simp [aeq, aeq1] at h; done))
    cases hy
    simp only [aeq, aeq1, hu] at h
    simp at h
    rw [h]
  · rename_i n e l hu
    cases hx with | agg hx =>
    cases y <;> (try (simp [aeq, aeq1] at h; done))
    cases hy with | agg hy =>
    simp only [aeq, hu] at h
    split at h
    · split at h
      · obtain ⟨h1, h2⟩ := eqInts_ints h
        have := h2 rfl
        subst this
        have := Ints.det h1 hx hy
        rw [Array.toList_inj.1 this]
      · cases h
    · cases h
  · cases hk

theorem checkKey_one (em : Bool) (n : Nat) {t : TypeId} {k : IntKind} {j : IntKind} {i : Int} (hu : P.underlying t = some (.int k)) : (Instr.checkKey em (n + 1) t (.int j i)).run P w = .ok () w := by
  simp [Instr.checkKey, r_und hu]

theorem checkKey_str (em : Bool) (n : Nat) {t : TypeId} {s : ByteArray} (hu : P.underlying t = some .string) : (Instr.checkKey em (n + 1) t (.string s)).run P w = .ok () w := by
  simp [Instr.checkKey, r_und hu]

/-- each value of a list is a number -/
def AllInt (vs : List Value) : Prop := ∀ v ∈ vs, ∃ k i, v = .int k i

theorem run_checkKey_arr' (em : Bool) (m : Nat) {t e : TypeId} {len : Nat} {k : IntKind} {cs : Array Value} (hu : P.underlying t = some (.array len e)) (he : P.underlying e = some (.int k)) (hs : tsize P e = some 1)
    (hc : cs.size = len) (hi : AllInt cs.toList) (hin : ∀ j i, (Instr.checkKey em m e (.int j i)).run P w = .ok () w) : (Instr.checkKey em (m + 1) t (.agg cs)).run P w = .ok () w := by
  simp only [Instr.checkKey, Sem.run_bind, r_und hu, Result.andThen_ok]
  simp only [Std.Legacy.Range.forIn_eq_forIn_range', Std.Legacy.Range.size, Nat.sub_zero, Nat.add_one_sub_one, Nat.div_one]
  have key : ∀ (is : List Nat), (∀ i ∈ is, i < cs.size) → Sem.run P (forIn is PUnit.unit fun i r => do
      let z ← sizeOf e
      let v ← part e cs (i * z)
      Instr.checkKey em m e v
      pure PUnit.unit
      pure (ForInStep.yield PUnit.unit)) w = .ok PUnit.unit w := by
    intro is
    induction is with
    | nil => intro _; simp
    | cons i is ih =>
      intro h
      have hi' : i < cs.size := h i (by simp)
      obtain ⟨k', j, hv⟩ := hi cs[i] (by simp)
      have hp : cs[i]? = some (.int k' j) := by rw [Array.getElem?_eq_getElem hi', hv]
      simp only [List.forIn_cons, Sem.run_bind, r_size hs, Result.andThen_ok, Nat.mul_one, run_part1 he hp, hin, Sem.run_pure]
      exact ih (fun j hj => h j (by simp [hj]))
  have := key (List.range' 0 len) (fun i hi => by simp at hi; omega)
  simp only [Sem.run_bind, Sem.run_pure, Result.andThen_ok, bind_pure_comp, map_pure, bind_assoc, pure_bind] at this ⊢
  first
    | (simp only [this, Result.andThen_ok]; done)
    | (simp only [Sem.run_map, this, Result.andThen_ok]; done)
    | (rw [this]; rfl)

theorem run_checkKey_arr (em : Bool) (n : Nat) {t e : TypeId} {len : Nat} {k : IntKind} {cs : Array Value} (hu : P.underlying t = some (.array len e)) (he : P.underlying e = some (.int k)) (hs : tsize P e = some 1)
    (hc : cs.size = len) (hi : AllInt cs.toList) : (Instr.checkKey em (n + 2) t (.agg cs)).run P w = .ok () w :=
  run_checkKey_arr' em (n + 1) hu he hs hc hi fun j i => checkKey_one em n he

theorem Ints.all {l : List AV} {vs : List Value} (h : Ints l) (hv : VRs ρ l vs) : AllInt vs := by
  induction l generalizing vs with
  | nil => cases hv; intro _ h; cases h
  | cons x l ih =>
    cases x <;> (try (exact h.elim))
    cases hv with | cons h1 h2 =>
    cases h1
    intro v hm
    cases hm with
    | head => exact ⟨_, _, rfl⟩
    | tail _ hm => exact ih h h2 v hm

theorem intsB_ints : ∀ {l : List AV}, intsB l = true → Ints l
  | [], _ => trivial
  | .int _ _ :: l, h => intsB_ints (l := l) h
  | .bool _ :: _, h => by simp [intsB] at h
  | .rng _ _ _ :: _, h => by simp [intsB] at h
  | .any :: _, h => by simp [intsB] at h
  | .str _ :: _, h => by simp [intsB] at h
  | .ptr _ _ :: _, h => by simp [intsB] at h
  | .nilptr :: _, h => by simp [intsB] at h
  | .slice _ _ _ _ _ :: _, h => by simp [intsB] at h
  | .eslice :: _, h => by simp [intsB] at h
  | .nilslice :: _, h => by simp [intsB] at h
  | .map _ :: _, h => by simp [intsB] at h
  | .nilmap :: _, h => by simp [intsB] at h
  | .fn _ _ _ :: _, h => by simp [intsB] at h
  | .yield _ :: _, h => by simp [intsB] at h
  | .nilfunc :: _, h => by simp [intsB] at h
  | .iface _ _ :: _, h => by simp [intsB] at h
  | .niliface :: _, h => by simp [intsB] at h
  | .agg _ :: _, h => by simp [intsB] at h
  | .tup _ :: _, h => by simp [intsB] at h


theorem keyOk_check {t : TypeId} {k : AV} {vk : Value} (h : keyOk P t k = true) (hk : VR ρ k vk) (em : Bool) : (Instr.checkKey em 10000 t vk).run P w = .ok () w := by
  unfold keyOk at h
  split at h
  · rename_i hu; cases hk; exact checkKey_one em 9999 hu
  · rename_i hu; cases hk; exact checkKey_str em 9999 hu
  · rename_i n e l hu
    cases hk with | agg hl =>
    simp only [Bool.and_eq_true] at h
    obtain ⟨⟨⟨⟨hi, hn⟩, hs⟩, _⟩, hint⟩ := h
    obtain ⟨q, hq⟩ := isIntT_spec hi
    have hs' : tsize P e = some 1 := by
      split at hs
      · rename_i h1; exact h1
      · cases hs
    have hlen := hl.length
    exact run_checkKey_arr em 9998 hu hq hs' (by rw [← beq_yes hn]; simpa using hlen) ((intsB_ints hint).all hl)
  · cases h

/-! ### finding -/
inductive FR (ρ : Ren) (vk : Value) (i : Nat) (ents : List MapEntry) : Option (Nat × AV) → Option (Nat × Value) → Prop
  | none : FR ρ vk i ents none none
  | some {j : Nat} {v : AV} {e : MapEntry} (h : ents[j]? = some e) (hv : VR ρ v e.val) (hk : e.key = vk) : FR ρ vk i ents (some (i + j, v)) (some (i + j, e.val))

theorem FR.cons {vk : Value} {i : Nat} {ents : List MapEntry} {r : Option (Nat × AV)} {r' : Option (Nat × Value)} (e : MapEntry) (h : FR ρ vk (i + 1) ents r r') : FR ρ vk i (e :: ents) r r' := by
  cases h with
  | none => exact .none
  | some h hv hk =>
    rename_i j v e'
    have : i + 1 + j = i + (j + 1) := by omega
    rw [this]
    exact .some (by simpa using h) hv hk

/-- keys that are plain: the search needs no question -/
theorem findNow_sound {t : TypeId} {d : TypeDesc} {k : AV} {vk : Value} (hu : P.underlying t = some d) (hd : (∃ q, d = .int q) ∨ d = .string) (hk : VR ρ k vk) (hok : keyOk P t k = true) :
    ∀ (es : List (AV × AV × Nat)) (ents : List MapEntry) (i : Nat) (r : Option (Nat × AV)), findA P t k es i = some r → EVR ρ es ents →
      ∃ r', Instr.findNow d vk ents i = some r' ∧ FR ρ vk i ents r r'
  | [], _, i, r, h, .nil => by cases h; exact ⟨none, rfl, .none⟩
  | (k', v, born) :: es, _, i, r, h, .cons (x := x) (y := y) (es := ents) hk' hv hs => by
    simp only [findA] at h
    have hsame : ∀ b, aeq P t k k' = some b → Instr.sameNow d vk x = some b := by
      intro b hb
      rcases hd with ⟨q, rfl⟩ | rfl
      · unfold keyOk at hok; rw [hu] at hok
        cases k <;> (try (simp at hok; done))
        cases hk
        cases k' <;> (try (simp [aeq, aeq1] at hb; done))
        cases hk'
        simp only [aeq, aeq1, hu] at hb
        split at hb
        · rename_i hkk
          have := kindEq_eq hkk
          subst this
          cases hb
          simp [Instr.sameNow]
        · cases hb
      · unfold keyOk at hok; rw [hu] at hok
        cases k <;> (try (simp at hok; done))
        cases hk
        cases k' <;> (try (simp [aeq, aeq1] at hb; done))
        cases hk'
        simp only [aeq, aeq1, hu] at hb
        cases hb
        simp only [Instr.sameNow, bs_beq]
    split at h
    · rename_i heq
      cases h
      have he := aeq_true heq hok hk hk'
      refine ⟨some (i, y), by simp only [Instr.findNow, hsame _ heq], ?_⟩
      exact FR.some (j := 0) (e := ⟨x, y, born⟩) rfl hv he.symm
    · rename_i hne
      obtain ⟨r', h1, h2⟩ := findNow_sound hu hd hk hok es ents (i + 1) r h hs
      exact ⟨r', by simp only [Instr.findNow, hsame _ hne, h1], h2.cons _⟩
    · cases h

theorem findAsking_sound {t : TypeId} {k : AV} {vk : Value} (hk : VR ρ k vk) (hok : keyOk P t k = true) :
    ∀ (es : List (AV × AV × Nat)) (ents : List MapEntry) (i : Nat) (r : Option (Nat × AV)), findA P t k es i = some r → EVR ρ es ents →
      ∃ r', (Instr.findAsking t vk ents i).run P w = .ok r' w ∧ FR ρ vk i ents r r'
  | [], _, i, r, h, .nil => by cases h; exact ⟨none, rfl, .none⟩
  | (k', v, born) :: es, _, i, r, h, .cons (x := x) (y := y) (es := ents) hk' hv hs => by
    simp only [findA] at h
    split at h
    · rename_i heq
      cases h
      have he := aeq_true heq hok hk hk'
      have hrun := aeq_sound (w := w) heq hk hk'
      exact ⟨some (i, y), by simp [Instr.findAsking, hrun], FR.some (j := 0) (e := ⟨x, y, born⟩) rfl hv he.symm⟩
    · rename_i hne
      have hrun := aeq_sound (w := w) hne hk hk'
      obtain ⟨r', h1, h2⟩ := findAsking_sound hk hok es ents (i + 1) r h hs
      exact ⟨r', by simp [Instr.findAsking, hrun, h1], h2.cons _⟩
    · cases h

theorem findA_sound {t : TypeId} {k : AV} {vk : Value} (hk : VR ρ k vk) (hok : keyOk P t k = true) {es : List (AV × AV × Nat)} {ents : List MapEntry} {r : Option (Nat × AV)}
    (h : findA P t k es 0 = some r) (he : EVR ρ es ents) : ∃ r', (Instr.findKey t vk ents).run P w = .ok r' w ∧ FR ρ vk 0 ents r r' := by
  have hok' := hok
  unfold keyOk at hok
  split at hok
  · rename_i q _ _ hu
    obtain ⟨r', h1, h2⟩ := findNow_sound hu (.inl ⟨_, rfl⟩) hk hok' es ents 0 r h he
    exact ⟨r', by simp [Instr.findKey, r_und hu, h1], h2⟩
  · rename_i hu
    obtain ⟨r', h1, h2⟩ := findNow_sound hu (.inr rfl) hk hok' es ents 0 r h he
    exact ⟨r', by simp [Instr.findKey, r_und hu, h1], h2⟩
  · rename_i n e l hu
    obtain ⟨r', h1, h2⟩ := findAsking_sound (w := w) hk hok' es ents 0 r h he
    refine ⟨r', ?_, h2⟩
    simp only [Instr.findKey, Sem.run_bind, r_und hu, Result.andThen_ok]
    cases he with
    | nil => cases h; cases h2; rfl
    | cons hk' hv hs =>
      have : ∀ x, Instr.sameNow (.array n e) vk x = none := fun x => rfl
      simp only [Instr.findNow, this]
      exact h1
  · cases hok

theorem sameBits_int (n : Nat) : ∀ (l : List Value), AllInt l → ((l.zip l).all fun (x, y) => Instr.sameBits n x y) = true
  | [], _ => rfl
  | v :: l, h => by
    obtain ⟨k, i, rfl⟩ := h v (by simp)
    have := sameBits_int n l (fun x hx => h x (by simp [hx]))
    simp only [List.zip_cons_cons, List.all_cons, this, Bool.and_true]
    cases n <;> simp [Instr.sameBits]

theorem keyThatStays_same {t : TypeId} {k : AV} {vk : Value} (h : keyOk P t k = true) (hk : VR ρ k vk) : (Instr.keyThatStays vk vk).run P w = .ok vk w := by
  have : Instr.sameBits 10000 vk vk = true := by
    unfold keyOk at h
    split at h
    · cases hk; show Instr.sameBits (9999 + 1) _ _ = true; simp [Instr.sameBits]
    · cases hk; show Instr.sameBits (9999 + 1) _ _ = true; simp only [Instr.sameBits, bs_beq]; simp
    · cases hk with | agg hl =>
      simp only [Bool.and_eq_true] at h
      show Instr.sameBits (9999 + 1) _ _ = true
      simp only [Instr.sameBits, beq_self_eq_true, Bool.true_and]
      exact sameBits_int 9999 _ ((intsB_ints h.2).all hl)
    · cases h
  simp [Instr.keyThatStays, this]

end
end Go.Hx

/-! ## Operations that look at memory and leave it; operations on maps that turn them. -/
set_option linter.unusedSimpArgs false
set_option linter.unusedVariables false
namespace Go.Hx
variable [Inp]
set_option linter.unusedSectionVars false

section
variable {ρ : Ren} {P : Program}

theorem HR.get {h : AH} {w : World} (hr : HR ρ h w) {n b κ : Nat} {a : ABlk} (hn : h.get n = some a) (he : ρ n = some (b, κ)) : ∃ o, w.heap[b]? = some o ∧ BR ρ κ a o := by
  obtain ⟨b', κ', o, he', hw, hb⟩ := hr.blk n a hn
  rw [he] at he'; cases he'
  exact ⟨o, hw, hb⟩

theorem run_getObj_map {w : World} {b : Nat} {es : Array MapEntry} {c : Nat} (h : w.heap[b]? = some (.map es c)) : (getObj b).run P w = .ok (.map es c) w := by simp [getObj, Sem.run, h]
theorem run_setObj_map {w : World} {b : Nat} {es : Array MapEntry} {c : Nat} (o : Obj) (h : w.heap[b]? = some (.map es c)) : (setObj b o).run P w = .ok () (w.putObj b o) := by
  simp [setObj, Sem.run, h, World.putObj]

theorem lookupA_sound {h : AH} {w : World} {t : TypeId} {m k r : AV} {vm vk : Value} {ok : Bool} (hr : HR ρ h w) (hl : lookupA P h t m k ok = some r) (hm : VR ρ m vm) (hk : VR ρ k vk) :
    ∃ v, (Instr.lookup t vm vk ok).run P w = .ok v w ∧ VR ρ r v := by
  unfold lookupA at hl
  split at hl
  · rename_i kt et hu
    split at hl
    · rename_i hok
      have main : ∀ (es : List (AV × AV × Nat)) (ents : Array MapEntry), EVR ρ es ents.toList →
          (match findA P kt k es 0 with
            | some (some (_, v)) => some (if ok then AV.tup [v, .bool true] else v)
            | some none => match tzero P et with
              | some z => some (if ok then AV.tup [z, .bool false] else z)
              | none => none
            | none => none) = some r →
          ∃ v, (do
            Instr.checkKey ents.isEmpty 10000 kt vk
            let (v, ok') ← match ← Instr.findKey kt vk ents.toList with
              | some (_, v) => pure (v, true)
              | none => pure (← zeroValue et, false)
            pure (if ok then .tuple #[v, .bool ok'] else v) : Sem Value).run P w = .ok v w ∧ VR ρ r v := by
        intro es ents he hx
        split at hx
        · rename_i j v hf
          cases hx
          obtain ⟨r', h1, h2⟩ := findA_sound (w := w) hk hok hf he
          cases h2 with | some h3 hv hkk =>
          rename_i j' e
          refine ⟨if ok then .tuple #[e.val, .bool true] else e.val, ?_, ?_⟩
          · simp [keyOk_check hok hk, h1]
          · cases ok
            · exact hv
            · exact .tup (.cons hv (.cons (.bool _) .nil))
        · rename_i hf
          split at hx
          · rename_i z hz
            cases hx
            obtain ⟨i, zv, hi, hzv, hof⟩ := tzero_run hz
            obtain ⟨r', h1, h2⟩ := findA_sound (w := w) hk hok hf he
            cases h2
            refine ⟨if ok then .tuple #[zv, .bool false] else zv, ?_, ?_⟩
            · simp [keyOk_check hok hk, h1, r_zero hi hzv]
            · cases ok
              · exact ofV_sound hof
              · exact .tup (.cons (ofV_sound hof) (.cons (.bool _) .nil))
          · cases hx
        · cases hx
      cases m <;> (try (simp at hl; done))
      · rename_i mb
        cases hm with | map he =>
        simp only at hl
        cases hg : h.get mb with
        | none => simp [hg] at hl
        | some a =>
          cases a <;> (try (simp [hg] at hl; done))
          rename_i es clock
          simp only [hg] at hl
          obtain ⟨o, hw, hb⟩ := hr.get hg he
          cases hb with | map hev =>
          rename_i ents
          obtain ⟨v, h1, h2⟩ := main es ents hev hl
          refine ⟨v, ?_, h2⟩
          rw [← h1]
          simp only [Instr.lookup, Sem.run_bind, r_und hu, Result.andThen_ok, run_getObj_map hw, Sem.run_pure, pure_bind]
          rfl
      · cases hm
        simp only at hl
        obtain ⟨v, h1, h2⟩ := main [] #[] .nil hl
        refine ⟨v, ?_, h2⟩
        rw [← h1]
        simp only [Instr.lookup, Sem.run_bind, r_und hu, Result.andThen_ok, Sem.run_pure, pure_bind]
        rfl
    · cases hl
  · cases hl

theorem lenOp_sound {h : AH} {w : World} {t : TypeId} {x r : AV} {vx : Value} {ty : TypeId} (hr : HR ρ h w) (hl : lenOp P h t x = some r) (hx : VR ρ x vx) :
    ∃ v, (Builtin.len_ #[t] ty #[vx]).run P w = .ok v w ∧ VR ρ r v := by
  unfold lenOp at hl
  split at hl
  · rename_i s hu
    cases hl; cases hx
    refine ⟨.int .i64 s.length, ?_, .int _ _⟩
    have e : (⟨s.toArray⟩ : ByteArray).size = s.length := by simp [ByteArray.size]
    simp only [Builtin.len_, Sem.run_bind, r_und hu, Result.andThen_ok, List.getElem?_toArray, List.getElem?_cons_zero, goInt, e]
    rfl
  · rename_i n e hu
    cases hl
    exact ⟨.int .i64 n, by simp [Builtin.len_, r_und hu, goInt], .int _ _⟩
  · rename_i e b off n kn c hu
    cases hl
    cases hx with
    | slice _ _ => exact ⟨.int .i64 n, by simp [Builtin.len_, r_und hu, goInt], .int _ _⟩
    | uslice _ _ => exact ⟨.int .i64 n, by simp [Builtin.len_, r_und hu, goInt], .int _ _⟩
  · rename_i e hu
    cases hl; cases hx
    exact ⟨.int .i64 0, by simp [Builtin.len_, r_und hu, goInt], .int _ _⟩
  · rename_i e hu
    cases hl; cases hx
    exact ⟨.int .i64 0, by simp [Builtin.len_, r_und hu, goInt], .int _ _⟩
  · rename_i e e2 hu
    cases hl; cases hx
    exact ⟨.int .i64 0, by simp [Builtin.len_, r_und hu, goInt], .int _ _⟩
  · rename_i e e2 mb hu
    cases hx with | map he =>
    split at hl
    · rename_i es clock hg
      cases hl
      obtain ⟨o, hw, hb⟩ := hr.get hg he
      cases hb with | map hev =>
      rename_i ents
      have : ents.size = es.length := by have := hev.length; simpa using this
      exact ⟨.int .i64 es.length, by simp [Builtin.len_, r_und hu, goInt, run_getObj_map hw, this], .int _ _⟩
    · cases hl
  · cases hl

theorem bytesOf_sound {w : World} (f : Value → ByteArray → Sem (ForInStep ByteArray)) (hf : ∀ n r, f (.int .u8 n) r = pure (ForInStep.yield (r.push (UInt8.ofNat n.toNat)))) :
    ∀ {l : List AV} {s : List UInt8} {vs : List Value}, bytesOf l = some s → VRs ρ l vs → ∀ (acc : ByteArray), (forIn vs acc f).run P w = .ok ⟨acc.data ++ s.toArray⟩ w
  | [], s, _, h, .nil, acc => by cases h; simp
  | x :: l, s, _, h, .cons (v := v) (vs := vs) hx hs, acc => by
    cases x <;> (try (simp [bytesOf] at h; done))
    rename_i k n
    cases k <;> (try (simp [bytesOf] at h; done))
    simp only [bytesOf] at h
    split at h
    · rename_i m hm
      cases h
      cases hx
      have ih := bytesOf_sound (w := w) f hf hm hs (acc.push (UInt8.ofNat n.toNat))
      simp only [List.forIn_cons, hf, Sem.run_bind, Sem.run_pure, Result.andThen_ok, ih]
      congr 2
      apply Array.ext'
      simp [ByteArray.push]
    · cases h

theorem convertR_sound {h : AH} {w : World} {src dst : TypeId} {x r : AV} {vx : Value} (hr : HR ρ h w) (hc : convertR P h src dst x = some r) (hx : VR ρ x vx) :
    ∃ v, (convert src dst vx).run P w = .ok v w ∧ VR ρ r v := by
  unfold convertR at hc
  split at hc
  · rename_i e b off len kn c hs hd
    split at hc
    · rename_i hu
      split at hc
      · rename_i l hrd
        split at hc
        · rename_i s hby
          cases hc
          have go : ∀ {bb κ cap : Nat}, ρ b = some (bb, κ) → ∃ v, (convert src dst (.slice (some ⟨bb, off, none⟩) len cap)).run P w = .ok v w ∧ VR ρ (.str s) v := by
            intro bb κ cap he
            obtain ⟨vs, hv, hn, hcell⟩ := rd_sound hr he hrd
            have hload := run_loadCells_list (P := P) w _ vs hcell
            rw [hn] at hload
            have hf := fun f h => bytesOf_sound (P := P) (w := w) f h hby hv ByteArray.empty
            refine ⟨.string ⟨s.toArray⟩, ?_, .str _⟩
            simp only [convert, Sem.run_bind, r_und hs, r_und hd, r_und hu, Result.andThen_ok, Conv.bytesToString, hload, List.forIn_toArray]
            rw [hf _ (fun n r => rfl)]
            simp [ByteArray.empty, ByteArray.emptyWithCapacity]
            rfl
          cases hx with
          | slice he _ => exact go he
          | uslice he _ => exact go he
        · cases hc
      · cases hc
    · cases hc
  · rename_i e hs hd
    cases hx
    split at hc
    · rename_i hu
      cases hc
      refine ⟨.string .empty, by simp [convert, r_und hs, r_und hd, r_und hu, Conv.bytesToString], ?_⟩
      exact VR.str []
    · cases hc
  · rename_i e hs hd
    cases hx with | eslice =>
    split at hc
    · rename_i hu
      cases hc
      refine ⟨.string .empty, ?_, VR.str []⟩
      simp [convert, r_und hs, r_und hd, r_und hu, Conv.bytesToString, loadCells, loadCellsFrom]
    · cases hc
  · cases hc

variable {E : Env}

theorem xread_sound {h : AH} {w : World} {tm : Tm} {n : Nat} {a : Act} {o : Oper} {v : AV} (hr : HR ρ h w) (hx : xread E tm h o = some v) (ht : TR ρ tm n a.tmps) :
    ∃ x, (execOp a.eval o).run E.P w = .ok (.value x) w ∧ VR ρ v x := by
  obtain ⟨dst, op, ty, pos, after, guard⟩ := o
  have lift : ∀ {s : Sem Value}, (∃ x, s.run E.P w = .ok x w ∧ VR ρ v x) → ∃ x, (do pure (.value (← s)) : Sem Next).run E.P w = .ok (.value x) w ∧ VR ρ v x := by
    rintro s ⟨x, hx, hv⟩; exact ⟨x, by simp [hx], hv⟩
  unfold xread at hx
  split at hx <;> (try (cases hx; done)) <;> rename_i hop <;> simp only at hop <;> subst hop
  · split at hx
    · rename_i p hp; exact lift (loadA_sound hr hx (evalA_sound ht hp)).2
    · cases hx
  · split at hx
    · rename_i m k hm hk; exact lift (lookupA_sound hr hx (evalA_sound ht hm) (evalA_sound ht hk))
    · cases hx
  · rename_i args at_
    split at hx
    · rename_i t x hat hargs
      have hv := evalL_sound (ρ := ρ) ht hargs
      generalize hgen : args.toList.map a.eval = vs at hv
      cases hv with | cons h1 h2 =>
      cases h2
      have he := (Array.toList_map (f := a.eval) (xs := args)).trans hgen
      rename_i xv
      have he2 : args.map a.eval = #[xv] := by apply Array.ext'; rw [he]
      have ha2 : at_ = #[t] := by apply Array.ext'; rw [hat]
      obtain ⟨y, hy, hv⟩ := lenOp_sound (ty := ty) hr hx h1
      refine ⟨y, ?_, hv⟩
      simp only [execOp, resolve, Sem.run_bind, Sem.run_pure, Result.andThen_ok, invoke, builtin, he2, ha2, hy]
    · cases hx
  · split at hx
    · rename_i x hx'; exact lift (convertR_sound hr hx (evalA_sound ht hx'))
    · cases hx

/-! ### maps that turn -/
theorem EVR.setNth {es : List (AV × AV × Nat)} {ents : List MapEntry} (h : EVR ρ es ents) {i : Nat} {k v : AV} {vk vv : Value} (hk : VR ρ k vk) (hv : VR ρ v vv) :
    EVR ρ (setNth (fun e => (k, v, e.2.2)) i es) (ents.modify i fun e => { e with key := vk, val := vv }) := by
  induction h generalizing i with
  | nil => cases i <;> exact .nil
  | cons h1 h2 h3 ih => cases i with
    | zero => exact .cons hk hv h3
    | succ i => exact .cons h1 h2 ih

theorem EVR.delNth {es : List (AV × AV × Nat)} {ents : List MapEntry} (h : EVR ρ es ents) (i : Nat) : EVR ρ (delNth i es) (ents.eraseIdx i) := by
  induction h generalizing i with
  | nil => cases i <;> exact .nil
  | cons h1 h2 h3 ih => cases i with
    | zero => exact h3
    | succ i => exact .cons h1 h2 (ih i)

theorem EVR.append {es fs : List (AV × AV × Nat)} {ents fents : List MapEntry} (h : EVR ρ es ents) (k : EVR ρ fs fents) : EVR ρ (es ++ fs) (ents ++ fents) := by
  induction h with
  | nil => exact k
  | cons h1 h2 h3 ih => exact .cons h1 h2 ih

theorem mapUpdateA_sound {h h' : AH} {w : World} {t : TypeId} {m k v : AV} {vm vk vv : Value} (hr : HR ρ h w) (hu : mapUpdateA P h t m k v = some h') (hm : VR ρ m vm) (hk : VR ρ k vk) (hv : VR ρ v vv) :
    ∃ w', (Instr.mapUpdate t vm vk vv).run P w = .ok () w' ∧ Stp ρ h w ρ h' w' := by
  unfold mapUpdateA at hu
  split at hu
  · rename_i kt et hut
    split at hu
    · rename_i hok
      split at hu
      · rename_i mb
        cases hm with | map he =>
        rename_i b κ
        split at hu
        · rename_i es clock hg
          obtain ⟨o, hw, hb⟩ := hr.get hg he
          cases hb with | map hev =>
          rename_i ents
          split at hu
          · rename_i j v' hf
            cases hu
            obtain ⟨r', h1, h2⟩ := findA_sound (P := P) (w := w) hk hok hf hev
            cases h2 with | some h3 hvv hkk =>
            rename_i e
            rename_i j
            have hkey : (Option.map (fun x => x.key) ents[0 + j]?).getD vk = vk := by
              have : ents[0 + j]? = some e := by simpa using h3
              rw [this]; exact hkk
            refine ⟨w.putObj b (.map (ents.modify (0 + j) fun e => { e with key := vk, val := vv }) clock), ?_, Stp.put hr hg he (.map ?_)⟩
            · simp only [Instr.mapUpdate, Sem.run_bind, r_und hut, Result.andThen_ok, run_getObj_map hw, keyOk_check hok hk, h1, hkey, keyThatStays_same hok hk, run_setObj_map _ hw]
            · rw [Array.toList_modify]; exact hev.setNth hk hv
          · rename_i hf
            cases hu
            obtain ⟨r', h1, h2⟩ := findA_sound (P := P) (w := w) hk hok hf hev
            cases h2
            refine ⟨w.putObj b (.map (ents.push { key := vk, val := vv, born := clock }) (clock + 1)), ?_, Stp.put hr hg he (.map ?_)⟩
            · simp only [Instr.mapUpdate, Sem.run_bind, r_und hut, Result.andThen_ok, run_getObj_map hw, keyOk_check hok hk, h1, run_setObj_map _ hw]
            · rw [Array.toList_push]; exact hev.append (.cons hk hv .nil)
          · cases hu
        · cases hu
      · cases hu
    · cases hu
  · cases hu

theorem deleteA_sound {h h' : AH} {w : World} {t ty : TypeId} {ts : Array TypeId} {m k : AV} {vm vk : Value} (hts : ts[0]? = some t) (hr : HR ρ h w) (hu : deleteA P h t m k = some h') (hm : VR ρ m vm) (hk : VR ρ k vk) :
    ∃ w', (Builtin.delete_ ts ty #[vm, vk]).run P w = .ok (.tuple #[]) w' ∧ Stp ρ h w ρ h' w' := by
  unfold deleteA at hu
  split at hu
  · rename_i kt et hut
    split at hu
    · rename_i hok
      split at hu
      · cases hm
        cases hu
        refine ⟨w, ?_, Stp.refl hr⟩
        simp [Builtin.delete_, hts, r_und hut, keyOk_check hok hk]
      · rename_i mb
        cases hm with | map he =>
        rename_i b κ
        split at hu
        · rename_i es clock hg
          obtain ⟨o, hw, hb⟩ := hr.get hg he
          cases hb with | map hev =>
          rename_i ents
          split at hu
          · rename_i j v' hf
            cases hu
            obtain ⟨r', h1, h2⟩ := findA_sound (P := P) (w := w) hk hok hf hev
            cases h2 with | some h3 hvv hkk =>
            rename_i e
            rename_i j
            refine ⟨w.putObj b (.map (ents.eraseIdxIfInBounds (0 + j)) clock), ?_, Stp.put hr hg he (.map ?_)⟩
            · simp [Builtin.delete_, hts, r_und hut, keyOk_check hok hk, run_getObj_map hw, h1, run_setObj_map _ hw]
            · rw [Array.toList_eraseIdxIfInBounds]; exact hev.delNth _
          · rename_i hf
            cases hu
            obtain ⟨r', h1, h2⟩ := findA_sound (P := P) (w := w) hk hok hf hev
            cases h2
            refine ⟨w, ?_, Stp.refl hr⟩
            simp [Builtin.delete_, hts, r_und hut, keyOk_check hok hk, run_getObj_map hw, h1, run_setObj_map _ hw, putObj_self w b _ hw]
          · cases hu
        · cases hu
      · cases hu
    · cases hu
  · cases hu

end
end Go.Hx

/-! ## Operations that make a block. -/
set_option linter.unusedSimpArgs false
set_option linter.unusedVariables false
namespace Go.Hx
variable [Inp]
set_option linter.unusedSectionVars false

section
variable {ρ : Ren} {P : Program}

/-- the same memory, whatever was drawn -/
structure SameW (w w' : World) : Prop where
  heap : w'.heap = w.heap
  os : w'.os = w.os
  tape : w'.tape = w.tape
  out : w'.output = w.output

theorem SameW.refl (w : World) : SameW w w := ⟨rfl, rfl, rfl, rfl⟩
theorem SameW.drew (w : World) : SameW w w.drew := ⟨rfl, rfl, rfl, rfl⟩

theorem HR.same {h : AH} {w w' : World} (hr : HR ρ h w) (s : SameW w w') : HR ρ h w' :=
  ⟨⟨fun b hb => by rw [s.heap]; exact hr.base.inp b hb, by rw [s.heap]; exact hr.base.hsize, hr.base.above⟩, fun n a hn => by obtain ⟨b, κ, o, he, hw, hb⟩ := hr.blk n a hn; exact ⟨b, κ, o, he, by rw [s.heap]; exact hw, hb⟩, hr.inj⟩
theorem Stp.same {h : AH} {w w' : World} (hr : HR ρ h w) (s : SameW w w') : Stp ρ h w ρ h w' :=
  ⟨Nat.le_refl _, fun _ _ => rfl, hr.same s, s.os, s.tape, s.out, by rw [s.heap]; exact Nat.le_refl _, fun b _ _ => by rw [s.heap], fun _ hb _ => hb⟩

theorem range_mod (A : Array Value) (hA : A.size ≠ 0) : ∀ n : Nat, ((List.range (n * A.size)).map fun i => A[i % A.size]!) = (List.replicate n A.toList).flatten
  | 0 => by simp
  | n + 1 => by
    have e1 : (n + 1) * A.size = A.size + n * A.size := by rw [Nat.add_mul]; omega
    rw [e1, List.range_add, List.map_append, List.replicate_succ, List.flatten_cons, ← range_mod A hA n]
    congr 1
    · apply List.ext_getElem
      · simp
      · intro i h1 h2
        simp only [List.getElem_map, List.getElem_range]
        have hi : i < A.size := by simpa using h1
        rw [Nat.mod_eq_of_lt hi]
        simp [hi]
    · rw [List.map_map]
      apply List.map_congr_left
      intro i _
      simp

theorem repL_sound {z : List AV} {zv : List Value} (h : VRs ρ z zv) : ∀ n, VRs ρ (repL n z) (List.replicate n zv).flatten
  | 0 => .nil
  | n + 1 => by
    rw [List.replicate_succ, List.flatten_cons]
    exact h.append (repL_sound h n)

theorem rep_cells {z : List AV} {zv : Array Value} (h : VRs ρ z zv.toList) (hz : zv.size ≠ 0) (n : Nat) : VRs ρ (repL n z) ((Array.range (n * zv.size)).map (fun i => zv[i % zv.size]!)).toList := by
  have := range_mod zv hz n
  rw [Array.toList_map, Array.toList_range, this]
  exact repL_sound h n

theorem repL_length {α : Type} (z : List α) : ∀ n, (repL n z).length = n * z.length
  | 0 => by simp [repL]
  | n + 1 => by simp only [repL, List.length_append, repL_length z n, Nat.add_mul]; omega

theorem BR.fresh {l : List AV} {es κ : Nat} {cs : Array Value} {t : TypeId} (h : VRs ρ l cs.toList) (hκ : κ * es ≤ cs.size) : BR ρ κ (.cells l es) (.cells cs t (0, 0)) := by
  have hl := h.length
  refine .cells ?_ (by simp at hl; omega) hκ (.inl rfl)
  rw [List.take_of_length_le (by omega)]
  exact h

theorem alloc_one {v : AV} (h : allOne v.cells = true) : v.one = true ∨ ∃ l, v = .agg l := by
  cases v <;> first
    | exact .inl rfl
    | exact .inr ⟨_, rfl⟩
    | (exfalso; simp [AV.cells, allOne, AV.one] at h)

theorem fillA_length {place : Nat → Option (Nat × Nat)} : ∀ {parts : List (Nat × AV)} {cells m : List AV}, fillA place cells parts = some m → m.length = cells.length
  | [], cells, m, h => by cases h; rfl
  | (i, a) :: rest, cells, m, h => by
    simp only [fillA] at h
    split at h
    · cases h
    · split at h
      · split at h
        · rename_i m1 hm
          obtain ⟨e, hl⟩ := splice_eq _ _ _ _ hm
          rw [fillA_length h, e]; simp; omega
        · cases h
      · cases h

theorem freeze_alloc (w : World) (cs : Array Value) (e : TypeId) (n : Nat) : (w.alloc (.cells cs e (0, 0))).freeze ⟨w.heap.size, n, none⟩ 1 = w.alloc (.cells cs e (n, n + 1)) := by
  have : ((w.heap.push (.cells cs e (0, 0))).modify w.heap.size fun
      | .cells c elem (lo, hi) => .cells c elem (if lo == hi then (n, n + 1) else (min lo n, max hi (n + 1)))
      | o => o) = w.heap.push (.cells cs e (n, n + 1)) := by
    apply Array.ext_getElem?
    intro i
    rw [Array.getElem?_modify, Array.getElem?_push, Array.getElem?_push]
    by_cases h : w.heap.size = i
    · subst h; simp
    · rw [if_neg h, if_neg (Ne.symm h), if_neg (Ne.symm h)]
  show World.mk _ _ _ _ _ = World.mk _ _ _ _ _
  congr 1

theorem bytes_VRs (s : List UInt8) : VRs ρ (s.map fun b => AV.int .u8 b.toNat) (s.map fun b => Value.int .u8 b.toNat) := by
  induction s with
  | nil => exact .nil
  | cons b s ih => exact .cons (.int _ _) ih

variable {E : Env}

/-- what an operation that makes a block comes to, its block under the name m -/
theorem xalloc_sound {w : World} {tm : Tm} {n m : Nat} {a : Act} {o : Oper} {v : AV} {blk : ABlk} (hx : xalloc E tm m o = some (v, blk)) (ht : TR ρ tm n a.tmps) (hm : ρ m = none) :
    ∃ x obj κ w1, SameW w w1 ∧ (execOp a.eval o).run E.P w = .ok (.value x) (w1.alloc obj) ∧ BR ρ κ blk obj ∧ VR (ρ.with m w.heap.size κ) v x := by
  obtain ⟨dst, op, ty, pos, after, guard⟩ := o
  have lift : ∀ {s : Sem Value}, (∃ x obj κ w1, SameW w w1 ∧ s.run E.P w = .ok x (w1.alloc obj) ∧ BR ρ κ blk obj ∧ VR (ρ.with m w.heap.size κ) v x) →
      ∃ x obj κ w1, SameW w w1 ∧ (do pure (.value (← s)) : Sem Next).run E.P w = .ok (.value x) (w1.alloc obj) ∧ BR ρ κ blk obj ∧ VR (ρ.with m w.heap.size κ) v x := by
    rintro s ⟨x, obj, κ, w1, h0, h1, h2, h3⟩; exact ⟨x, obj, κ, w1, h0, by simp [h1], h2, h3⟩
  unfold xalloc at hx
  split at hx <;> (try (cases hx; done)) <;> rename_i hop <;> simp only at hop <;> subst hop
  · -- alloc
    rename_i t
    split at hx
    · rename_i z es hz hs
      split at hx
      · rename_i hone
        cases hx
        obtain ⟨i, zv, hi, hzv, hof⟩ := tzero_run hz
        have hc := (ofV_sound (ρ := ρ) hof).cells (alloc_one hone)
        refine lift (s := Instr.alloc _ true (.tuple #[])) ⟨.pointer (some ⟨w.heap.size, 0, none⟩), .cells zv.cells t (0, 0), 0, w, .refl w, ?_, BR.fresh hc (by simp), .ptr (Ren.with_same _ _ _ _)⟩
        simp [Instr.alloc, r_zero hi hzv, newVar, newRow]
      · cases hx
    · cases hx
  · -- box
    rename_i t x
    split at hx
    · rename_i xv es hx' hs
      split at hx
      · rename_i hone
        cases hx
        have hc := (evalA_sound (ρ := ρ) ht hx').cells (alloc_one hone)
        refine lift (s := Instr.box _ _) ⟨.pointer (some ⟨w.heap.size, 0, none⟩), .cells (a.eval x).cells t (0, 0), 0, w, .refl w, ?_, BR.fresh hc (by simp), .ptr (Ren.with_same _ _ _ _)⟩
        simp [Instr.box, newVar, newRow]
      · cases hx
    · cases hx
  · -- buildSlice
    rename_i t len parts
    split at hx
    · rename_i ps hps
      have hps' := evalP_sound (ρ := ρ) ht hps
      unfold buildSliceA at hx
      split at hx
      · rename_i e hu
        split at hx
        · rename_i es z hs hz
          split at hx
          · rename_i hc
            simp only [Bool.and_eq_true, Bool.not_eq_true'] at hc
            obtain ⟨⟨⟨⟨hb, hl⟩, hone⟩, hpk⟩, hes⟩ := hc
            split at hx
            · rename_i l hf
              split at hx
              · cases hx
                obtain ⟨i, zv, hi, hzv, hof⟩ := tzero_run hz
                have hzc := (ofV_sound (ρ := ρ) hof).cells (alloc_one hone)
                have hzl : zv.cells.size = es := by have := hzc.length; have h2 := beq_yes hl; simp at this; omega
                have hes' : es ≠ 0 := by intro e0; rw [e0] at hes; simp at hes
                have hrep := rep_cells hzc (by omega) len
                rw [hzl] at hrep
                obtain ⟨out, ho, hr⟩ := fill_sound (place' := fun i => some (i * es, es)) (fun i => rfl) hf hps' (partsOK_spec hpk) hrep
                have hlen := fillA_length hf
                have hol := hr.length
                refine lift (s := Instr.buildSlice _ _ _) ⟨.slice (some ⟨w.heap.size, 0, none⟩) len len, .cells out e (0, 0), 0, w, .refl w, ?_, BR.fresh hr (by simp), .slice (Ren.with_same _ _ _ _) (Nat.le_refl _)⟩
                have hbig : ¬ len * es > 2 ^ 24 := by have := Nat.le_of_ble_eq_true hb; omega
                have hparts : (parts.map fun (i, x) => (i, a.eval x)).toList = parts.toList.map fun (i, x) => (i, a.eval x) := by simp
                by_cases h0 : len * es = 0
                · have hl0 : len = 0 := by
                    rcases Nat.mul_eq_zero.1 h0 with h | h
                    · exact h
                    · exact absurd h hes'
                  subst hl0
                  have ho' : Instr.fill (fun i => some (i * es, es)) ((Array.range (0 * es)).map (fun i => (#[] : Array Value)[i % (#[] : Array Value).size]!)) (parts.map fun (i, x) => (i, a.eval x)).toList = some out := by
                    rw [hparts, ← ho]
                    have e0 : ∀ f : Nat → Value, (Array.range (0 * es)).map f = #[] := by intro f; simp
                    rw [e0, e0]
                  simp only [Instr.buildSlice, Sem.run_bind, r_und hu, r_size hs, Result.andThen_ok, if_neg hbig, h0, if_true, Sem.run_pure, Sem.run_ite]
                  simp only [Nat.zero_mul] at ho' ⊢
                  simp only [ho', Sem.run_bind, Sem.run_pure, newRow, run_newObj_alloc, Result.andThen_ok]
                  rw [if_neg (by omega)]
                · simp only [Instr.buildSlice, Sem.run_bind, r_und hu, r_size hs, Result.andThen_ok, if_neg hbig, if_neg h0, Sem.run_ite, r_zero hi hzv, Sem.run_pure, hzl, hparts, ho, newRow, run_newObj_alloc]
              · cases hx
            · cases hx
          · cases hx
        · cases hx
      · cases hx
    · cases hx
  · -- a string's bytes
    rename_i src dst x
    split at hx
    · rename_i x' hx'
      have hv := evalA_sound (ρ := ρ) ht hx'
      generalize hxv : a.eval x = xv at hv
      unfold strBytesA at hx
      split at hx
      · rename_i e s hs hd
        cases hv
        split at hx
        · rename_i hu
          split at hx
          · rename_i hsz
            split at hx
            · rename_i hlen
              cases hx
              have hlen' := Nat.le_of_ble_eq_true hlen
              have hss : (⟨s.toArray⟩ : ByteArray).size = s.length := by simp [ByteArray.size]
              obtain ⟨cap, hcap, hle⟩ : ∃ cap, (Question.appendCap s.length 0 e).cut (w.tape w.drawn (Question.appendCap s.length 0 e)) = cap ∧ s.length ≤ cap := ⟨_, rfl, by simp [Question.cut]⟩
              refine lift (s := convert _ _ _) ⟨.slice (some ⟨w.heap.size, 0, none⟩) s.length cap,
                .cells ((s.toArray.map fun b => Value.int .u8 b.toNat) ++ Array.replicate (cap - s.length) (.int .u8 0)) e (cap, cap + 1), cap, w.drew, .drew w, ?_, ?_, ?_⟩
              · have hsize : ((s.toArray.map fun b => Value.int .u8 b.toNat) ++ Array.replicate (cap - s.length) (Value.int .u8 0)).size = cap := by simp; omega
                simp only [hxv, convert, Sem.run_bind, r_und hs, r_und hd, r_und hu, Result.andThen_ok, Conv.stringToBytes, run_choose, Question.forced, Bool.false_eq_true, if_false, hss, hcap, newRow, run_newObj_alloc, Sem.run_pure,
                  markStringish, run_shape, World.drew_eq]
                have hsh : (World.alloc w.drew (.cells ((s.toArray.map fun b => Value.int .u8 b.toNat) ++ Array.replicate (cap - s.length) (.int .u8 0)) e)).shape? w.drew.heap.size = some (e, cap) := by
                  simp only [World.shape?]
                  rw [World.alloc_heap_new]
                  simp only [hsize]
                simp only [hsh, Sem.run_bind, run_freeze, Result.andThen_ok, Sem.run_pure]
                rw [freeze_alloc]
                rfl
              · refine .cells ?_ (by simp) (by simp; omega) (.inr (by simp; omega))
                have := bytes_VRs (ρ := ρ) s
                simpa using this
              · have := VR.uslice (ρ := ρ.with m w.heap.size cap) (n := m) (off := 0) (len := s.length) (sk := 0) (Ren.with_same _ _ _ _) (by omega)
                simpa using this
            · cases hx
          · cases hx
        · cases hx
      · cases hx
    · cases hx
  · -- a map
    cases hx
    refine lift (s := Instr.makeMap _ _) ⟨.map (some w.heap.size), .map #[] 0, 0, w, .refl w, ?_, .map .nil, .map (Ren.with_same _ _ _ _)⟩
    simp [Instr.makeMap]
  · -- makeSlice
    rename_i t l c
    split at hx
    · rename_i lv cv hl hc
      have hl' := evalA_sound (ρ := ρ) ht hl
      have hc' := evalA_sound (ρ := ρ) ht hc
      refine lift (s := Instr.makeSlice t (a.eval l) (a.eval c)) ?_
      generalize a.eval l = lx at hl' ⊢
      generalize a.eval c = cx at hc' ⊢
      unfold makeSliceA at hx
      split at hx
      · rename_i kl li kc ci
        cases hl'; cases hc'
        split at hx
        · rename_i e hu
          split at hx
          · rename_i es z i hs hz hi
            split at hx
            · rename_i hcond
              simp only [Bool.and_eq_true, decide_eq_true_eq, Bool.not_eq_true'] at hcond
              obtain ⟨⟨⟨⟨⟨⟨h0, h1⟩, h2⟩, h3⟩, h4⟩, h5⟩, h6⟩ := hcond
              cases hx
              obtain ⟨i', zv, hi', hzv, hof⟩ := tzero_run hz
              rw [hi] at hi'; cases hi'
              have hzc := (ofV_sound (ρ := ρ) hof).cells (alloc_one h5)
              have hzl : zv.cells.size = es := by have := hzc.length; have h2 := beq_yes h4; simp at this; omega
              have hes' : es ≠ 0 := by intro e0; rw [e0] at h6; simp at h6
              have hrep := rep_cells hzc (by omega) ci.toNat
              rw [hzl] at hrep
              have h3' := Nat.le_of_ble_eq_true h3
              have wl : IntKind.i64.wrap li = li := by unfold IntKind.wrap; simp [IntKind.bits, IntKind.signed]; omega
              have wc : IntKind.i64.wrap ci = ci := by unfold IntKind.wrap; simp [IntKind.bits, IntKind.signed]; omega
              have hbytes : ¬ ((i.bytes : Int) * ci > 2 ^ 48) := by
                have : (i.bytes : Int) * ci ≤ 100000 * 100000 := Int.mul_le_mul (by omega) (by omega) (by omega) (by omega)
                omega
              have hes : (sizeOf e).run E.P w = .ok es w := r_size hs
              refine ⟨.slice (some ⟨w.heap.size, 0, none⟩) li.toNat ci.toNat, .cells ((Array.range (ci.toNat * es)).map (fun i => zv.cells[i % es]!)) e (0, 0), 0, w, .refl w, ?_, BR.fresh hrep (by simp), .slice (Ren.with_same _ _ _ _) (by omega)⟩
              have g1 : ¬ (ci < 0) := by omega
              have g2 : ¬ (li < 0) := by omega
              have g3 : ¬ (li > ci) := by omega
              simp only [Instr.makeSlice, Sem.run_bind, r_und hu, Result.andThen_ok, asInt, asIntOf, Sem.run_pure, r_info hi, wl, wc, run_askRoom, hes, newRow, run_newObj_alloc]
              have g4 : (decide (ci < 0) || decide (↑i.bytes * ci > 2 ^ 48) || decide (li < 0) || decide (li > ci)) = false := by
                simp only [g1, g2, g3, hbytes, decide_false, Bool.or_false]
              simp only [g4, Bool.false_eq_true, if_false, Sem.run_bind, run_askRoom, Result.andThen_ok, hes]
              by_cases hn0 : ci.toNat * es = 0
              · have hc0 : ci.toNat = 0 := by
                  rcases Nat.mul_eq_zero.1 hn0 with h | h
                  · exact h
                  · exact absurd h hes'
                have e0 : ∀ f : Nat → Value, (Array.range (ci.toNat * es)).map f = #[] := by intro f; rw [hn0]; simp
                simp only [hn0, if_true, Sem.run_pure, Result.andThen_ok, Sem.run_ite, Sem.run_bind, newRow, run_newObj_alloc]
                have e1 : ∀ f : Nat → Value, (Array.range 0).map f = #[] := by intro f; simp
                rw [e1, e1]
              · simp only [if_neg hn0, Sem.run_ite, Sem.run_bind, r_zero hi hzv, Sem.run_pure, Result.andThen_ok, hzl, newRow, run_newObj_alloc]
            · cases hx
          · cases hx
        · cases hx
      · cases hx
    · cases hx

end
end Go.Hx

/-! ## append, copy, ranges; then all operations that act but make no call. -/
set_option linter.unusedSimpArgs false
set_option linter.unusedVariables false
namespace Go.Hx
variable [Inp]
set_option linter.unusedSectionVars false

section
variable {ρ : Ren} {P : Program}

/-- a name that is given up -/
theorem Stp.drop {h : AH} {w : World} (hr : HR ρ h w) (n : Nat) : Stp ρ h w ρ (h.drop n) w where
  next := Nat.le_refl _
  keep _ _ := rfl
  hr := ⟨⟨hr.base.inp, hr.base.hsize, fun m a b κ hm => by rw [AH.get_drop] at hm; split at hm; cases hm; exact hr.base.above m a b κ hm⟩, fun m a hm => by rw [AH.get_drop] at hm; split at hm; cases hm; exact hr.blk m a hm,
    fun m k a a' b κ κ' hm hk => by
      rw [AH.get_drop] at hm hk
      split at hm
      · cases hm
      · split at hk
        · cases hk
        · exact hr.inj m k a a' b κ κ' hm hk⟩
  os := rfl
  tape := rfl
  out := rfl
  size := Nat.le_refl _
  frame _ _ _ := rfl
  old b := by
    rintro ⟨m, a, κ, hm, he⟩ _
    rw [AH.get_drop] at hm
    split at hm
    · cases hm
    · exact ⟨m, a, κ, hm, he⟩

/-- a block that turns, and gets a new name -/
theorem Stp.rename {h : AH} {w : World} (hr : HR ρ h w) (f : ρ h.next = none) {n b κ : Nat} {a a' : ABlk} {o' : Obj} (hn : h.get n = some a) (he : ρ n = some (b, κ))
    (hb : BR (ρ.with h.next b κ) κ a' o') : Stp ρ h w (ρ.with h.next b κ) ((h.drop n).new a') (w.putObj b o') := by
  have ext := Ren.with_ext (b := b) (κ := κ) f
  have hin : InH ρ h b := ⟨n, a, κ, hn, he⟩
  have hlt := hr.lt hin
  have hne : n ≠ h.next := fun e => by rw [e, f] at he; cases he
  have hget : ∀ m x, ((h.drop n).new a').get m = some x → (m = h.next ∧ x = a') ∨ (m ≠ h.next ∧ m ≠ n ∧ h.get m = some x) := by
    intro m x hm
    rw [AH.get_new, show (h.drop n).next = h.next from rfl] at hm
    by_cases e : m = h.next
    · left; rw [if_pos e] at hm; cases hm; exact ⟨e, rfl⟩
    · right
      rw [if_neg e, AH.get_drop] at hm
      by_cases e' : m = n
      · rw [if_pos e'] at hm; cases hm
      · rw [if_neg e'] at hm; exact ⟨e, e', hm⟩
  refine Stp.mkB hr (Nat.le_succ _) ?_ ?_ ?_ rfl rfl rfl (by simp) ?_ ?_
  · intro m hm
    have : m ≠ h.next := fun e => hm (by subst e; exact ⟨Nat.le_refl _, Nat.lt_succ_self _⟩)
    simp [Ren.with, this]
  · intro m x hm
    rcases hget m x hm with ⟨rfl, rfl⟩ | ⟨h1, h2, h3⟩
    · exact ⟨b, κ, o', Ren.with_same _ _ _ _, World.putObj_heap_same hlt, hb⟩
    · obtain ⟨b2, κ2, o2, he2, hw2, hb2⟩ := hr.blk m x h3
      have hne2 : b2 ≠ b := fun eq => h2 (hr.inj m n x a b κ2 κ h3 hn (by rw [← eq]; exact he2) he)
      exact ⟨b2, κ2, o2, ext _ _ he2, by rw [World.putObj_heap_other hne2]; exact hw2, hb2.ext ext⟩
  · intro m k x y b2 κ2 κ3 hm hk e1 e2
    rcases hget m x hm with ⟨rfl, rfl⟩ | ⟨h1, h2, h3⟩
    · rcases hget k y hk with ⟨rfl, rfl⟩ | ⟨g1, g2, g3⟩
      · rfl
      · exfalso
        rw [Ren.with_same] at e1; cases e1
        have : ρ k = some (b, κ3) := by simpa [Ren.with, g1] using e2
        exact g2 (hr.inj k n y a b κ3 κ g3 hn this he)
    · have h4 : ρ m = some (b2, κ2) := by simpa [Ren.with, h1] using e1
      rcases hget k y hk with ⟨rfl, rfl⟩ | ⟨g1, g2, g3⟩
      · exfalso
        rw [Ren.with_same] at e2; cases e2
        exact h2 (hr.inj m n x a b κ2 κ h3 hn h4 he)
      · have g4 : ρ k = some (b2, κ3) := by simpa [Ren.with, g1] using e2
        exact hr.inj m k x y b2 κ2 κ3 h3 g3 h4 g4
  · intro b2 _ hno
    exact World.putObj_heap_other (fun e => hno (by rw [e]; exact hin))
  · rintro b2 ⟨m, x, k, hm, e1⟩ _
    rcases hget m x hm with ⟨rfl, rfl⟩ | ⟨h1, h2, h3⟩
    · rw [Ren.with_same] at e1; cases e1; exact hin
    · exact ⟨m, x, k, h3, by simpa [Ren.with, h1] using e1⟩

/-! ### elements -/
theorem SameW.cell {w w' : World} (s : SameW w w') (a : Addr) : w'.cell? a = w.cell? a := by unfold World.cell?; rw [s.heap]

theorem elems_sound {h : AH} {w : World} {es n : Nat} {x : AV} {vx : Value} {l : List AV} (hr : HR ρ h w) (he : elems h es n x = some l) (hx : VR ρ x vx) :
    ∃ vs : List Value, (∀ w', SameW w w' → (Builtin.firstCells es n vx).run P w' = .ok vs.toArray w') ∧ VRs ρ l vs := by
  unfold elems at he
  split at he
  · rename_i b off len kn c
    have go : ∀ {bb κ cap : Nat}, ρ b = some (bb, κ) → ∃ vs : List Value, (∀ w', SameW w w' → (Builtin.firstCells es n (.slice (some ⟨bb, off, none⟩) len cap)).run P w' = .ok vs.toArray w') ∧ VRs ρ l vs := by
      intro bb κ cap hb
      obtain ⟨vs, hv, hn, hc⟩ := rd_sound hr hb he
      refine ⟨vs, fun w' sw => ?_, hv⟩
      have := run_loadCells_list (P := P) w' _ vs (fun j v hj => by rw [sw.cell]; exact hc j v hj)
      rw [hn] at this
      simpa [Builtin.firstCells] using this
    cases hx with
    | slice hb _ => exact go hb
    | uslice hb _ => exact go hb
  · cases hx with | eslice =>
    split at he
    · rename_i h0
      cases he
      have := beq_yes h0
      exact ⟨[], fun w' _ => by simp [Builtin.firstCells, this, loadCells, loadCellsFrom], .nil⟩
    · cases he
  · cases hx
    split at he
    · cases he; exact ⟨[], fun w' _ => by simp [Builtin.firstCells], .nil⟩
    · cases he
  · rename_i s
    cases hx
    split at he
    · rename_i hl
      cases he
      have hl' := Nat.le_of_ble_eq_true hl
      refine ⟨(s.take n).map fun b => .int .u8 b.toNat, fun w' _ => ?_, bytes_VRs _⟩
      simp only [Builtin.firstCells, Sem.run_pure, some_str_extract s 0 n hl', List.drop_zero]
      simp
    · cases he
  · cases he

theorem lenA_sound {x : AV} {vx : Value} {n : Nat} (h : lenA x = some n) (hx : VR ρ x vx) {w : World} : (Builtin.lenOf vx).run P w = .ok n w := by
  unfold lenA at h
  split at h <;> (try cases h)
  · cases hx <;> simp [Builtin.lenOf]
  · cases hx; simp [Builtin.lenOf]
  · cases hx; simp [Builtin.lenOf]
  · cases hx; simp [Builtin.lenOf, ByteArray.size]

theorem elems_length {h : AH} {es n : Nat} {x : AV} {l : List AV} (he : elems h es n x = some l) (hes : ∀ s, x = .str s → es = 1) : l.length = n * es := by
  unfold elems at he
  split at he
  · unfold rd at he
    split at he
    · split at he
      · obtain ⟨e, hl⟩ := takeN_eq _ _ _ he
        rw [e]; simp; omega
      · cases he
    · cases he
  · split at he
    · rename_i h0; cases he; have := beq_yes h0; simp [this]
    · cases he
  · split at he
    · rename_i h0; cases he; have := beq_yes h0; simp [this]
    · cases he
  · rename_i s
    split at he
    · rename_i hl
      cases he
      have hl' := Nat.le_of_ble_eq_true hl
      rw [hes s rfl]; simp; omega
    · cases he
  · cases he

theorem zeroCells_size (z : Array Value) (n : Nat) : (Builtin.zeroCells z n).size = n * z.size := by simp [Builtin.zeroCells]

/-- a row that grows: the old elements, the new ones, and what is behind them -/
theorem grow_sound {h : AH} {w : World} {e es m : Nat} {old new : List AV} {ov nv : List Value} (hr : HR ρ h w) (f : ρ h.next = none) (ho : VRs ρ old ov) (hn : VRs ρ new nv) (z : Array Value) (hz : z.size = es)
    (hlen : old.length + new.length = m * es) (cap : Nat) (hc : m ≤ cap) :
    Stp ρ h w (ρ.with h.next w.heap.size cap) (h.new (.cells (old ++ new) es)) (w.drew.alloc (.cells ((ov.toArray ++ nv.toArray ++ Builtin.zeroCells z (cap - m))) e)) := by
  have hs := Stp.drew hr
  have ext := Ren.with_ext (b := w.heap.size) (κ := cap) f
  have hb : BR (ρ.with h.next w.heap.size cap) cap (.cells (old ++ new) es) (.cells (ov.toArray ++ nv.toArray ++ Builtin.zeroCells z (cap - m)) e (0, 0)) := by
    have l1 := ho.length
    have l2 := hn.length
    have hsz : (ov.toArray ++ nv.toArray ++ Builtin.zeroCells z (cap - m)).size = cap * es := by
      simp only [Array.size_append, List.size_toArray, zeroCells_size, hz]
      have : cap * es = m * es + (cap - m) * es := by rw [← Nat.add_mul]; congr 1; omega
      omega
    refine .cells ?_ ?_ (by omega) (.inl rfl)
    · have e1 : (ov.toArray ++ nv.toArray ++ Builtin.zeroCells z (cap - m)).toList.take (old ++ new).length = ov ++ nv := by
        simp only [Array.toList_append, List.toList_toArray]
        rw [List.take_append_of_le_length (by simp; omega), List.take_of_length_le (by simp; omega)]
      rw [e1]
      exact (ho.append hn).ext ext
    · simp only [List.length_append]
      rw [hsz, hlen]
      exact Nat.mul_le_mul_right _ hc
  exact (Stp.drew hr).trans (Stp.alloc (w := w.drew) hr.drew f cap hb)

theorem run_append_fit {w w' : World} {st ty e xt' : TypeId} {i : TypeInfo} {d : TypeDesc} {ts : Array TypeId} {base : Option Addr} {len cap n : Nat} {vx : Value} {nv : List Value} (hts : ts[0]? = some st)
    (hxt : ts[1]? = some xt') (hu : P.underlying st = some (.slice e)) (hi : P.info? e = some i) (hux : P.underlying xt' = some d) (hd : ∀ k, d ≠ .int k)
    (hlen : (Builtin.lenOf vx).run P w = .ok n w) (hc : (Builtin.firstCells i.size n vx).run P w = .ok nv.toArray w) (hfit : len + n ≤ cap)
    (hst : (base = none ∧ w' = w) ∨ ∃ a, base = some a ∧ (storeCells (a.add (len * i.size)) nv).run P w = .ok () w') :
    (Builtin.append_ ts ty #[.slice base len cap, vx]).run P w = .ok (.slice base (len + n) cap) w' := by
  have hz : (match d with | .int _ => true | _ => false) = false := by cases d <;> first | rfl | (exact absurd rfl (hd _))
  have hs : (sizeOf e).run P w = .ok i.size w := by simp [sizeOf, r_info hi]
  unfold Builtin.append_
  simp only [hts, hxt, List.getElem?_toArray, List.getElem?_cons_zero, List.getElem?_cons_succ, Sem.run_bind, r_und hu, Result.andThen_ok, hs, r_und hux, Sem.run_pure, hz, Bool.false_eq_true, if_false,
    hlen, Bool.not_false, if_true, hfit, hc]
  rcases hst with ⟨rfl, rfl⟩ | ⟨a, rfl, hst⟩
  · simp
  · simp [hst]

theorem run_append_grow {w : World} {st ty e xt' : TypeId} {i : TypeInfo} {z : Value} {d : TypeDesc} {ts : Array TypeId} {base : Option Addr} {len cap n : Nat} {vx : Value} {ov nv : List Value} (hts : ts[0]? = some st)
    (hxt : ts[1]? = some xt') (hu : P.underlying st = some (.slice e)) (hi : P.info? e = some i) (hz : i.zero = some z) (hux : P.underlying xt' = some d) (hd : ∀ k, d ≠ .int k)
    (hlen : (Builtin.lenOf vx).run P w = .ok n w) (hc : ∀ w', SameW w w' → (Builtin.firstCells i.size n vx).run P w' = .ok nv.toArray w')
    (ho : ∀ w', SameW w w' → (Builtin.firstCells i.size len (.slice base len cap)).run P w' = .ok ov.toArray w') (hgrow : ¬ len + n ≤ cap) (hb : i.bytes ≠ 0) (hbig : (len + n) * i.bytes ≤ 140737488355328) :
    ∃ c, len + n ≤ c ∧ (Builtin.append_ ts ty #[.slice base len cap, vx]).run P w = .ok (.slice (some ⟨w.heap.size, 0, none⟩) (len + n) c) (w.drew.alloc (.cells (ov.toArray ++ nv.toArray ++ Builtin.zeroCells z.cells (c - (len + n))) e)) := by
  have hz' : (match d with | .int _ => true | _ => false) = false := by cases d <;> first | rfl | (exact absurd rfl (hd _))
  have hs : (sizeOf e).run P w = .ok i.size w := by simp [sizeOf, r_info hi]
  refine ⟨(Question.appendCap (len + n) cap e).cut (w.tape w.drawn (Question.appendCap (len + n) cap e)), by simp [Question.cut], ?_⟩
  have hfits := growslice_fits (need := len + n) (old := cap) (bytes := i.bytes) (by omega) hbig
  have h1 : ¬ (((len + n : Nat) : Int) > IntKind.i64.max ∧ ((false = true) ∨ i.bytes = 0)) := by
    rintro ⟨_, h | h⟩
    · cases h
    · exact hb h
  have h2 : ¬ Builtin.nextslicecap (len + n) cap * i.bytes > 2 ^ 48 := by omega
  unfold Builtin.append_
  simp only [hts, hxt, List.getElem?_toArray, List.getElem?_cons_zero, List.getElem?_cons_succ, Sem.run_bind, r_und hu, Result.andThen_ok, hs, r_und hux, Sem.run_pure, hz', Bool.false_eq_true, if_false,
    hlen, Bool.not_false, if_true, hgrow, r_info hi, Sem.run_ite, run_choose, Question.forced, run_askRoom, World.drew_eq, hc _ (SameW.drew w), ho _ (SameW.drew w), r_zero hi hz, newRow, run_newObj_alloc]
  rw [if_neg (by rintro ⟨_, h | h⟩; cases h; exact hb h), if_neg h2]
  rfl

theorem zeroOK_spec {t : TypeId} {n : Nat} (h : zeroOK P t n = true) : ∃ i zv, P.info? t = some i ∧ i.zero = some zv ∧ zv.cells.size = n := by
  unfold zeroOK at h
  split at h
  · rename_i z hz
    simp only [Bool.and_eq_true] at h
    obtain ⟨i, zv, hi, hzv, hof⟩ := tzero_run hz
    have hc := (ofV_sound (ρ := fun _ => none) hof).cells (shapeOK_spec h.1)
    have := hc.length
    have h2 := beq_yes h.2
    exact ⟨i, zv, hi, hzv, by simp at this; omega⟩
  · cases h

theorem appendA_sound {h h' : AH} {w : World} {st ty : TypeId} {ts : Array TypeId} {xt : Option TypeId} {s x r : AV} {vs vx : Value} (hts : ts[0]? = some st) (hxt : ts[1]? = xt) (hr : HR ρ h w)
    (ha : appendA P h st xt s x = some (r, h')) (hf : Fresh ρ h.next h'.next) (hs : VR ρ s vs) (hx : VR ρ x vx) :
    ∃ v w' ρ', (Builtin.append_ ts ty #[vs, vx]).run P w = .ok v w' ∧ Stp ρ h w ρ' h' w' ∧ VR ρ' r v := by
  unfold appendA at ha
  split at ha
  · rename_i e hu
    split at ha
    · rename_i i hi
      split at ha
      · rename_i xt'
        split at ha
        · cases ha
        · cases ha
        · rename_i d hd hux
          have hd' : ∀ k, d ≠ .int k := fun k e => hd k e
          split at ha
          · rename_i n hn
            split at ha
            · rename_i new hnew
              split at ha
              · cases ha
              · rename_i hcond
                simp only [Bool.or_eq_true, not_or, Bool.not_eq_true', Bool.not_eq_false', Bool.not_eq_true, Bool.not_eq_false] at hcond
                obtain ⟨⟨⟨⟨⟨hbytes, hbig⟩, hone⟩, hsize⟩, hzero⟩, hnl⟩ := hcond
                have hbytes' : i.bytes ≠ 0 := by intro e0; rw [e0] at hbytes; simp at hbytes
                have hsize' : i.size ≠ 0 := by intro e0; rw [e0] at hsize; simp at hsize
                have hbig' := Nat.le_of_ble_eq_true hbig
                have hnl' := beq_yes hnl
                obtain ⟨i2, zv, hi2, hzv, hzs⟩ := zeroOK_spec hzero
                rw [hi] at hi2; cases hi2
                have hlen : ∀ w', (Builtin.lenOf vx).run P w' = .ok n w' := fun w' => lenA_sound hn hx
                have hone' : ∀ {nv}, VRs ρ new nv → ∀ v ∈ nv, v.oneCell' = true := fun hv => allOne_mem hv hone
                have bigger : ∀ len, len ≤ 1000000 → (len + n) * i.bytes ≤ 140737488355328 := fun len hl => Nat.le_trans (Nat.mul_le_mul_right _ (by omega)) hbig'
                obtain ⟨nv, hnv, hnr⟩ := elems_sound (P := P) hr hnew hx
                have hnvl := hnr.length
                split at ha
                · -- nil
                  cases hs
                  split at ha
                  · rename_i hn0
                    cases ha
                    have := beq_yes hn0
                    subst this
                    refine ⟨_, w, ρ, run_append_fit hts hxt hu hi hux hd' (hlen w) (hnv w (.refl w)) (Nat.le_refl _) (.inl ⟨rfl, rfl⟩), Stp.refl hr, .nilslice⟩
                  · rename_i hn0
                    cases ha
                    have hn0' : ¬ 0 + n ≤ 0 := by
                      intro h0
                      apply hn0
                      have : n = 0 := by omega
                      rw [this]; rfl
                    have hfr : ρ h.next = none := hf h.next (Nat.le_refl _) (Nat.lt_succ_self _)
                    obtain ⟨c, hc, hrun⟩ := run_append_grow (ty := ty) (ov := []) hts hxt hu hi hzv hux hd' (hlen w) hnv (fun w' _ => (rfl : (Builtin.firstCells i.size 0 (.slice none 0 0)).run P w' = .ok #[] w')) hn0' hbytes' (bigger 0 (by omega))
                    have hst := grow_sound (e := e) (m := n) hr hfr (.nil (ρ := ρ)) hnr zv.cells hzs (by simpa using hnl') c (by omega)
                    rw [Nat.zero_add] at hrun
                    refine ⟨_, _, _, hrun, by simpa using hst, ?_⟩
                    have := VR.uslice (ρ := ρ.with h.next w.heap.size c) (n := h.next) (off := 0) (len := n) (sk := 0) (Ren.with_same _ _ _ _) (by omega)
                    simpa using this
                · -- a known capacity
                  rename_i b off len c
                  cases hs with | slice hb hlc =>
                  rename_i bb κ
                  split at ha
                  · rename_i hfit
                    have hfit' := Nat.le_of_ble_eq_true hfit
                    split at ha
                    · rename_i h2 hw
                      cases ha
                      obtain ⟨w', hrun, hst⟩ := wr_sound (P := P) hr hb hw hnr (hone' hnr)
                      exact ⟨_, w', ρ, run_append_fit hts hxt hu hi hux hd' (hlen w) (hnv w (.refl w)) hfit' (.inr ⟨_, rfl, by rw [addr_add]; exact hrun⟩), hst, .slice hb (by omega)⟩
                    · cases ha
                  · rename_i hfit
                    have hfit' : ¬ len + n ≤ c := fun h0 => hfit (Nat.ble_eq_true_of_le h0)
                    split at ha
                    · rename_i hl6
                      have hl6' := Nat.le_of_ble_eq_true hl6
                      split at ha
                      · rename_i old hrd
                        cases ha
                        have hfr : ρ h.next = none := hf h.next (Nat.le_refl _) (Nat.lt_succ_self _)
                        obtain ⟨ov, hov, hol, hoc⟩ := rd_sound hr hb hrd
                        have hold : ∀ w', SameW w w' → (Builtin.firstCells i.size len (.slice (some ⟨bb, off, none⟩) len c)).run P w' = .ok ov.toArray w' := by
                          intro w' sw
                          have := run_loadCells_list (P := P) w' _ ov (fun j v hj => by rw [sw.cell]; exact hoc j v hj)
                          rw [hol] at this
                          simpa [Builtin.firstCells] using this
                        obtain ⟨c', hc', hrun⟩ := run_append_grow (ty := ty) hts hxt hu hi hzv hux hd' (hlen w) hnv hold hfit' hbytes' (bigger len hl6')
                        have hlo := hov.length
                        have hst := grow_sound (e := e) (m := len + n) hr hfr hov hnr zv.cells hzs (by rw [hnl', Nat.add_mul]; omega) c' hc'
                        refine ⟨_, _, _, hrun, hst, ?_⟩
                        have := VR.uslice (ρ := ρ.with h.next w.heap.size c') (n := h.next) (off := 0) (len := len + n) (sk := 0) (Ren.with_same _ _ _ _) (by omega)
                        simpa using this
                      · cases ha
                    · cases ha
                · -- a capacity that is not known
                  rename_i b off len
                  cases hs with | uslice hb hlc =>
                  rename_i bb κ
                  split at ha
                  · rename_i hoff
                    have hoff' := beq_yes hoff
                    subst hoff'
                    split at ha
                    · rename_i hn0
                      cases ha
                      have := beq_yes hn0
                      subst this
                      have hnv0 : nv = [] := by
                        have : nv.length = 0 := by rw [hnvl, hnl']; simp
                        exact List.length_eq_zero_iff.1 this
                      subst hnv0
                      refine ⟨_, w, ρ, run_append_fit hts hxt hu hi hux hd' (hlen w) (hnv w (.refl w)) (by omega) (.inr ⟨_, rfl, rfl⟩), Stp.refl hr, .uslice hb hlc⟩
                    · rename_i hn0
                      split at ha
                      · rename_i hl6
                        have hl6' := Nat.le_of_ble_eq_true hl6
                        split at ha
                        · rename_i l es hg
                          split at ha
                          · rename_i hes
                            have hes' := beq_yes hes
                            subst hes'
                            split at ha
                            · rename_i old htk
                              cases ha
                              obtain ⟨eold, lold⟩ := takeN_eq _ _ _ htk
                              have hfr : ρ h.next = none := hf h.next (Nat.le_refl _) (Nat.lt_succ_self _)
                              have hrd : rd h b 0 (len * i.size) = some old := by simp [rd, hg, dropN, htk]
                              obtain ⟨ov, hov, hol, hoc⟩ := rd_sound hr hb hrd
                              have hlo := hov.length
                              by_cases hfit : len + n ≤ κ - 0
                              · -- in place
                                obtain ⟨o, hwb, hbr⟩ := hr.get hg hb
                                cases hbr with | cells hcv hcl hκ hfz =>
                                rename_i cs t lo hi'
                                have hroom : (len + n) * i.size ≤ cs.size := Nat.le_trans (Nat.mul_le_mul_right _ (by omega)) hκ
                                have hroom' : len * i.size + nv.length ≤ cs.size := by
                                  rw [hnvl, hnl', ← Nat.add_mul]; exact hroom
                                have hst := run_storeCells_gen (P := P) bb (len * i.size) t (lo, hi') nv 0 cs w hwb (by simpa using hroom') (thawed hfz) (hone' hnr)
                                simp only [Nat.add_zero] at hst
                                have hbr : BR (ρ.with h.next bb κ) κ (.cells (old ++ new) i.size) (.cells (cs.toList.take (len * i.size) ++ nv ++ cs.toList.drop (len * i.size + nv.length)).toArray t (lo, hi')) := by
                                  have hsz : (cs.toList.take (len * i.size) ++ nv ++ cs.toList.drop (len * i.size + nv.length)).toArray.size = cs.size := by simp; omega
                                  have hol2 : old.length = len * i.size := by rw [eold]; simp; omega
                                  have hov2 : ov = cs.toList.take (len * i.size) := by
                                    apply List.ext_getElem?
                                    intro k
                                    by_cases hk : k < len * i.size
                                    · have h1 : ov[k]? = some (ov[k]'(by omega)) := List.getElem?_eq_getElem _
                                      have h2 := hoc k _ h1
                                      rw [addr_add, Nat.zero_add] at h2
                                      have h3 : w.cell? ⟨bb, k, none⟩ = cs[k]? := by simp [World.cell?, hwb]
                                      rw [h3] at h2
                                      rw [h1, List.getElem?_take, if_pos hk]
                                      simpa using h2.symm
                                    · rw [List.getElem?_eq_none (by omega), List.getElem?_eq_none (by simp; omega)]
                                  refine .cells ?_ ?_ ?_ ?_
                                  · have e1 : (cs.toList.take (len * i.size) ++ nv ++ cs.toList.drop (len * i.size + nv.length)).toArray.toList.take (old ++ new).length = ov ++ nv := by
                                      rw [List.toList_toArray, ← hov2]
                                      rw [List.take_append_of_le_length (by simp; omega), List.take_of_length_le (by simp; omega)]
                                    rw [e1]
                                    exact (hov.append hnr).ext (Ren.with_ext hfr)
                                  · rw [hsz]; simp only [List.length_append]; omega
                                  · rw [hsz]; exact hκ
                                  · rw [hsz]; exact hfz
                                refine ⟨_, _, _, run_append_fit hts hxt hu hi hux hd' (hlen w) (hnv w (.refl w)) hfit (.inr ⟨_, rfl, by rw [addr_add, Nat.zero_add]; exact hst⟩), Stp.rename hr hfr hg hb hbr, ?_⟩
                                exact .uslice (Ren.with_same _ _ _ _) (by omega)
                              · -- a new row
                                have hold : ∀ w', SameW w w' → (Builtin.firstCells i.size len (.slice (some ⟨bb, 0, none⟩) len (κ - 0))).run P w' = .ok ov.toArray w' := by
                                  intro w' sw
                                  have := run_loadCells_list (P := P) w' _ ov (fun j v hj => by rw [sw.cell]; exact hoc j v hj)
                                  rw [hol] at this
                                  simpa [Builtin.firstCells] using this
                                obtain ⟨c', hc', hrun⟩ := run_append_grow (ty := ty) hts hxt hu hi hzv hux hd' (hlen w) hnv hold hfit hbytes' (bigger len hl6')
                                have hdr := Stp.drop hr b
                                have hst := grow_sound (e := e) (m := len + n) hdr.hr hfr hov hnr zv.cells hzs (by rw [hnl', Nat.add_mul]; omega) c' hc'
                                refine ⟨_, _, _, hrun, hdr.trans hst, ?_⟩
                                have := VR.uslice (ρ := ρ.with h.next w.heap.size c') (n := h.next) (off := 0) (len := len + n) (sk := 0) (Ren.with_same _ _ _ _) (by omega)
                                exact this
                            · cases ha
                          · cases ha
                        · cases ha
                      · cases ha
                  · cases ha
                · cases ha
                · cases ha
            · cases ha
          · cases ha
      · cases ha
    · cases ha
  · cases ha

/-! ### copy -/
theorem copyA_sound {h h' : AH} {w : World} {dt ty : TypeId} {ts : Array TypeId} {d x r : AV} {vd vx : Value} (hts : ts[0]? = some dt) (hr : HR ρ h w)
    (ha : copyA P h dt d x = some (r, h')) (hd : VR ρ d vd) (hx : VR ρ x vx) :
    ∃ v w', (Builtin.copy_ ts ty #[vd, vx]).run P w = .ok v w' ∧ Stp ρ h w ρ h' w' ∧ VR ρ r v := by
  unfold copyA at ha
  split at ha
  · rename_i e hu
    split at ha
    · rename_i es hs
      split at ha
      · rename_i dn xn hdn hxn
        split at ha
        · rename_i new hnew
          split at ha
          · rename_i hone
            obtain ⟨nv, hnv, hnr⟩ := elems_sound (P := P) hr hnew hx
            have hlen : (Builtin.lenOf vx).run P w = .ok xn w := lenA_sound hxn hx
            have hone' := allOne_mem hnr hone
            have hcells := hnv w (.refl w)
            split at ha
            · rename_i b off dl kn c
              split at ha
              · rename_i h2 hw
                cases ha
                have go : ∀ {bb κ cap : Nat}, ρ b = some (bb, κ) → ∃ v w', (Builtin.copy_ ts ty #[.slice (some ⟨bb, off, none⟩) dl cap, vx]).run P w = .ok v w' ∧ Stp ρ h w ρ h' w' ∧ VR ρ (.int .i64 (min xn dn : Nat)) v := by
                  intro bb κ cap hb
                  have hdl : dn = dl := by simp [lenA] at hdn; exact hdn.symm
                  subst hdl
                  obtain ⟨w', hrun, hst⟩ := wr_sound (P := P) hr hb hw hnr hone'
                  refine ⟨.int .i64 (min xn dn : Nat), w', ?_, hst, .int _ _⟩
                  have hmin : Nat.min xn dn = min xn dn := rfl
                  simp only [Builtin.copy_, hts, List.getElem?_toArray, List.getElem?_cons_zero, List.getElem?_cons_succ, Sem.run_bind, r_und hu, Result.andThen_ok, hlen, hmin, r_size hs, hcells, List.toList_toArray, hrun, Sem.run_pure, goInt]
                cases hd with
                | slice hb _ => exact go hb
                | uslice hb _ => exact go hb
              · cases ha
            · cases ha
              cases hd with | eslice =>
              rename_i a c
              have hdl : dn = 0 := by simp [lenA] at hdn; exact hdn.symm
              subst hdl
              have hnv0 : nv = [] := by
                have h1 := elems_length (es := es) hnew
                have h2 := hnr.length
                by_cases hxs : ∃ s, x = .str s
                · obtain ⟨s, rfl⟩ := hxs
                  rw [Nat.min_zero] at hnew
                  unfold elems at hnew
                  simp at hnew
                  subst hnew
                  simpa using h2
                · have := h1 (fun s hx' => absurd ⟨s, hx'⟩ hxs)
                  simp at this
                  rw [this] at h2
                  simpa using h2
              subst hnv0
              refine ⟨.int .i64 0, w, ?_, Stp.refl hr, .int _ _⟩
              have hmin : Nat.min xn 0 = 0 := Nat.min_zero _
              simp only [Nat.min_zero] at hcells
              simp only [Builtin.copy_, hts, List.getElem?_toArray, List.getElem?_cons_zero, List.getElem?_cons_succ, Sem.run_bind, r_und hu, Result.andThen_ok, hlen, hmin, r_size hs, hcells, List.toList_toArray, storeCells, Sem.run_pure, goInt]
              rfl
            · cases ha
              cases hd
              have hdl : dn = 0 := by simp [lenA] at hdn; exact hdn.symm
              subst hdl
              refine ⟨.int .i64 0, w, ?_, Stp.refl hr, .int _ _⟩
              have hmin : Nat.min xn 0 = 0 := Nat.min_zero _
              simp only [Nat.min_zero] at hcells
              simp only [Builtin.copy_, hts, List.getElem?_toArray, List.getElem?_cons_zero, List.getElem?_cons_succ, Sem.run_bind, r_und hu, Result.andThen_ok, hlen, hmin, r_size hs, hcells, List.toList_toArray, Sem.run_pure, goInt]
              rfl
            · cases ha
          · cases ha
        · cases ha
      · cases ha
    · cases ha
  · cases ha

/-! ### ranges -/
theorem rangeA_sound {h h' : AH} {w : World} {t : TypeId} {x r : AV} {vx : Value} (hr : HR ρ h w) (ha : rangeA P h t x = some (r, h')) (hf : Fresh ρ h.next h'.next) (hx : VR ρ x vx) :
    ∃ v w' ρ', (Instr.range t vx).run P w = .ok v w' ∧ Stp ρ h w ρ' h' w' ∧ VR ρ' r v := by
  unfold rangeA at ha
  split at ha
  · rename_i s hu
    cases ha; cases hx
    have hfr : ρ h.next = none := hf h.next (Nat.le_refl _) (Nat.lt_succ_self _)
    refine ⟨_, _, _, ?_, Stp.alloc hr hfr 0 .siter, .ptr (Ren.with_same _ _ _ _)⟩
    simp [Instr.range, r_und hu]
  · rename_i k e hu
    cases ha; cases hx
    have hfr : ρ h.next = none := hf h.next (Nat.le_refl _) (Nat.lt_succ_self _)
    refine ⟨_, _, _, ?_, Stp.alloc hr hfr 0 (o := .mapIter none 0 #[] 0) (BR.iter (m := none) (b := none) (seen := []) trivial), .ptr (Ren.with_same _ _ _ _)⟩
    simp [Instr.range, r_und hu]
  · rename_i k e m hu
    split at ha
    · rename_i es clock hg
      cases ha
      cases hx with | map hb =>
      rename_i bb κ
      obtain ⟨o, hw, hbr⟩ := hr.get hg hb
      cases hbr with | map hev =>
      have hfr : ρ h.next = none := hf h.next (Nat.le_refl _) (Nat.lt_succ_self _)
      refine ⟨_, _, _, ?_, Stp.alloc hr hfr 0 (o := .mapIter (some bb) clock #[] clock) (BR.iter (m := some m) (b := some bb) (seen := []) ⟨κ, Ren.with_ext hfr _ _ hb⟩), .ptr (Ren.with_same _ _ _ _)⟩
      simp [Instr.range, r_und hu, run_getObj_map hw]
    · cases ha
  · cases ha

theorem run_getObj_iter {w : World} {b : Nat} {m : Option Nat} {s t : Nat} {seen : Array Nat} (h : w.heap[b]? = some (.mapIter m s seen t)) : (getObj b).run P w = .ok (.mapIter m s seen t) w := by simp [getObj, Sem.run, h]
theorem run_setObj_iter {w : World} {b : Nat} {m : Option Nat} {s t : Nat} {seen : Array Nat} (o : Obj) (h : w.heap[b]? = some (.mapIter m s seen t)) : (setObj b o).run P w = .ok () (w.putObj b o) := by
  simp [setObj, Sem.run, h, World.putObj]

theorem nextA_sound {h h' : AH} {w : World} {x r : AV} {vx : Value} {ty : TypeId} (hr : HR ρ h w) (ha : nextA h x = some (r, h')) (hx : VR ρ x vx) :
    ∃ v w', (Instr.next vx false ty).run P w = .ok v w' ∧ Stp ρ h w ρ h' w' ∧ VR ρ r v := by
  unfold nextA at ha
  split at ha
  · rename_i rn
    cases hx with | ptr hb =>
    rename_i bb κ
    split at ha
    · rename_i since seen stp hg
      cases ha
      obtain ⟨o, hw, hbr⟩ := hr.get hg hb
      cases hbr with | iter hor =>
      rename_i b
      cases b with
      | some b => exact hor.elim
      | none =>
        exact ⟨.tuple #[.bool false], w, by simp [Instr.next, run_getObj_iter hw], Stp.refl hr, .tup (.cons (.bool _) .nil)⟩
    · rename_i m since seen stp hg
      obtain ⟨o, hw, hbr⟩ := hr.get hg hb
      cases hbr with | iter hor =>
      rename_i b
      cases b with
      | none => exact hor.elim
      | some mb =>
        obtain ⟨κm, hm⟩ := hor
        split at ha
        · rename_i clock hgm
          obtain ⟨om, hwm, hbm⟩ := hr.get hgm hm
          cases hbm with | map hev =>
          rename_i ents
          have he : ents = #[] := by
            generalize hl : ents.toList = L at hev
            cases hev
            exact Array.toList_eq_nil_iff.1 hl
          subst he
          split at ha
          · cases ha
            exact ⟨.tuple #[.bool false], w, by simp [Instr.next, run_getObj_iter hw, run_getObj_map hwm, Question.forced], Stp.refl hr, .tup (.cons (.bool _) .nil)⟩
          · cases ha
        · rename_i k v born clock hgm
          obtain ⟨om, hwm, hbm⟩ := hr.get hgm hm
          cases hbm with | map hev =>
          rename_i ents
          obtain ⟨x, y, he, hk, hv⟩ : ∃ x y, ents = #[⟨x, y, born⟩] ∧ VR ρ k x ∧ VR ρ v y := by
            generalize hl : ents.toList = L at hev
            cases hev with | cons hk hv hs =>
            cases hs
            exact ⟨_, _, by apply Array.ext'; rw [hl], hk, hv⟩
          subst he
          split at ha
          · split at ha
            · rename_i hlt
              cases ha
              have hlt' : born < since := Nat.le_of_ble_eq_true hlt
              refine ⟨.tuple #[.bool true, x, y], w.putObj bb (.mapIter (some mb) since #[born] clock), ?_, Stp.put hr hg hb (BR.iter (m := some m) (b := some mb) (seen := [born]) ⟨κm, hm⟩), .tup (.cons (.bool _) (.cons hk (.cons hv .nil)))⟩
              have hge : ¬ since ≤ born := by omega
              simp [Instr.next, run_getObj_iter hw, run_getObj_map hwm, Question.forced, hlt', hge, run_setObj_iter _ hw]
            · cases ha
          · rename_i b
            split at ha
            · rename_i hcond
              simp only [Bool.and_eq_true] at hcond
              obtain ⟨h1, h4⟩ := hcond
              have h1' := beq_yes h1
              have h4' : born < stp := Nat.le_of_ble_eq_true h4
              have hge : ¬ stp ≤ born := by omega
              subst h1'
              cases ha
              refine ⟨.tuple #[.bool false], w, ?_, Stp.refl hr, .tup (.cons (.bool _) .nil)⟩
              simp [Instr.next, run_getObj_iter hw, run_getObj_map hwm, Question.forced, hge]
            · cases ha
          · cases ha
        · cases ha
    · cases ha
  · cases ha

end
end Go.Hx

/-! ## One operation: what the executor says of it is what the model does. -/
set_option linter.unusedSimpArgs false
set_option linter.unusedVariables false
namespace Go.Hx
variable [Inp]
set_option linter.unusedSectionVars false

/-- what is asked of a contract that the executor takes for a function -/
def SumOK (P : Program) (f : FuncId) (args : List AV) (h : AH) (v : AV) (h' : AH) : Prop :=
  ∀ (ρ : Ren) (w : World) (vargs : Array Value), HR ρ h w → Fresh ρ h.next h'.next → VRs ρ args vargs.toList →
    CallsIn Fence.wide 0 P f vargs w fun e w' => ∃ x ρ', e = .returned x ∧ Stp ρ h w ρ' h' w' ∧ VR ρ' v x

structure EnvOK (E : Env) : Prop where
  mixed : E.P.follows .mixedOrders = true
  num : ∀ (f : FuncId) (fn : Func), E.P.funcs[f]? = some fn → (fn.name == "runtime.NumGoroutine") = false
  ext : ∀ (g : FuncId) (fn : Func) (args : List AV) (v : AV), E.P.funcs[g]? = some fn → fn.body = none → E.ext g args = some v → ∀ (ρ : Ren) (w : World) (vargs : Array Value), VRs ρ args vargs.toList →
    ∃ x, (callFunc g vargs).run E.P w = .ok (.value x) w ∧ VR ρ v x
  sum : ∀ (f : FuncId) (args : List AV) (h : AH) (v : AV) (h' : AH), E.sum f args h = some (some (v, h')) → h.next ≤ h'.next ∧ SumOK E.P f args h v h'

section
variable {ρ : Ren} {P : Program}

theorem freeze_put {w : World} {b : Nat} {cs : Array Value} {t : TypeId} {lo hi n : Nat} (h : w.heap[b]? = some (.cells cs t (lo, hi))) :
    w.freeze ⟨b, n, none⟩ 1 = w.putObj b (.cells cs t (if lo == hi then (n, n + 1) else (min lo n, max hi (n + 1)))) := by
  have : (w.heap.modify b fun
      | .cells c elem (lo, hi) => .cells c elem (if lo == hi then (n, n + 1) else (min lo n, max hi (n + 1)))
      | o => o) = w.heap.setIfInBounds b (.cells cs t (if lo == hi then (n, n + 1) else (min lo n, max hi (n + 1)))) := by
    apply Array.ext_getElem?
    intro i
    rw [Array.getElem?_modify]
    by_cases e : b = i
    · subst e
      have hlt := (Array.getElem?_eq_some_iff.1 h).1
      rw [if_pos rfl, h, Array.getElem?_setIfInBounds_self_of_lt hlt]
      rfl
    · rw [if_neg e, Array.getElem?_setIfInBounds_ne e]
  show World.mk _ _ _ _ _ = World.mk _ _ _ _ _
  congr 1

/-- a block put back: the same cells, another range of frozen ones -/
theorem Stp.put_same {h : AH} {w : World} (hr : HR ρ h w) {n b κ : Nat} {a : ABlk} {o' : Obj} (hn : h.get n = some a) (he : ρ n = some (b, κ)) (hb : BR ρ κ a o') : Stp ρ h w ρ h (w.putObj b o') := by
  have s := Stp.put hr hn he hb
  have hg : ∀ m, (h.put n a).get m = h.get m := fun m => by
    rw [AH.get_put]; split
    · rename_i e; subst e; exact hn.symm
    · rfl
  refine Stp.mkB hr (Nat.le_refl _) (fun _ _ => rfl) (fun m x hm => s.hr.blk m x (by rw [hg]; exact hm)) (fun m k x y b κ κ' hm hk => s.hr.inj m k x y b κ κ' (by rw [hg]; exact hm) (by rw [hg]; exact hk)) s.os s.tape s.out s.size s.frame ?_
  rintro b2 ⟨m, x, κ2, hm, he2⟩ _
  exact ⟨m, x, κ2, hm, he2⟩

theorem convertX_sound {h h' : AH} {w : World} {src dst : TypeId} {x r : AV} {vx : Value} (hr : HR ρ h w) (ha : convertX P h src dst x = some (r, h')) (hx : VR ρ x vx) :
    ∃ v w', (convert src dst vx).run P w = .ok v w' ∧ Stp ρ h w ρ h' w' ∧ VR ρ r v := by
  unfold convertX at ha
  split at ha
  · rename_i e0 e b off len kn c hs hd
    split at ha
    · rename_i hsd
      have hsd' := beq_yes hsd
      split at ha
      · rename_i hu
        split at ha
        · rename_i l es hg
          cases ha
          have go : ∀ {bb κ cap : Nat}, ρ b = some (bb, κ) → ∃ w', (convert src dst (.slice (some ⟨bb, off, none⟩) len cap)).run P w = .ok (.slice (some ⟨bb, off, none⟩) len cap) w' ∧ Stp ρ h w ρ h w' := by
            intro bb κ cap hb
            obtain ⟨o, hw, hbr⟩ := hr.get hg hb
            have hg' := hg
            cases hbr with | cells hv hl hκ hf =>
            rename_i cs t lo hi
            refine ⟨_, ?_, Stp.put_same hr hg hb (o' := .cells cs t (if lo == hi then (cs.size, cs.size + 1) else (min lo cs.size, max hi (cs.size + 1)))) ?_⟩
            · have hsh : w.shape? bb = some (t, cs.size) := by simp [World.shape?, hw]
              simp only [convert, Sem.run_bind, r_und hs, r_und hd, r_und hu, Result.andThen_ok, hsd', beq_self_eq_true, markStringish, run_shape, hsh, run_freeze, Sem.run_pure, freeze_put hw]
            · have : (if lo == hi then (cs.size, cs.size + 1) else (min lo cs.size, max hi (cs.size + 1))) = (cs.size, (if lo == hi then cs.size + 1 else max hi (cs.size + 1))) ∨ False := by
                by_cases e : lo = hi
                · left; simp [e]
                · left
                  have h2 : cs.size ≤ lo := hf.resolve_left e
                  have h3 : (lo == hi) = false := by simp [e]
                  simp only [h3, Bool.false_eq_true, if_false]
                  rw [Nat.min_eq_right h2]
              rw [this.resolve_right id]
              exact .cells hv hl hκ (.inr (Nat.le_refl _))
          cases hx with
          | slice hb hlc => obtain ⟨w', h1, h2⟩ := go hb; exact ⟨_, w', h1, h2, .slice hb hlc⟩
          | uslice hb hlc => obtain ⟨w', h1, h2⟩ := go hb; exact ⟨_, w', h1, h2, .uslice hb hlc⟩
        · cases ha
      · cases ha
    · cases ha
  · cases ha

/-- what an operation that makes no call hands over -/
inductive NV (ρ : Ren) : AV → Next → Prop
  | value {v : AV} {x : Value} (h : VR ρ v x) : NV ρ v (.value x)
  | skip : NV ρ (.tup []) .skip

def OutOK (E : Env) (ρ : Ren) (h : AH) (w : World) (s : Sem Next) : Out → Prop
  | .val v h' => Fresh ρ h.next h'.next → ∃ nx w' ρ', s.run E.P w = .ok nx w' ∧ NV ρ' v nx ∧ Stp ρ h w ρ' h' w'
  | .call f args => ∃ vargs, s.run E.P w = .ok (.enter f vargs) w ∧ VRs ρ args vargs.toList
  | .round l args => ∃ b κ vargs, ρ l = some (b, κ) ∧ VRs ρ args vargs.toList ∧ s.run E.P w = (Instr.yield b vargs).run E.P w

variable {E : Env}

theorem run_callFunc_enter (ok : EnvOK E) {f : FuncId} {fn : Func} {c : Code} (hf : E.P.funcs[f]? = some fn) (hb : fn.body = some c) (args : Array Value) (w : World) :
    (callFunc f args).run E.P w = .ok (.enter f args) w := by
  have h1 := ok.num f fn hf
  have h2 : ¬ fn.name = "runtime.NumGoroutine" := by simpa using h1
  simp [callFunc, hf, h2, hb]

theorem VRs.append3 {a b c : List AV} {x y z : Array Value} (h1 : VRs ρ a x.toList) (h2 : VRs ρ b y.toList) (h3 : VRs ρ c z.toList) : VRs ρ (a ++ b ++ c) (x ++ y ++ z).toList := by
  rw [Array.toList_append, Array.toList_append]
  exact (h1.append h2).append h3

theorem xact_sound (ok : EnvOK E) {h : AH} {w : World} {tm : Tm} {n : Nat} {a : Act} {o : Oper} {out : Out} (hr : HR ρ h w) (hx : xact E tm h o = some out) (ht : TR ρ tm n a.tmps) :
    OutOK E ρ h w (execOp a.eval o) out := by
  obtain ⟨dst, op, ty, pos, after, guard⟩ := o
  have lift : ∀ {v : AV} {h' : AH} {s : Sem Value}, (∃ x w', s.run E.P w = .ok x w' ∧ Stp ρ h w ρ h' w' ∧ VR ρ v x) → OutOK E ρ h w (do pure (.value (← s))) (.val v h') := by
    rintro v h' s ⟨x, w', h1, h2, h3⟩ _
    exact ⟨.value x, w', ρ, by simp [h1], .value h3, h2⟩
  have liftρ : ∀ {v : AV} {h' : AH} {s : Sem Value}, (Fresh ρ h.next h'.next → ∃ x w' ρ', s.run E.P w = .ok x w' ∧ Stp ρ h w ρ' h' w' ∧ VR ρ' v x) → OutOK E ρ h w (do pure (.value (← s))) (.val v h') := by
    rintro v h' s hs hf
    obtain ⟨x, w', ρ', h1, h2, h3⟩ := hs hf
    exact ⟨.value x, w', ρ', by simp [h1], .value h3, h2⟩
  have liftu : ∀ {h' : AH} {s : Sem Unit}, (∃ w', s.run E.P w = .ok () w' ∧ Stp ρ h w ρ h' w') → OutOK E ρ h w (do s; pure .skip) (.val (.tup []) h') := by
    rintro h' s ⟨w', h1, h2⟩ _
    exact ⟨.skip, w', ρ, by simp [h1], .skip, h2⟩
  unfold xact at hx
  split at hx <;> (try (cases hx; done)) <;> rename_i hop <;> simp only at hop <;> subst hop
  · -- store
    split at hx
    · rename_i p v hp hv
      unfold uh at hx
      split at hx
      · rename_i h' hs; cases hx; exact liftu (storeA_sound hr hs (evalA_sound ht hp) (evalA_sound ht hv))
      · cases hx
    · cases hx
  · split at hx
    · rename_i v hv
      unfold ph at hx
      split at hx
      · rename_i r h' hs; cases hx; exact lift (convertX_sound hr hs (evalA_sound ht hv))
      · cases hx
    · cases hx
  · split at hx
    · rename_i m k v hm hk hv
      unfold uh at hx
      split at hx
      · rename_i h' hs; cases hx; exact liftu (mapUpdateA_sound hr hs (evalA_sound ht hm) (evalA_sound ht hk) (evalA_sound ht hv))
      · cases hx
    · cases hx
  · split at hx
    · rename_i v hv
      unfold ph at hx
      split at hx
      · rename_i r h' hs; cases hx; exact liftρ (fun hf => rangeA_sound hr hs hf (evalA_sound ht hv))
      · cases hx
    · cases hx
  · split at hx
    · rename_i v hv
      unfold ph at hx
      split at hx
      · rename_i r h' hs; cases hx; exact lift (nextA_sound hr hs (evalA_sound ht hv))
      · cases hx
    · cases hx
  · -- append
    rename_i args at_
    split at hx
    · rename_i st xts s x hat hargs
      have hv := evalL_sound (ρ := ρ) ht hargs
      generalize hgen : args.toList.map a.eval = vs at hv
      cases hv with | cons h1 h2 =>
      cases h2 with | cons h2 h3 =>
      cases h3
      rename_i sv xv
      have he := (Array.toList_map (f := a.eval) (xs := args)).trans hgen
      have he2 : args.map a.eval = #[sv, xv] := by apply Array.ext'; rw [he]
      have ht0 : at_[0]? = some st := by rw [← Array.getElem?_toList, hat]; rfl
      have ht1 : at_[1]? = xts.head? := by rw [← Array.getElem?_toList, hat]; cases xts <;> rfl
      unfold ph at hx
      split at hx
      · rename_i r h' hs
        cases hx
        intro hf
        obtain ⟨v, w', ρ', g1, g2, g3⟩ := appendA_sound (ty := ty) ht0 ht1 hr hs hf h1 h2
        exact ⟨.value v, w', ρ', by simp [execOp, resolve, invoke, builtin, he2, g1], .value g3, g2⟩
      · cases hx
    · cases hx
  · -- copy
    rename_i args at_
    split at hx
    · rename_i st xts s x hat hargs
      have hv := evalL_sound (ρ := ρ) ht hargs
      generalize hgen : args.toList.map a.eval = vs at hv
      cases hv with | cons h1 h2 =>
      cases h2 with | cons h2 h3 =>
      cases h3
      rename_i sv xv
      have he := (Array.toList_map (f := a.eval) (xs := args)).trans hgen
      have he2 : args.map a.eval = #[sv, xv] := by apply Array.ext'; rw [he]
      have ht0 : at_[0]? = some st := by rw [← Array.getElem?_toList, hat]; rfl
      unfold ph at hx
      split at hx
      · rename_i r h' hs
        cases hx
        intro hf
        obtain ⟨v, w', g1, g2, g3⟩ := copyA_sound (ty := ty) ht0 hr hs h1 h2
        exact ⟨.value v, w', ρ, by simp [execOp, resolve, invoke, builtin, he2, g1], .value g3, g2⟩
      · cases hx
    · cases hx
  · -- delete
    rename_i args at_
    split at hx
    · rename_i st xts s x hat hargs
      have hv := evalL_sound (ρ := ρ) ht hargs
      generalize hgen : args.toList.map a.eval = vs at hv
      cases hv with | cons h1 h2 =>
      cases h2 with | cons h2 h3 =>
      cases h3
      rename_i sv xv
      have he := (Array.toList_map (f := a.eval) (xs := args)).trans hgen
      have he2 : args.map a.eval = #[sv, xv] := by apply Array.ext'; rw [he]
      have ht0 : at_[0]? = some st := by rw [← Array.getElem?_toList, hat]; rfl
      unfold uh at hx
      split at hx
      · rename_i h' hs
        cases hx
        intro hf
        obtain ⟨w', g1, g2⟩ := deleteA_sound (ty := ty) ht0 hr hs h1 h2
        exact ⟨.value (.tuple #[]), w', ρ, by simp [execOp, resolve, invoke, builtin, he2, g1], .value (.tup .nil), g2⟩
      · cases hx
    · cases hx
  · -- a call of a value
    rename_i f args at_
    split at hx
    · rename_i g first cap as hf hargs
      have hfv := evalA_sound (ρ := ρ) ht hf
      have hv := evalL_sound (ρ := ρ) ht hargs
      generalize hfe : a.eval f = fv at hfv
      cases hfv with | fn h1 h2 =>
      rename_i fa ca
      have hargs' : VRs ρ as (args.map a.eval).toList := by rw [Array.toList_map]; exact hv
      have hall := VRs.append3 h1 hargs' h2
      have hres : ∀ w', (execOp a.eval { dst, op := .call { callee := .value f, args, argTypes := at_ }, type := ty, pos, after, guard }).run E.P w' = (callFunc g (fa ++ args.map a.eval ++ ca)).run E.P w' := by
        intro w'
        simp [execOp, resolve, Deferred.ofValue, hfe, invoke]
      split at hx
      · rename_i fn hfn
        split at hx
        · rename_i c hb
          cases hx
          exact ⟨fa ++ args.map a.eval ++ ca, by rw [hres]; exact run_callFunc_enter ok hfn hb _ _, hall⟩
        · rename_i hb
          split at hx
          · rename_i v hext
            cases hx
            intro _
            obtain ⟨x, g1, g2⟩ := ok.ext g fn _ v hfn hb hext ρ w _ hall
            exact ⟨.value x, w, ρ, by rw [hres]; exact g1, .value g2, Stp.refl hr⟩
          · cases hx
      · cases hx
    · rename_i l as hf hargs
      cases hx
      have hfv := evalA_sound (ρ := ρ) ht hf
      have hv := evalL_sound (ρ := ρ) ht hargs
      generalize hfe : a.eval f = fv at hfv
      cases hfv with | yield hb =>
      rename_i b κ
      refine ⟨b, κ, args.map a.eval, hb, by rw [Array.toList_map]; exact hv, ?_⟩
      simp [execOp, resolve, Deferred.ofValue, hfe, invoke]
    · cases hx

theorem xop_sound (ok : EnvOK E) {h : AH} {w : World} {tm : Tm} {n : Nat} {a : Act} {o : Oper} {out : Out} (hr : HR ρ h w) (hx : xop E tm h o = some out) (ht : TR ρ tm n a.tmps) :
    OutOK E ρ h w (execOp a.eval o) out := by
  unfold xop at hx
  split at hx
  · unfold vh at hx
    split at hx
    · rename_i v hv
      cases hx
      intro _
      obtain ⟨x, h1, h2⟩ := xpure_sound (w := w) hv ht
      exact ⟨.value x, w, ρ, h1, .value h2, Stp.refl hr⟩
    · cases hx
  · split at hx
    · unfold vh at hx
      split at hx
      · rename_i v hv
        cases hx
        intro _
        obtain ⟨x, h1, h2⟩ := xread_sound hr hv ht
        exact ⟨.value x, w, ρ, h1, .value h2, Stp.refl hr⟩
      · cases hx
    · split at hx
      · unfold ah at hx
        split at hx
        · rename_i v b hv
          cases hx
          intro hf
          have hfr : ρ h.next = none := hf h.next (Nat.le_refl _) (Nat.lt_succ_self _)
          obtain ⟨x, obj, κ, w1, s, h1, h2, h3⟩ := xalloc_sound (w := w) hv ht hfr
          have hsz : w1.heap.size = w.heap.size := by rw [s.heap]
          have st := Stp.alloc (w := w1) (hr.same s) hfr κ (a := b) (o := obj) (h2.ext (by rw [hsz]; exact Ren.with_ext hfr))
          rw [hsz] at st
          exact ⟨.value x, _, _, h1, .value h3, (Stp.same hr s).trans st⟩
        · cases hx
      · exact xact_sound ok hr hx ht

end
end Go.Hx
