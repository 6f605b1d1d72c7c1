/- How abstract values, blocks and memories stand for the model's, and what a step may turn. -/
import Derived.Test.YtdjdiibloohddaaGreatDoorHxA
import Derived.RangeFuncRecord
import Derived.Laws.Cells
import Derived.Laws.Rows
import Derived.Laws.CopyRow
import Derived.Laws.Closers25b
import Derived.ChangeKeysEq

/-! ## How abstract values, blocks and memories stand for the model's, and what a step may turn. -/
namespace Go.Hx

theorem beq_no {a b : Nat} (h : ¬ a = b) : Nat.beq a b = false := by
  cases e : Nat.beq a b with
  | false => rfl
  | true => exact absurd (Nat.eq_of_beq_eq_true e) h
theorem beq_yes {a b : Nat} (h : Nat.beq a b = true) : a = b := Nat.eq_of_beq_eq_true h

/-! ### trees -/
namespace Tr
variable {α : Type}

theorem mk_eq (l : Tr α) (v : Option α) (r : Tr α) : mk l v r = .node l v r := by
  cases l <;> cases r <;> rfl

theorem get_nil (n : Nat) : (Tr.nil : Tr α).get n = none := rfl

theorem get_zero (l : Tr α) (v : Option α) (r : Tr α) : (Tr.node l v r).get 0 = v := rfl

theorem get_succ (l : Tr α) (v : Option α) (r : Tr α) (m : Nat) : (Tr.node l v r).get (m + 1) = if m % 2 = 0 then l.get (m / 2) else r.get (m / 2) := by
  show (bif Nat.beq (m % 2) 0 then l.get (m / 2) else r.get (m / 2)) = _
  by_cases h : m % 2 = 0
  · simp [h]
  · have : Nat.beq (m % 2) 0 = false := beq_no h
    simp [this, h]

theorem setF_node (f : Nat) (l : Tr α) (v : Option α) (r : Tr α) (m : Nat) (x : Option α) :
    setF (f + 1) (.node l v r) (m + 1) x = if m % 2 = 0 then .node (setF f l (m / 2) x) v r else .node l v (setF f r (m / 2) x) := by
  show (bif Nat.beq (m % 2) 0 then mk (setF f l (m / 2) x) v r else mk l v (setF f r (m / 2) x)) = _
  by_cases h : m % 2 = 0
  · simp [h, mk_eq]
  · have : Nat.beq (m % 2) 0 = false := beq_no h
    simp [this, h, mk_eq]

theorem setF_nil (f m : Nat) (x : Option α) :
    setF (f + 1) .nil (m + 1) x = if m % 2 = 0 then .node (setF f .nil (m / 2) x) none .nil else .node .nil none (setF f .nil (m / 2) x) := by
  show (bif Nat.beq (m % 2) 0 then mk (setF f .nil (m / 2) x) none .nil else mk .nil none (setF f .nil (m / 2) x)) = _
  by_cases h : m % 2 = 0
  · simp [h, mk_eq]
  · have : Nat.beq (m % 2) 0 = false := beq_no h
    simp [this, h, mk_eq]

theorem get_setF : ∀ (f : Nat) (t : Tr α) (n : Nat) (x : Option α) (k : Nat), n < f → (setF f t n x).get k = if k = n then x else t.get k
  | 0, _, _, _, _, h => absurd h (Nat.not_lt_zero _)
  | f + 1, .nil, 0, x, k, _ => by
    show (mk .nil x .nil : Tr α).get k = _
    rw [mk_eq]
    cases k with
    | zero => simp [get_zero]
    | succ k => simp [get_succ, get_nil]
  | f + 1, .node l v r, 0, x, k, _ => by
    show (mk l x r : Tr α).get k = _
    rw [mk_eq]
    cases k with
    | zero => simp [get_zero]
    | succ k => simp [get_succ]
  | f + 1, .nil, m + 1, x, k, h => by
    have ih := get_setF f .nil (m / 2) x
    rw [setF_nil]
    cases k with
    | zero => by_cases hm : m % 2 = 0 <;> simp [hm, get_zero, get_nil]
    | succ k =>
      by_cases hm : m % 2 = 0
      · simp only [hm, if_true, get_succ, get_nil]
        by_cases hk : k % 2 = 0
        · simp only [hk, if_true]
          rw [ih (k / 2) (by omega)]
          by_cases he : k = m
          · simp [he]
          · have h1 : ¬ k / 2 = m / 2 := by omega
            have h2 : ¬ k = m := by omega
            simp [h1, h2, get_nil]
        · have h2 : ¬ k = m := by omega
          simp [hk, h2]
      · simp only [hm, if_false, get_succ, get_nil]
        by_cases hk : k % 2 = 0
        · have h2 : ¬ k = m := by omega
          simp [hk, h2]
        · simp only [hk, if_false]
          rw [ih (k / 2) (by omega)]
          by_cases he : k = m
          · simp [he]
          · have h1 : ¬ k / 2 = m / 2 := by omega
            have h2 : ¬ k = m := by omega
            simp [h1, h2, get_nil]
  | f + 1, .node l v r, m + 1, x, k, h => by
    have ihl := get_setF f l (m / 2) x
    have ihr := get_setF f r (m / 2) x
    rw [setF_node]
    cases k with
    | zero => by_cases hm : m % 2 = 0 <;> simp [hm, get_zero]
    | succ k =>
      by_cases hm : m % 2 = 0
      · simp only [hm, if_true, get_succ]
        by_cases hk : k % 2 = 0
        · simp only [hk, if_true]
          rw [ihl (k / 2) (by omega)]
          by_cases he : k = m
          · simp [he]
          · have h1 : ¬ k / 2 = m / 2 := by omega
            have h2 : ¬ k = m := by omega
            simp [h1, h2]
        · have h2 : ¬ k = m := by omega
          simp [hk, h2]
      · simp only [hm, if_false, get_succ]
        by_cases hk : k % 2 = 0
        · have h2 : ¬ k = m := by omega
          simp [hk, h2]
        · simp only [hk, if_false]
          rw [ihr (k / 2) (by omega)]
          by_cases he : k = m
          · simp [he]
          · have h1 : ¬ k / 2 = m / 2 := by omega
            have h2 : ¬ k = m := by omega
            simp [h1, h2]

theorem get_set (t : Tr α) (n : Nat) (x : α) (k : Nat) : (t.set n x).get k = if k = n then some x else t.get k :=
  get_setF (n + 1) t n (some x) k (Nat.lt_succ_self _)
theorem get_del (t : Tr α) (n : Nat) (k : Nat) : (t.del n).get k = if k = n then none else t.get k :=
  get_setF (n + 1) t n none k (Nat.lt_succ_self _)

theorem get_ofListFrom : ∀ (l : List α) (n : Nat) (t : Tr α) (k : Nat), (ofListFrom l n t).get k = if n ≤ k ∧ k < n + l.length then l[k - n]? else t.get k
  | [], n, t, k => by
    have : ¬ (n ≤ k ∧ k < n + ([] : List α).length) := by rintro ⟨h1, h2⟩; simp only [List.length_nil] at h2; omega
    rw [if_neg this]; rfl
  | x :: l, n, t, k => by
    show (ofListFrom l (n + 1) (t.set n x)).get k = _
    rw [get_ofListFrom l (n + 1) (t.set n x) k, get_set]
    simp only [List.length_cons]
    by_cases h : n + 1 ≤ k ∧ k < n + 1 + l.length
    · rw [if_pos h, if_pos (by omega)]
      have : k - n = (k - (n + 1)) + 1 := by omega
      rw [this]; simp
    · rw [if_neg h]
      by_cases hk : k = n
      · subst hk; rw [if_pos rfl, if_pos (by omega)]; simp
      · rw [if_neg hk, if_neg (by omega)]
end Tr

/-! ### values -/
/-- a value of one cell, that is no truth value -/
def anyCell : Value → Bool
  | .bool _ => false
  | v => v.oneCell'

theorem anyCell_one {v : Value} (h : anyCell v = true) : v.oneCell' = true := by cases v <;> first | rfl | exact h

abbrev Ren := Nat → Option (Nat × Nat)

/-- What came in: values of one cell; the memory that lay there. -/
class Inp where
  val : Nat → Value
  one : ∀ k, anyCell (val k) = true
  heap : Nat → Option Obj
  size : Nat

variable [Inp]
set_option linter.unusedSectionVars false

mutual
inductive VR (ρ : Ren) : AV → Value → Prop
  | bool (b : Bool) : VR ρ (.bool b) (.bool b)
  | int (k : IntKind) (n : Int) : VR ρ (.int k n) (.int k n)
  | rng {k : IntKind} {lo hi n : Int} (h1 : lo ≤ n) (h2 : n ≤ hi) : VR ρ (.rng k lo hi) (.int k n)
  | any {v : Value} (h : anyCell v = true) : VR ρ .any v
  | str (s : List UInt8) : VR ρ (.str s) (.string ⟨s.toArray⟩)
  | ptr {n off b κ : Nat} (h : ρ n = some (b, κ)) : VR ρ (.ptr n off) (.pointer (some ⟨b, off, none⟩))
  | nilptr : VR ρ .nilptr (.pointer none)
  | slice {n off len c b κ : Nat} (h : ρ n = some (b, κ)) (hl : len ≤ c) : VR ρ (.slice n off len true c) (.slice (some ⟨b, off, none⟩) len c)
  | uslice {n off len sk b κ : Nat} (h : ρ n = some (b, κ)) (hl : len + sk ≤ κ) : VR ρ (.slice n off len false sk) (.slice (some ⟨b, off, none⟩) len (κ - sk))
  | eslice {a : Addr} {c : Nat} : VR ρ .eslice (.slice (some a) 0 c)
  | nilslice : VR ρ .nilslice (.slice none 0 0)
  | map {n b κ : Nat} (h : ρ n = some (b, κ)) : VR ρ (.map n) (.map (some b))
  | nilmap : VR ρ .nilmap (.map none)
  | fn {f : FuncId} {first cap : List AV} {a c : Array Value} (h1 : VRs ρ first a.toList) (h2 : VRs ρ cap c.toList) : VR ρ (.fn f first cap) (.func (.func f) a c)
  | yield {l b κ : Nat} (h : ρ l = some (b, κ)) : VR ρ (.yield l) (.func (.yield b) #[] #[])
  | nilfunc : VR ρ .nilfunc .nilFunc
  | iface {t : TypeId} {v : AV} {x : Value} (h : VR ρ v x) : VR ρ (.iface t v) (.iface t x)
  | niliface : VR ρ .niliface .nilIface
  | agg {l : List AV} {cs : Array Value} (h : VRs ρ l cs.toList) : VR ρ (.agg l) (.agg cs)
  | tup {l : List AV} {cs : Array Value} (h : VRs ρ l cs.toList) : VR ρ (.tup l) (.tuple cs)
  | inp {k : Nat} {v : Value} (h : Inp.val k = v) : VR ρ (.inp k) v
inductive VRs (ρ : Ren) : List AV → List Value → Prop
  | nil : VRs ρ [] []
  | cons {a : AV} {l : List AV} {v : Value} {vs : List Value} (h : VR ρ a v) (hs : VRs ρ l vs) : VRs ρ (a :: l) (v :: vs)
end

/-- ρ' goes on from ρ -/
def Ext (ρ ρ' : Ren) : Prop := ∀ n x, ρ n = some x → ρ' n = some x

theorem Ext.refl (ρ : Ren) : Ext ρ ρ := fun _ _ h => h
theorem Ext.trans {a b c : Ren} (h : Ext a b) (k : Ext b c) : Ext a c := fun n x e => k n x (h n x e)

mutual
theorem VR.ext {ρ ρ' : Ren} (e : Ext ρ ρ') : ∀ {a : AV} {v : Value}, VR ρ a v → VR ρ' a v
  | _, _, .bool b => .bool b
  | _, _, .int k n => .int k n
  | _, _, .rng h1 h2 => .rng h1 h2
  | _, _, .any h => .any h
  | _, _, .str s => .str s
  | _, _, .ptr h => .ptr (e _ _ h)
  | _, _, .nilptr => .nilptr
  | _, _, .slice h hl => .slice (e _ _ h) hl
  | _, _, .uslice h hl => .uslice (e _ _ h) hl
  | _, _, .eslice => .eslice
  | _, _, .nilslice => .nilslice
  | _, _, .map h => .map (e _ _ h)
  | _, _, .nilmap => .nilmap
  | _, _, .fn h1 h2 => .fn (VRs.ext e h1) (VRs.ext e h2)
  | _, _, .yield h => .yield (e _ _ h)
  | _, _, .nilfunc => .nilfunc
  | _, _, .iface h => .iface (VR.ext e h)
  | _, _, .niliface => .niliface
  | _, _, .agg h => .agg (VRs.ext e h)
  | _, _, .tup h => .tup (VRs.ext e h)
  | _, _, .inp h => .inp h
theorem VRs.ext {ρ ρ' : Ren} (e : Ext ρ ρ') : ∀ {l : List AV} {vs : List Value}, VRs ρ l vs → VRs ρ' l vs
  | _, _, .nil => .nil
  | _, _, .cons h hs => .cons (VR.ext e h) (VRs.ext e hs)
end

section lists
variable {ρ : Ren}

theorem VRs.length : ∀ {l : List AV} {vs : List Value}, VRs ρ l vs → vs.length = l.length
  | _, _, .nil => rfl
  | _, _, .cons _ hs => by simp [hs.length]

theorem VRs.append {l m : List AV} {vs us : List Value} (h : VRs ρ l vs) (k : VRs ρ m us) : VRs ρ (l ++ m) (vs ++ us) := by
  induction l generalizing vs with
  | nil => cases h; exact k
  | cons a l ih => cases h with | cons h hs => exact .cons h (ih hs)

theorem VRs.take {l : List AV} {vs : List Value} (h : VRs ρ l vs) (n : Nat) : VRs ρ (l.take n) (vs.take n) := by
  induction l generalizing vs n with
  | nil => cases h; simp; exact .nil
  | cons a l ih => cases h with | cons h hs => cases n with
    | zero => exact .nil
    | succ n => exact .cons h (ih hs n)

theorem VRs.drop {l : List AV} {vs : List Value} (h : VRs ρ l vs) (n : Nat) : VRs ρ (l.drop n) (vs.drop n) := by
  induction l generalizing vs n with
  | nil => cases h; simp; exact .nil
  | cons a l ih => cases h with | cons h hs => cases n with
    | zero => exact .cons h hs
    | succ n => exact ih hs n

theorem VRs.get {l : List AV} {vs : List Value} (h : VRs ρ l vs) {i : Nat} {a : AV} (hi : l[i]? = some a) : ∃ v, vs[i]? = some v ∧ VR ρ a v := by
  induction l generalizing vs i with
  | nil => simp at hi
  | cons x l ih => cases h with | cons h hs => cases i with
    | zero => simp at hi; subst hi; exact ⟨_, rfl, h⟩
    | succ i => exact ih hs (by simpa using hi)

theorem takeN_eq {α : Type} : ∀ (n : Nat) (l m : List α), takeN n l = some m → m = l.take n ∧ n ≤ l.length
  | 0, l, m, h => by simp [takeN] at h; simp [h]
  | n + 1, [], m, h => by simp [takeN] at h
  | n + 1, x :: l, m, h => by
    simp only [takeN] at h
    cases hr : takeN n l with
    | none => simp [hr] at h
    | some r =>
      simp [hr] at h
      obtain ⟨e, hl⟩ := takeN_eq n l r hr
      exact ⟨by rw [← h, e]; rfl, by simp; omega⟩

theorem dropN_eq {α : Type} : ∀ (n : Nat) (l m : List α), dropN n l = some m → m = l.drop n ∧ n ≤ l.length
  | 0, l, m, h => by simp [dropN] at h; simp [h]
  | n + 1, [], m, h => by simp [dropN] at h
  | n + 1, x :: l, m, h => by
    obtain ⟨e, hl⟩ := dropN_eq n l m h
    exact ⟨by simpa using e, by simp; omega⟩

theorem over_eq : ∀ (l vs m : List AV), splice.over l vs = some m → m = vs ++ l.drop vs.length ∧ vs.length ≤ l.length
  | l, [], m, h => by cases l <;> simp [splice.over] at h <;> simp [h]
  | [], v :: vs, m, h => by simp [splice.over] at h
  | x :: l, v :: vs, m, h => by
    simp only [splice.over] at h
    cases hr : splice.over l vs with
    | none => simp [hr] at h
    | some r =>
      simp [hr] at h
      obtain ⟨e, hl⟩ := over_eq l vs r hr
      exact ⟨by rw [← h, e]; simp, by simp; omega⟩

theorem splice_eq : ∀ (l : List AV) (n : Nat) (vs m : List AV), splice l n vs = some m → m = l.take n ++ vs ++ l.drop (n + vs.length) ∧ n + vs.length ≤ l.length
  | l, 0, vs, m, h => by
    have h' : splice.over l vs = some m := by cases l <;> exact h
    obtain ⟨e, hl⟩ := over_eq l vs m h'
    exact ⟨by simpa using e, by simpa using hl⟩
  | [], n + 1, vs, m, h => by simp [splice] at h
  | x :: l, n + 1, vs, m, h => by
    simp only [splice] at h
    cases hr : splice l n vs with
    | none => simp [hr] at h
    | some r =>
      simp [hr] at h
      obtain ⟨e, hl⟩ := splice_eq l n vs r hr
      refine ⟨by rw [← h, e, show n + 1 + vs.length = (n + vs.length) + 1 by omega]; simp, by simp; omega⟩

theorem AV.one_oneCell {a : AV} {v : Value} (h : VR ρ a v) (ha : a.one = true) : v.oneCell' = true := by
  cases h <;> first | rfl | (rename_i h; exact anyCell_one h) | (simp [AV.one] at ha; done) | (rename_i h; rw [← h]; exact anyCell_one (Inp.one _))

theorem allOne_mem {l : List AV} {vs : List Value} (h : VRs ρ l vs) (ha : allOne l = true) : ∀ v ∈ vs, v.oneCell' = true := by
  induction l generalizing vs with
  | nil => cases h; simp
  | cons a l ih =>
    cases h with | cons h hs =>
    simp only [allOne, Bool.and_eq_true] at ha
    intro v hv
    cases hv with
    | head => exact AV.one_oneCell h ha.1
    | tail _ hm => exact ih hs ha.2 v hm

theorem cells_one {v : Value} (h : v.oneCell' = true) : v.cells = #[v] := by cases v <;> first | rfl | (simp [Value.oneCell'] at h)

theorem VR.cells {a : AV} {v : Value} (h : VR ρ a v) (hn : a.one = true ∨ ∃ l, a = .agg l) : VRs ρ a.cells v.cells.toList := by
  rcases hn with h1 | ⟨l, rfl⟩
  · rw [cells_one (AV.one_oneCell h h1)]
    have : a.cells = [a] := by cases a <;> first | rfl | (simp [AV.one] at h1)
    rw [this]; exact .cons h .nil
  · cases h with | agg h => exact h
end lists

/-! ### slots -/
def TR (ρ : Ren) (tm : Tm) (n : Nat) (tmps : Array Value) : Prop := tmps.size = n ∧ ∀ t, VR ρ (Tm.at tm t) (tmps.getD t undef)

theorem VR.undef (ρ : Ren) : VR ρ (.tup []) Go.undef := .tup .nil

theorem TR.ext {ρ ρ' : Ren} (e : Ext ρ ρ') {tm : Tm} {n : Nat} {tmps : Array Value} (h : TR ρ tm n tmps) : TR ρ' tm n tmps := ⟨h.1, fun t => (h.2 t).ext e⟩

theorem Tm.at_set (tm : Tm) (d : Nat) (v : AV) (t : Nat) : Tm.at (tm.set d v) t = if t = d then v else Tm.at tm t := by
  unfold Tm.at
  rw [Tr.get_set]
  by_cases h : t = d <;> simp [h]

theorem TR.set {ρ : Ren} {tm : Tm} {n : Nat} {tmps : Array Value} (h : TR ρ tm n tmps) {d : Nat} (hd : d < n) {v : AV} {x : Value} (hv : VR ρ v x) :
    TR ρ (tm.set d v) n (tmps.setIfInBounds d x) := by
  refine ⟨by simp [h.1], fun t => ?_⟩
  rw [Tm.at_set]
  by_cases e : t = d
  · subst e
    rw [if_pos rfl]
    have : (tmps.setIfInBounds t x).getD t Go.undef = x := by
      have hlt : t < tmps.size := by rw [h.1]; exact hd
      simp [Array.getD, hlt]
    rw [this]; exact hv
  · rw [if_neg e]
    have : (tmps.setIfInBounds d x).getD t Go.undef = tmps.getD t Go.undef := by
      simp only [Array.getD_eq_getD_getElem?]
      rw [Array.getElem?_setIfInBounds_ne (Ne.symm e)]
    rw [this]; exact h.2 t

theorem TR.put {ρ : Ren} {tm tm' : Tm} {n : Nat} {a : Act} (h : TR ρ tm n a.tmps) {dst : Option Tmp} {v : AV} {x : Value} (hv : VR ρ v x) (hp : putA tm n dst v = some tm') :
    TR ρ tm' n (a.put dst x).tmps := by
  cases dst with
  | none => simp [putA] at hp; subst hp; exact h
  | some d =>
    simp only [putA] at hp
    split at hp
    · rename_i hd
      cases hp
      exact h.set (Nat.le_of_ble_eq_true hd) hv
    · cases hp

/-! ### blocks -/
inductive EVR (ρ : Ren) : List (AV × AV × Nat) → List MapEntry → Prop
  | nil : EVR ρ [] []
  | cons {k v : AV} {born : Nat} {x y : Value} {l : List (AV × AV × Nat)} {es : List MapEntry} (hk : VR ρ k x) (hv : VR ρ v y) (hs : EVR ρ l es) : EVR ρ ((k, v, born) :: l) (⟨x, y, born⟩ :: es)

theorem EVR.ext {ρ ρ' : Ren} (e : Ext ρ ρ') {l : List (AV × AV × Nat)} {es : List MapEntry} (h : EVR ρ l es) : EVR ρ' l es := by
  induction h with
  | nil => exact .nil
  | cons hk hv _ ih => exact .cons (hk.ext e) (hv.ext e) ih

def OR (ρ : Ren) : Option Nat → Option Nat → Prop
  | none, none => True
  | some n, some b => ∃ κ, ρ n = some (b, κ)
  | _, _ => False

inductive BR (ρ : Ren) (κ : Nat) : ABlk → Obj → Prop
  | cells {l : List AV} {es : Nat} {cs : Array Value} {t : TypeId} {lo hi : Nat} (h : VRs ρ l (cs.toList.take l.length)) (hl : l.length ≤ cs.size) (hκ : κ * es ≤ cs.size)
      (hf : lo = hi ∨ cs.size ≤ lo) : BR ρ κ (.cells l es) (.cells cs t (lo, hi))
  | map {es : List (AV × AV × Nat)} {clock : Nat} {a : Array MapEntry} (h : EVR ρ es a.toList) : BR ρ κ (.map es clock) (.map a clock)
  | iter {m : Option Nat} {b : Option Nat} {since stepped : Nat} {seen : List Nat} (h : OR ρ m b) : BR ρ κ (.iter m since seen stepped) (.mapIter b since seen.toArray stepped)
  | siter {s : List UInt8} {pos : Nat} : BR ρ κ (.siter s pos) (.stringIter ⟨s.toArray⟩ pos)
  | loop {st : LoopState} {pe : Option Code} {fn fn' : FuncId} {tm : Tm} {n : Nat} {ps : Array Tmp} {asg body : Code} {d b k : Nat} {tmps : Array Value} (ht : TR ρ tm n tmps) (hd : ρ d = some (b, k)) :
      BR ρ κ (.loop st pe fn tm n ps asg body d) (.loop { state := st, pending := pe, fn := fn', tmps, params := ps, assign := asg, body, defers := b })
  | dfr {shut : Bool} : BR ρ κ (.dfr shut) (.deferred (if shut then none else some []))

theorem BR.ext {ρ ρ' : Ren} (e : Ext ρ ρ') {κ : Nat} {b : ABlk} {o : Obj} (h : BR ρ κ b o) : BR ρ' κ b o := by
  cases h with
  | cells h hl hk hf => exact .cells (h.ext e) hl hk hf
  | map h => exact .map (h.ext e)
  | iter h =>
    refine .iter ?_
    revert h
    rename_i m b _ _ _
    cases m <;> cases b <;> simp only [OR] <;> first | exact id | (rintro ⟨κ, hκ⟩; exact ⟨κ, e _ _ hκ⟩)
  | siter => exact .siter
  | loop ht hd => exact .loop (ht.ext e) (e _ _ hd)
  | dfr => exact .dfr

theorem thawed {n lo hi : Nat} (hf : lo = hi ∨ n ≤ lo) : ∀ i, i < n → ¬ (lo ≤ i ∧ i < hi) := by
  intro i hi' h
  rcases hf with h1 | h1 <;> omega

/-! ### memory -/
/-- what came in lies as it lay; no name leads there -/
structure Base (ρ : Ren) (h : AH) (w : World) : Prop where
  inp : ∀ b, b < Inp.size → w.heap[b]? = Inp.heap b
  hsize : Inp.size ≤ w.heap.size
  above : ∀ n a b κ, h.get n = some a → ρ n = some (b, κ) → Inp.size ≤ b

structure HR (ρ : Ren) (h : AH) (w : World) : Prop where
  base : Base ρ h w
  blk : ∀ n a, h.get n = some a → ∃ b κ o, ρ n = some (b, κ) ∧ w.heap[b]? = some o ∧ BR ρ κ a o
  inj : ∀ n m a a' b κ κ', h.get n = some a → h.get m = some a' → ρ n = some (b, κ) → ρ m = some (b, κ') → n = m

/-- the blocks that a memory names -/
def InH (ρ : Ren) (h : AH) (b : Nat) : Prop := ∃ n a κ, h.get n = some a ∧ ρ n = some (b, κ)

/-- What a piece of the program may turn: names from h's next to h''s next are laid; blocks that h does not name stay; the blocks that h' names are h's, or new. -/
structure Stp (ρ : Ren) (h : AH) (w : World) (ρ' : Ren) (h' : AH) (w' : World) : Prop where
  next : h.next ≤ h'.next
  keep : ∀ n, ¬ (h.next ≤ n ∧ n < h'.next) → ρ' n = ρ n
  hr : HR ρ' h' w'
  os : w'.os = w.os
  tape : w'.tape = w.tape
  out : w'.output = w.output
  size : w.heap.size ≤ w'.heap.size
  frame : ∀ b, b < w.heap.size → ¬ InH ρ h b → w'.heap[b]? = w.heap[b]?
  old : ∀ b, InH ρ' h' b → b < w.heap.size → InH ρ h b

theorem Base.step {ρ ρ' : Ren} {h h' : AH} {w w' : World} (b0 : Base ρ h w) (size : w.heap.size ≤ w'.heap.size) (frame : ∀ b, b < w.heap.size → ¬ InH ρ h b → w'.heap[b]? = w.heap[b]?)
    (old : ∀ b, InH ρ' h' b → b < w.heap.size → InH ρ h b) : Base ρ' h' w' where
  hsize := Nat.le_trans b0.hsize size
  inp b hb := by
    rw [frame b (Nat.lt_of_lt_of_le hb b0.hsize) (fun ⟨n, a, κ, h1, h2⟩ => absurd (b0.above n a b κ h1 h2) (by omega)), b0.inp b hb]
  above n a b κ h1 h2 := by
    refine Nat.le_of_not_lt fun hlt => ?_
    obtain ⟨m, x, k, g1, g2⟩ := old b ⟨n, a, κ, h1, h2⟩ (Nat.lt_of_lt_of_le hlt b0.hsize)
    have := b0.above m x b k g1 g2
    omega

theorem Stp.mkB {ρ ρ' : Ren} {h h' : AH} {w w' : World} (hr : HR ρ h w) (next : h.next ≤ h'.next) (keep : ∀ n, ¬ (h.next ≤ n ∧ n < h'.next) → ρ' n = ρ n)
    (blk : ∀ n a, h'.get n = some a → ∃ b κ o, ρ' n = some (b, κ) ∧ w'.heap[b]? = some o ∧ BR ρ' κ a o)
    (inj : ∀ n m a a' b κ κ', h'.get n = some a → h'.get m = some a' → ρ' n = some (b, κ) → ρ' m = some (b, κ') → n = m) (os : w'.os = w.os) (tape : w'.tape = w.tape) (out : w'.output = w.output)
    (size : w.heap.size ≤ w'.heap.size) (frame : ∀ b, b < w.heap.size → ¬ InH ρ h b → w'.heap[b]? = w.heap[b]?) (old : ∀ b, InH ρ' h' b → b < w.heap.size → InH ρ h b) : Stp ρ h w ρ' h' w' :=
  ⟨next, keep, ⟨hr.base.step size frame old, blk, inj⟩, os, tape, out, size, frame, old⟩

/-- no name of a range is laid -/
def Fresh (ρ : Ren) (lo hi : Nat) : Prop := ∀ n, lo ≤ n → n < hi → ρ n = none

theorem Fresh.mono {ρ : Ren} {lo hi lo' hi' : Nat} (h : Fresh ρ lo hi) (h1 : lo ≤ lo') (h2 : hi' ≤ hi) : Fresh ρ lo' hi' := fun n a b => h n (Nat.le_trans h1 a) (Nat.lt_of_lt_of_le b h2)

theorem Stp.ext {ρ ρ' : Ren} {h h' : AH} {w w' : World} (s : Stp ρ h w ρ' h' w') (f : Fresh ρ h.next h'.next) : Ext ρ ρ' := by
  intro n x e
  by_cases hn : h.next ≤ n ∧ n < h'.next
  · rw [f n hn.1 hn.2] at e; cases e
  · rw [s.keep n hn]; exact e

theorem Stp.refl {ρ : Ren} {h : AH} {w : World} (hr : HR ρ h w) : Stp ρ h w ρ h w :=
  ⟨Nat.le_refl _, fun _ _ => rfl, hr, rfl, rfl, rfl, Nat.le_refl _, fun _ _ _ => rfl, fun _ hb _ => hb⟩

theorem Stp.trans {ρ ρ' ρ'' : Ren} {h h' h'' : AH} {w w' w'' : World} (s : Stp ρ h w ρ' h' w') (t : Stp ρ' h' w' ρ'' h'' w'') : Stp ρ h w ρ'' h'' w'' where
  next := Nat.le_trans s.next t.next
  keep n hn := by
    have := s.next
    have := t.next
    rw [t.keep n (by omega), s.keep n (by omega)]
  hr := t.hr
  os := t.os.trans s.os
  tape := t.tape.trans s.tape
  out := t.out.trans s.out
  size := Nat.le_trans s.size t.size
  frame b hb hn := by
    rw [t.frame b (Nat.lt_of_lt_of_le hb s.size) (fun hi => hn (s.old b hi hb)), s.frame b hb hn]
  old b hb hlt := s.old b (t.old b hb (Nat.lt_of_lt_of_le hlt s.size)) hlt

/-- the fresh names that are left behind a first piece -/
theorem Stp.fresh {ρ ρ' : Ren} {h h' : AH} {w w' : World} (s : Stp ρ h w ρ' h' w') {hi : Nat} (f : Fresh ρ h.next hi) : Fresh ρ' h'.next hi := by
  intro n a b
  have := s.next
  rw [s.keep n (by omega)]
  exact f n (by omega) b

/-- a draw turns nothing -/
theorem HR.drew {ρ : Ren} {h : AH} {w : World} (hr : HR ρ h w) : HR ρ h w.drew := ⟨⟨hr.base.inp, hr.base.hsize, hr.base.above⟩, hr.blk, hr.inj⟩
theorem Stp.drew {ρ : Ren} {h : AH} {w : World} (hr : HR ρ h w) : Stp ρ h w ρ h w.drew :=
  ⟨Nat.le_refl _, fun _ _ => rfl, hr.drew, rfl, rfl, rfl, Nat.le_refl _, fun _ _ _ => rfl, fun _ hb _ => hb⟩

theorem AH.get_put (h : AH) (n : Nat) (b : ABlk) (k : Nat) : (h.put n b).get k = if k = n then some b else h.get k := Tr.get_set _ _ _ _
theorem AH.get_new (h : AH) (b : ABlk) (k : Nat) : (h.new b).get k = if k = h.next then some b else h.get k := Tr.get_set _ _ _ _
theorem AH.get_drop (h : AH) (n : Nat) (k : Nat) : (h.drop n).get k = if k = n then none else h.get k := Tr.get_del _ _ _

/-- ρ with one name more -/
def Ren.with (ρ : Ren) (n b κ : Nat) : Ren := fun m => if m = n then some (b, κ) else ρ m

theorem Ren.with_ext {ρ : Ren} {n b κ : Nat} (h : ρ n = none) : Ext ρ (ρ.with n b κ) := by
  intro m x e
  unfold Ren.with
  by_cases hm : m = n
  · subst hm; rw [h] at e; cases e
  · rw [if_neg hm]; exact e
theorem Ren.with_same (ρ : Ren) (n b κ : Nat) : ρ.with n b κ n = some (b, κ) := by simp [Ren.with]

theorem HR.lt {ρ : Ren} {h : AH} {w : World} (hr : HR ρ h w) {b : Nat} (hb : InH ρ h b) : b < w.heap.size := by
  obtain ⟨n, a, κ, hn, he⟩ := hb
  obtain ⟨b', κ', o, he', hw, _⟩ := hr.blk n a hn
  rw [he] at he'; cases he'
  exact (Array.getElem?_eq_some_iff.1 hw).1

/-- A NEW BLOCK -/
theorem Stp.alloc {ρ : Ren} {h : AH} {w : World} (hr : HR ρ h w) (f : ρ h.next = none) {a : ABlk} {o : Obj} (κ : Nat) (hb : BR (ρ.with h.next w.heap.size κ) κ a o) :
    Stp ρ h w (ρ.with h.next w.heap.size κ) (h.new a) (w.alloc o) := by
  have ext := Ren.with_ext (b := w.heap.size) (κ := κ) f
  have hlt := fun n a (hn : h.get n = some a) => hr.blk n a hn
  refine Stp.mkB hr (Nat.le_succ _) ?_ ?_ ?_ rfl rfl rfl (by simp) ?_ ?_
  · intro n hn
    have : n ≠ h.next := fun e => hn (by subst e; exact ⟨Nat.le_refl _, Nat.lt_succ_self _⟩)
    simp [Ren.with, this]
  · intro n x hn
    rw [AH.get_new] at hn
    by_cases e : n = h.next
    · rw [if_pos e] at hn; cases hn
      exact ⟨w.heap.size, κ, o, by rw [e]; exact Ren.with_same _ _ _ _, World.alloc_heap_new w o, hb⟩
    · rw [if_neg e] at hn
      obtain ⟨b, κ', o', he, hw, hbr⟩ := hr.blk n x hn
      refine ⟨b, κ', o', ext _ _ he, ?_, hbr.ext ext⟩
      rw [heap_alloc_old w o b (Array.getElem?_eq_some_iff.1 hw).1]; exact hw
  · intro n m x y b k k' hn hm hen hem
    rw [AH.get_new] at hn hm
    by_cases e : n = h.next
    · by_cases e' : m = h.next
      · rw [e, e']
      · exfalso
        rw [if_neg e'] at hm
        obtain ⟨b', κ', o', he, hw, _⟩ := hr.blk m y hm
        have h1 : b = w.heap.size := by subst e; rw [Ren.with_same] at hen; cases hen; rfl
        have h2 : b = b' := by have := ext _ _ he; rw [hem] at this; cases this; rfl
        have := (Array.getElem?_eq_some_iff.1 hw).1
        omega
    · rw [if_neg e] at hn
      obtain ⟨b', κ', o', he, hw, _⟩ := hr.blk n x hn
      have h2 : b = b' := by have := ext _ _ he; rw [hen] at this; cases this; rfl
      by_cases e' : m = h.next
      · exfalso
        have h1 : b = w.heap.size := by subst e'; rw [Ren.with_same] at hem; cases hem; rfl
        have := (Array.getElem?_eq_some_iff.1 hw).1
        omega
      · rw [if_neg e'] at hm
        have e1 : ρ n = some (b, k) := by simpa [Ren.with, e] using hen
        have e2 : ρ m = some (b, k') := by simpa [Ren.with, e'] using hem
        exact hr.inj n m x y b k k' hn hm e1 e2
  · intro b hb _
    exact heap_alloc_old w o b hb
  · rintro b ⟨n, x, k, hn, he⟩ hlt
    rw [AH.get_new] at hn
    by_cases e : n = h.next
    · exfalso; subst e; rw [Ren.with_same] at he; cases he; omega
    · rw [if_neg e] at hn
      exact ⟨n, x, k, hn, by simpa [Ren.with, e] using he⟩

/-- A BLOCK THAT TURNS -/
theorem Stp.put {ρ : Ren} {h : AH} {w : World} (hr : HR ρ h w) {n b κ : Nat} {a a' : ABlk} {o' : Obj} (hn : h.get n = some a) (he : ρ n = some (b, κ)) (hb : BR ρ κ a' o') :
    Stp ρ h w ρ (h.put n a') (w.putObj b o') := by
  have hin : InH ρ h b := ⟨n, a, κ, hn, he⟩
  have hlt := hr.lt hin
  refine Stp.mkB hr (Nat.le_refl _) (fun _ _ => rfl) ?_ ?_ rfl rfl rfl (by simp) ?_ ?_
  · intro m x hm
    rw [AH.get_put] at hm
    by_cases e : m = n
    · rw [if_pos e] at hm; cases hm; subst e
      exact ⟨b, κ, o', he, World.putObj_heap_same hlt, hb⟩
    · rw [if_neg e] at hm
      obtain ⟨b2, κ2, o2, he2, hw2, hb2⟩ := hr.blk m x hm
      have hne : b2 ≠ b := fun eq => e (hr.inj m n x a b κ2 κ hm hn (by rw [← eq]; exact he2) he)
      exact ⟨b2, κ2, o2, he2, by rw [World.putObj_heap_other hne]; exact hw2, hb2⟩
  · intro m k x y b2 κ2 κ3 hm hk h1 h2
    rw [AH.get_put] at hm hk
    by_cases e : m = n
    · by_cases e' : k = n
      · rw [e, e']
      · rw [if_neg e'] at hk; subst e
        exact hr.inj m k a y b2 κ2 κ3 hn hk h1 h2
    · rw [if_neg e] at hm
      by_cases e' : k = n
      · subst e'; exact hr.inj m k x a b2 κ2 κ3 hm hn h1 h2
      · rw [if_neg e'] at hk; exact hr.inj m k x y b2 κ2 κ3 hm hk h1 h2
  · intro b2 _ hno
    exact World.putObj_heap_other (fun e => hno (by rw [e]; exact hin))
  · rintro b2 ⟨m, x, k, hm, h2⟩ _
    rw [AH.get_put] at hm
    by_cases e : m = n
    · subst e; exact ⟨m, a, k, hn, h2⟩
    · rw [if_neg e] at hm; exact ⟨m, x, k, hm, h2⟩

end Go.Hx

/-! ## Operations that do not look at memory: what the executor says of them is what the model does. -/
set_option linter.unusedSimpArgs false
set_option linter.unusedVariables false
namespace Go.Hx
variable [Inp]
set_option linter.unusedSectionVars false

section
variable {ρ : Ren}

theorem ofV1_sound {v : Value} {a : AV} (h : ofV1 v = some a) : VR ρ a v := by
  unfold ofV1 at h
  split at h <;> first
    | (cases h; first | exact .bool _ | exact .int _ _ | exact .nilptr | exact .nilmap | exact .nilfunc | exact .niliface)
    | skip
  · cases h
    rename_i s
    have : VR ρ (.str s.data.toList) (.string ⟨s.data.toList.toArray⟩) := .str _
    rwa [Array.toArray_toList] at this
  · split at h
    · cases h; exact .nilslice
    · cases h
  · cases h

theorem mapO_sound {l : List Value} {as : List AV} (h : mapO ofV1 l = some as) : VRs ρ as l := by
  induction l generalizing as with
  | nil => cases h; exact .nil
  | cons x l ih =>
    unfold mapO at h
    split at h
    · cases h
    · rename_i y hy
      split at h
      · cases h
      · rename_i ys hys
        cases h
        exact .cons (ofV1_sound hy) (ih hys)

theorem ofV_sound {v : Value} {a : AV} (h : ofV v = some a) : VR ρ a v := by
  unfold ofV at h
  split at h
  · split at h
    · rename_i hl; cases h; exact .agg (mapO_sound hl)
    · cases h
  · rename_i cs
    split at h
    · rename_i hl; cases h; exact .tup (by rw [hl]; exact .nil)
    · cases h
  · exact ofV1_sound h

theorem evalA_sound {tm : Tm} {n : Nat} {a : Act} (ht : TR ρ tm n a.tmps) {x : Operand} {v : AV} (h : evalA tm x = some v) : VR ρ v (a.eval x) := by
  cases x with
  | tmp t => simp only [evalA] at h; cases h; exact ht.2 t
  | const c => exact ofV_sound h
  | global g => simp [evalA] at h
  | func f => simp only [evalA] at h; cases h; exact .fn .nil .nil

theorem evalL_sound {tm : Tm} {n : Nat} {a : Act} (ht : TR ρ tm n a.tmps) {l : List Operand} {vs : List AV} (h : evalL tm l = some vs) : VRs ρ vs (l.map a.eval) := by
  induction l generalizing vs with
  | nil => cases h; exact .nil
  | cons x l ih =>
    unfold evalL at h
    split at h
    · rename_i v hv
      split at h
      · rename_i us hus; cases h; exact .cons (evalA_sound ht hv) (ih hus)
      · cases h
    · cases h

inductive OVR (ρ : Ren) : Option AV → Option Value → Prop
  | none : OVR ρ none none
  | some {a : AV} {v : Value} (h : VR ρ a v) : OVR ρ (some a) (some v)

theorem evalO_sound {tm : Tm} {n : Nat} {a : Act} (ht : TR ρ tm n a.tmps) {x : Option Operand} {v : Option AV} (h : evalO tm x = some v) : OVR ρ v (x.map a.eval) := by
  cases x with
  | none => cases h; exact .none
  | some x =>
    simp only [evalO] at h
    split at h
    · rename_i v hv; cases h; exact .some (evalA_sound ht hv)
    · cases h

inductive PVR (ρ : Ren) : List (Nat × AV) → List (Nat × Value) → Prop
  | nil : PVR ρ [] []
  | cons {i : Nat} {a : AV} {v : Value} {l : List (Nat × AV)} {vs : List (Nat × Value)} (h : VR ρ a v) (hs : PVR ρ l vs) : PVR ρ ((i, a) :: l) ((i, v) :: vs)

theorem evalP_sound {tm : Tm} {n : Nat} {a : Act} (ht : TR ρ tm n a.tmps) {l : List (Nat × Operand)} {vs : List (Nat × AV)} (h : evalP tm l = some vs) :
    PVR ρ vs (l.map fun (i, x) => (i, a.eval x)) := by
  induction l generalizing vs with
  | nil => cases h; exact .nil
  | cons p l ih =>
    obtain ⟨i, x⟩ := p
    unfold evalP at h
    split at h
    · rename_i v hv
      split at h
      · rename_i us hus; cases h; exact .cons (evalA_sound ht hv) (ih hus)
      · cases h
    · cases h

/-! ### numbers -/
theorem wrap_range (k : IntKind) (n : Int) : k.min ≤ k.wrap n ∧ k.wrap n ≤ k.max := by
  unfold IntKind.wrap IntKind.min IntKind.max
  cases k <;> simp only [IntKind.bits, IntKind.signed] <;> simp <;> (try split) <;> omega

theorem VR.top {k : IntKind} {n : Int} : VR ρ (topA k) (.int k (k.wrap n)) := .rng (wrap_range k n).1 (wrap_range k n).2

theorem kindEq_eq {j k : IntKind} (h : kindEq j k = true) : j = k := by simpa [kindEq] using h

variable {P : Program} {w : World}

theorem arith_sound {op : BinOp} {k : IntKind} {x y : Int} {r : AV} (t : TypeId) (h : arith op k x y = some r) :
    ∃ v, (binOp op t (.int k x) (.int k y)).run P w = .ok v w ∧ VR ρ r v := by
  cases op <;> simp only [arith] at h
  case quo =>
    split at h
    · cases h
    · rename_i hy; cases h; exact ⟨.int k (k.wrap (x.tdiv y)), by simp [binOp, Op.intDiv, hy], .int _ _⟩
  case rem =>
    split at h
    · cases h
    · rename_i hy; cases h; exact ⟨.int k (x.tmod y), by simp [binOp, Op.intDiv, hy], .int _ _⟩
  case shl => cases h
  case shr => cases h
  case andNot => cases h; exact ⟨.int k (k.wrap (BitVec.ofInt k.bits x &&& ~~~(BitVec.ofInt k.bits y)).toNat), by simp only [binOp, Op.intBits]; simp only [ne_eq, not_true_eq_false, if_false]; rfl, .int _ _⟩
  all_goals
    cases h
    first
      | exact ⟨_, by simp [binOp, Op.intArith, Op.intBits, Op.intCmp]; rfl, by first | exact .int _ _ | exact .bool _⟩
      | exact ⟨_, by simp [binOp, Op.intArith, Op.intBits, Op.intCmp], by first | exact .int _ _ | exact .bool _⟩

theorem shift_sound {op : BinOp} {k j : IntKind} {x y : Int} {r : AV} (t : TypeId) (h : shift op k x y = some r) :
    ∃ v, (binOp op t (.int k x) (.int j y)).run P w = .ok v w ∧ VR ρ r v := by
  unfold shift at h
  split at h
  · cases h
  · rename_i hy
    split at h
    · cases h; exact ⟨.int k (k.wrap (x * 2 ^ (min y.toNat k.bits))), by simp [binOp, Op.shift, hy], .int _ _⟩
    · cases h; exact ⟨.int k (x.fdiv (2 ^ (min y.toNat k.bits))), by simp [binOp, Op.shift, hy], .int _ _⟩
    · cases h

theorem cmpR_sound {yes no : Bool} {r : AV} {b : Bool} (h : cmpR yes no = some r) (hy : yes = true → b = true) (hn : no = true → b = false) : VR ρ r (.bool b) := by
  unfold cmpR at h
  split at h
  · rename_i e; cases h; rw [hy e]; exact .bool _
  · split at h
    · rename_i e; cases h; rw [hn e]; exact .bool _
    · cases h

theorem rngArith_sound {op : BinOp} {k : IntKind} {a b c d x y : Int} {r : AV} (t : TypeId) (h : rngArith op k a b c d = some r)
    (h1 : a ≤ x) (h2 : x ≤ b) (h3 : c ≤ y) (h4 : y ≤ d) : ∃ v, (binOp op t (.int k x) (.int k y)).run P w = .ok v w ∧ VR ρ r v := by
  cases op <;> simp only [rngArith] at h
  case quo => cases h
  case rem => cases h
  case shl => cases h
  case shr => cases h
  case lss => exact ⟨.bool (decide (x < y)), by simp [binOp, Op.intCmp], cmpR_sound h (fun e => by simp at e ⊢; omega) (fun e => by simp at e ⊢; omega)⟩
  case leq => exact ⟨.bool (decide (x ≤ y)), by simp [binOp, Op.intCmp], cmpR_sound h (fun e => by simp at e ⊢; omega) (fun e => by simp at e ⊢; omega)⟩
  case gtr => exact ⟨.bool (decide (x > y)), by simp [binOp, Op.intCmp], cmpR_sound h (fun e => by simp at e ⊢; omega) (fun e => by simp at e ⊢; omega)⟩
  case geq => exact ⟨.bool (decide (x ≥ y)), by simp [binOp, Op.intCmp], cmpR_sound h (fun e => by simp at e ⊢; omega) (fun e => by simp at e ⊢; omega)⟩
  case eql => exact ⟨.bool (x == y), by simp [binOp, Op.intCmp], cmpR_sound h (fun e => by simp at e) (fun e => by simp at e ⊢; omega)⟩
  case neq => exact ⟨.bool (x != y), by simp [binOp, Op.intCmp], cmpR_sound h (fun e => by simp at e ⊢; omega) (fun e => by simp at e)⟩
  case andNot => cases h; exact ⟨.int k (k.wrap (BitVec.ofInt k.bits x &&& ~~~(BitVec.ofInt k.bits y)).toNat), by simp only [binOp, Op.intBits]; simp only [ne_eq, not_true_eq_false, if_false]; rfl, VR.top⟩
  all_goals
    cases h
    first
      | exact ⟨_, by simp [binOp, Op.intArith, Op.intBits, Op.intCmp]; rfl, VR.top⟩
      | exact ⟨_, by simp [binOp, Op.intArith, Op.intBits, Op.intCmp], VR.top⟩

theorem fdiv_bounds {x p lo hi : Int} (hp : 1 ≤ p) (h1 : lo ≤ x) (h2 : x ≤ hi) (h3 : lo ≤ 0) (h4 : 0 ≤ hi) : lo ≤ x.fdiv p ∧ x.fdiv p ≤ hi := by
  rw [Int.fdiv_eq_ediv_of_nonneg x (by omega)]
  constructor
  · by_cases hx : 0 ≤ x
    · have := Int.ediv_nonneg hx (by omega : 0 ≤ p); omega
    · have : x ≤ x / p := by
        rw [Int.le_ediv_iff_mul_le (by omega)]
        have : x * p ≤ x * 1 := Int.mul_le_mul_of_nonpos_left (by omega) (by omega)
        omega
      omega
  · by_cases hx : 0 ≤ x
    · have := Int.ediv_le_self p hx; omega
    · have : x / p < 0 := Int.ediv_neg_of_neg_of_pos (by omega) (by omega)
      omega

theorem kind_zero (k : IntKind) : k.min ≤ 0 ∧ 0 ≤ k.max := by cases k <;> decide

theorem rngShift_sound {op : BinOp} {k j : IntKind} {x y a b : Int} {r : AV} (t : TypeId) (h : rngShift op k y a b = some r) (h1 : a ≤ x) (h2 : x ≤ b) :
    ∃ v, (binOp op t (.int k x) (.int j y)).run P w = .ok v w ∧ VR ρ r v := by
  unfold rngShift at h
  split at h
  · cases h
  · rename_i hy
    split at h
    · cases h; exact ⟨.int k (k.wrap (x * 2 ^ (min y.toNat k.bits))), by simp [binOp, Op.shift, hy], VR.top⟩
    · split at h
      · rename_i hk
        simp at hk
        cases h
        refine ⟨.int k (x.fdiv (2 ^ (min y.toNat k.bits))), by simp [binOp, Op.shift, hy], ?_⟩
        have := fdiv_bounds (x := x) (p := 2 ^ (min y.toNat k.bits)) (lo := k.min) (hi := k.max) (by
          have : (0 : Int) < 2 ^ (min y.toNat k.bits) := Int.pow_pos (by omega)
          omega) (by omega) (by omega) (kind_zero k).1 (kind_zero k).2
        exact .rng this.1 this.2
      · cases h
    · cases h

theorem bytesLess_eq : ∀ (x y : List UInt8), bytesLess x y = Op.bytesLess x y
  | _, [] => by simp [bytesLess, Op.bytesLess]
  | [], _ :: _ => rfl
  | a :: x, b :: y => by simp [bytesLess, Op.bytesLess, bytesLess_eq x y]

theorem toList_mk (l : List UInt8) : (ByteArray.mk l.toArray).toList = l := by
  rw [ByteArray.toList_eq]

end
end Go.Hx

/-! ## Operations that do not look at memory, further: comparison, cuts, places, parts. -/
set_option linter.unusedSimpArgs false
set_option linter.unusedVariables false
namespace Go.Hx
variable [Inp]
set_option linter.unusedSectionVars false

section
variable {ρ : Ren} {P : Program} {w : World}

theorem r_und {t : TypeId} {d : TypeDesc} (h : P.underlying t = some d) : (underlying t).run P w = .ok d w := run_underlying h w
theorem r_info {t : TypeId} {i : TypeInfo} (h : P.info? t = some i) : (typeInfo t).run P w = .ok i w := by simp [typeInfo, h]
theorem r_size {t : TypeId} {n : Nat} (h : tsize P t = some n) : (sizeOf t).run P w = .ok n w := by
  unfold tsize at h
  split at h
  · rename_i i hi; cases h; simp [sizeOf, r_info hi]
  · cases h
theorem r_zero {t : TypeId} {i : TypeInfo} {z : Value} (h : P.info? t = some i) (hz : i.zero = some z) : (zeroValue t).run P w = .ok z w := by
  simp [zeroValue, r_info h, hz]
theorem r_isAgg {t : TypeId} {b : Bool} (h : isAggT P t = some b) : (isAgg t).run P w = .ok b w := by
  unfold isAggT at h
  split at h
  · rename_i f hu; cases h; simp [isAgg, r_und hu]
  · rename_i n e hu; cases h; simp [isAgg, r_und hu]
  · rename_i d h1 h2 hu
    cases h
    simp only [isAgg, Sem.run_bind, r_und hu, Result.andThen_ok]
    rfl
  · cases h

theorem tzero_run {t : TypeId} {z : AV} (h : tzero P t = some z) : ∃ i zv, P.info? t = some i ∧ i.zero = some zv ∧ ofV zv = some z := by
  unfold tzero at h
  split at h
  · rename_i i hi
    split at h
    · rename_i zv hz; exact ⟨i, zv, hi, hz, h⟩
    · cases h
  · cases h

theorem tsize_info {t : TypeId} {n : Nat} (h : tsize P t = some n) : ∃ i, P.info? t = some i ∧ i.size = n := by
  unfold tsize at h
  split at h
  · rename_i i hi; cases h; exact ⟨i, hi, rfl⟩
  · cases h

/-! ### strings -/
theorem strOp_sound {op : BinOp} {x y : List UInt8} {r : AV} (t : TypeId) (h : strOp op x y = some r) :
    ∃ v, (binOp op t (.string ⟨x.toArray⟩) (.string ⟨y.toArray⟩)).run P w = .ok v w ∧ VR ρ r v := by
  cases op <;> simp only [strOp] at h
  case add =>
    split at h
    · cases h
    · rename_i hn
      cases h
      refine ⟨.string ⟨(x ++ y).toArray⟩, ?_, .str _⟩
      have hs : ¬ (((⟨x.toArray⟩ : ByteArray).size + (⟨y.toArray⟩ : ByteArray).size : Nat) : Int) > IntKind.i64.max := by
        have e1 : (⟨x.toArray⟩ : ByteArray).size = x.length := by simp [ByteArray.size]
        have e2 : (⟨y.toArray⟩ : ByteArray).size = y.length := by simp [ByteArray.size]
        rw [e1, e2]
        have : IntKind.i64.max = 9223372036854775807 := by decide
        rw [this]; exact hn
      have ha : (⟨x.toArray⟩ : ByteArray) ++ ⟨y.toArray⟩ = ⟨(x ++ y).toArray⟩ := by
        apply ByteArray.ext
        simp [ByteArray.data_append]
      simp only [binOp, Op.stringOp, if_neg hs, ha]
      rfl
  case eql => cases h; exact ⟨.bool (x == y), by simp [binOp, Op.stringOp, toList_mk], .bool _⟩
  case neq => cases h; exact ⟨.bool (!(x == y)), by simp [binOp, Op.stringOp, toList_mk], .bool _⟩
  case lss => cases h; exact ⟨.bool (bytesLess x y), by simp [binOp, Op.stringOp, toList_mk, bytesLess_eq], .bool _⟩
  case leq => cases h; exact ⟨.bool (bytesLess x y || x == y), by simp [binOp, Op.stringOp, toList_mk, bytesLess_eq], .bool _⟩
  case gtr => cases h; exact ⟨.bool (!(bytesLess x y || x == y)), by simp [binOp, Op.stringOp, toList_mk, bytesLess_eq], .bool _⟩
  case geq => cases h; exact ⟨.bool (!bytesLess x y), by simp [binOp, Op.stringOp, toList_mk, bytesLess_eq], .bool _⟩
  all_goals cases h

/-! ### equality -/
theorem bs_beq (a b : List UInt8) : ((⟨a.toArray⟩ : ByteArray) == ⟨b.toArray⟩) = (a == b) := by
  show (a.toArray == b.toArray) = (a == b)
  simp

theorem aeq1_sound {t : TypeId} {x y : AV} {vx vy : Value} {b : Bool} (h : aeq1 P t x y = some b) (hx : VR ρ x vx) (hy : VR ρ y vy) (d : Nat) :
    (Op.equalIn (d + 1) t vx vy).run P w = .ok b w := by
  unfold aeq1 at h
  split at h <;> first | (cases h; done) | skip
  · cases hx; cases hy; split at h
    · rename_i hu; cases h; simp [Op.equalIn, r_und hu]
    · cases h
  · cases hx; cases hy
    split at h
    · rename_i hk
      have := kindEq_eq hk
      subst this
      split at h
      · rename_i hu; cases h; simp [Op.equalIn, r_und hu]
      · cases h
    · cases h
  · cases hx; cases hy; split at h
    · rename_i hu; cases h; simp only [Op.equalIn, Sem.run_bind, r_und hu, Result.andThen_ok, Sem.run_pure, bs_beq]
    · cases h
  · cases hx; cases hy; split at h
    · rename_i hu; cases h; simp [Op.equalIn, r_und hu]
    · cases h
  · cases hx; cases hy; split at h
    · rename_i hu; cases h; simp [Op.equalIn, r_und hu]
    · cases h
  · cases hx; cases hy; split at h
    · rename_i hu; cases h; simp [Op.equalIn, r_und hu]
    · cases h
  · cases hx; cases hy; split at h
    · rename_i hu; cases h; simp [Op.equalIn, r_und hu]
    · cases h
  · cases hx; cases hy; split at h
    · rename_i hu; cases h; simp [Op.equalIn, r_und hu]
    · cases h
  · cases hx; cases hy; split at h
    · rename_i hu; cases h; simp [Op.equalIn, r_und hu]
    · cases h
  · cases hx; cases hy; split at h
    · rename_i hu; cases h; simp [Op.equalIn, r_und hu]
    · cases h
  · cases hx; cases hy <;> (split at h; (rename_i hu; cases h; simp [Op.equalIn, r_und hu]); cases h)
  · cases hy; cases hx <;> (split at h; (rename_i hu; cases h; simp [Op.equalIn, r_und hu]); cases h)

theorem isIntT_spec {e : TypeId} (h : isIntT P e = true) : ∃ k, P.underlying e = some (.int k) := by
  unfold isIntT at h
  split at h
  · rename_i k hk; exact ⟨k, hk⟩
  · cases h

theorem isAggT_int {e : TypeId} {k : IntKind} (h : P.underlying e = some (.int k)) : isAggT P e = some false := by simp [isAggT, h]

theorem run_part1 {e : TypeId} {k : IntKind} (he : P.underlying e = some (.int k)) {xs : Array Value} {i : Nat} {v : Value} (h : xs[i]? = some v) : (part e xs i).run P w = .ok v w := by
  simp [part, r_isAgg (isAggT_int he), h]

theorem run_eqInts {e : TypeId} {q : IntKind} (he : P.underlying e = some (.int q)) {xs ys : Array Value} (d : Nat) : ∀ (l m : List AV) (i : Nat) (b : Bool), eqInts l m = some b →
    VRs ρ l (xs.toList.drop i) → VRs ρ m (ys.toList.drop i) → (Op.eqItems (d + 1) e 1 xs ys (List.range' i l.length)).run P w = .ok b w
  | [], [], i, b, h, _, _ => by simp [eqInts] at h; subst h; simp [Op.eqItems]
  | [], _ :: _, i, b, h, _, _ => by simp [eqInts] at h
  | x :: l, [], i, b, h, _, _ => by cases x <;> simp [eqInts] at h
  | x :: l, y :: m, i, b, h, hx, hy => by
    cases x <;> (try (simp [eqInts] at h; done))
    rename_i j a
    cases y <;> (try (simp [eqInts] at h; done))
    rename_i k c
    simp only [eqInts] at h
    split at h
    · rename_i hk
      have := kindEq_eq hk
      subst this
      generalize hxs : xs.toList.drop i = X at hx
      generalize hys : ys.toList.drop i = Y at hy
      cases hx with | cons hx hxs' =>
      cases hy with | cons hy hys' =>
      cases hx; cases hy
      rename_i vs us
      have e1 : xs[i]? = some (.int j a) := by
        have : (xs.toList.drop i)[0]? = some (.int j a) := by rw [hxs]; rfl
        simpa using this
      have e2 : ys[i]? = some (.int j c) := by
        have : (ys.toList.drop i)[0]? = some (.int j c) := by rw [hys]; rfl
        simpa using this
      have d1 : xs.toList.drop (i + 1) = vs := by rw [← List.drop_drop, hxs]; rfl
      have d2 : ys.toList.drop (i + 1) = us := by rw [← List.drop_drop, hys]; rfl
      simp only [List.length_cons, List.range'_succ, Op.eqItems, Sem.run_bind, Nat.mul_one, run_part1 he e1, run_part1 he e2, Result.andThen_ok, run_equalIn_int w d e j q a c he]
      split at h
      · rename_i heq
        have ih := run_eqInts he d l m (i + 1) b h (by rw [d1]; exact hxs') (by rw [d2]; exact hys')
        simpa [heq] using ih
      · rename_i hne
        split at h
        · cases h; simp [hne]
        · cases h
    · cases h

theorem aeq_sound {t : TypeId} {x y : AV} {vx vy : Value} {b : Bool} (h : aeq P t x y = some b) (hx : VR ρ x vx) (hy : VR ρ y vy) :
    (Op.equal t vx vy).run P w = .ok b w := by
  unfold aeq at h
  split at h
  · rename_i l m
    cases hx with | agg hx =>
    cases hy with | agg hy =>
    split at h
    · rename_i n e hu
      split at h
      · rename_i hc
        simp only [Bool.and_eq_true] at hc
        obtain ⟨⟨hi, hl⟩, hm⟩ := hc
        obtain ⟨q, hq⟩ := isIntT_spec hi
        split at h
        · rename_i hs
          obtain ⟨i, hi', hi2⟩ := tsize_info hs
          show (Op.equalIn (9999 + 1) t _ _).run P w = _
          rw [run_equalIn_array w 9999 _ _ hu hi']
          have hc : P.cellsOf e = 1 := by simp [Program.cellsOf, hi', hi2]
          rw [hc, List.range_eq_range', ← beq_yes hl]
          exact run_eqInts hq 9998 l m 0 b h (by simpa using hx) (by simpa using hy)
        · cases h
      · cases h
    · cases h
  · exact aeq1_sound h hx hy 9999

theorem run_eqGuard_ints {op : BinOp} {t : TypeId} {ox oy : Operand} {a b : Value} (h1 : ¬ (a matches .nilIface)) (h2 : ¬ (a matches .agg _)) :
    (eqGuard op t ox oy a b).run P w = .ok () w := by
  unfold eqGuard
  cases op <;> simp only [Bool.not_true, Bool.not_false, if_true, if_false, Bool.false_eq_true] <;> (try rfl) <;>
    (cases a <;> first | (exfalso; exact h1 rfl) | (exfalso; exact h2 rfl) | rfl)

theorem guardOK_any1 {t : TypeId} {ox oy : Operand} {y : AV} : guardOK P t ox oy .any y = false := by cases y <;> rfl
theorem guardOK_any2 {t : TypeId} {ox oy : Operand} {x : AV} : guardOK P t ox oy x .any = false := by cases x <;> rfl

theorem guardOK_inp1 {t : TypeId} {ox oy : Operand} {k : Nat} {y : AV} : guardOK P t ox oy (.inp k) y = false := by cases y <;> rfl
theorem guardOK_inp2 {t : TypeId} {ox oy : Operand} {k : Nat} {x : AV} : guardOK P t ox oy x (.inp k) = false := by cases x <;> rfl

theorem run_eqGuard {op : BinOp} {t : TypeId} {ox oy : Operand} {x y : AV} {vx vy : Value} (hx : VR ρ x vx) (hy : VR ρ y vy)
    (h : guardOK P t ox oy x y = true) :
    (eqGuard op t ox oy vx vy).run P w = .ok () w := by
  cases hx <;> (try (rw [guardOK_any1] at h; cases h; done)) <;> (try (rw [guardOK_inp1] at h; cases h; done)) <;> (try (refine run_eqGuard_ints ?_ ?_ <;> simp; done))
  · cases hy <;> (try (rw [guardOK_any2] at h; cases h; done)) <;> (try (rw [guardOK_inp2] at h; cases h; done)) <;> (try (unfold eqGuard; cases op <;> rfl))
    simp only [guardOK, Bool.or_eq_true] at h
    unfold eqGuard
    cases op <;> (try rfl)
    all_goals
      simp only []
      cases ox <;> cases oy <;> simp_all [isConst]
  · cases hy <;> (try (rw [guardOK_any2] at h; cases h; done)) <;> (try (rw [guardOK_inp2] at h; cases h; done)) <;> (try (unfold eqGuard; cases op <;> rfl))
    simp only [guardOK, Bool.not_eq_true'] at h
    unfold eqGuard
    cases op <;> (try rfl)
    all_goals simp [h]

theorem eqOp_sound {op : BinOp} {t : TypeId} {ox oy : Operand} {x y : AV} {vx vy : Value} {r : AV} (h : eqOp P op t ox oy x y = some r) (hx : VR ρ x vx) (hy : VR ρ y vy) :
    (eqGuard op t ox oy vx vy).run P w = .ok () w ∧ ∃ b, (Op.equal t vx vy).run P w = .ok b w ∧ ((op = .eql ∧ r = .bool b) ∨ (op = .neq ∧ r = .bool (!b))) := by
  unfold eqOp at h
  split at h
  · rename_i hg
    refine ⟨run_eqGuard hx hy hg, ?_⟩
    split at h
    · split at h
      · rename_i b hb; cases h; exact ⟨b, aeq_sound hb hx hy, .inl ⟨rfl, rfl⟩⟩
      · cases h
    · split at h
      · rename_i b hb; cases h; exact ⟨b, aeq_sound hb hx hy, .inr ⟨rfl, rfl⟩⟩
      · cases h
    · cases h
  · cases h

/-- which pairs of values the general comparison is for -/
def Value.plainPair : Value → Value → Bool
  | .int _ _, .int _ _ => false
  | .string _, .string _ => false
  | .float _ _, .float _ _ => false
  | .complex _ _ _, .complex _ _ _ => false
  | _, _ => true

theorem binOp_eql {t : TypeId} {a b : Value} (h : Value.plainPair a b = true) : binOp .eql t a b = (do pure (.bool (← Op.equal t a b))) := by
  cases a <;> cases b <;> first | rfl | (simp [Value.plainPair] at h)
theorem binOp_neq {t : TypeId} {a b : Value} (h : Value.plainPair a b = true) : binOp .neq t a b = (do pure (.bool (!(← Op.equal t a b)))) := by
  cases a <;> cases b <;> first | rfl | (simp [Value.plainPair] at h)

theorem eqOp_run {op : BinOp} {t : TypeId} {ox oy : Operand} {x y : AV} {vx vy : Value} {r : AV} (h : eqOp P op t ox oy x y = some r) (hx : VR ρ x vx) (hy : VR ρ y vy)
    (hp : Value.plainPair vx vy = true) :
    ∃ v, (do eqGuard op t ox oy vx vy; binOp op t vx vy : Sem Value).run P w = .ok v w ∧ VR ρ r v := by
  obtain ⟨h1, b, h2, h3⟩ := eqOp_sound (w := w) h hx hy
  rcases h3 with ⟨rfl, rfl⟩ | ⟨rfl, rfl⟩
  · exact ⟨.bool b, by simp [h1, binOp_eql hp, h2], .bool _⟩
  · exact ⟨.bool (!b), by simp [h1, binOp_neq hp, h2], .bool _⟩

theorem binOpA_sound {op : BinOp} {t : TypeId} {ox oy : Operand} {x y : AV} {vx vy : Value} {r : AV} (h : binOpA P op t ox oy x y = some r) (hx : VR ρ x vx) (hy : VR ρ y vy) :
    ∃ v, (do eqGuard op t ox oy vx vy; binOp op t vx vy : Sem Value).run P w = .ok v w ∧ VR ρ r v := by
  have go : ∀ {k k' : IntKind} {n n' : Int}, (∃ v, (binOp op t (.int k n) (.int k' n')).run P w = .ok v w ∧ VR ρ r v) →
      ∃ v, (do eqGuard op t ox oy (.int k n) (.int k' n'); binOp op t (.int k n) (.int k' n') : Sem Value).run P w = .ok v w ∧ VR ρ r v := by
    rintro k k' n n' ⟨v, hv, hr⟩
    exact ⟨v, by simp [run_eqGuard_ints, hv], hr⟩
  unfold binOpA at h
  split at h
  · cases hx; cases hy
    apply go
    split at h
    · exact shift_sound t h
    · exact shift_sound t h
    · split at h
      · rename_i hk; have := kindEq_eq hk; subst this; exact arith_sound t h
      · cases h
  · cases hx with | rng h1 h2 =>
    cases hy
    apply go
    split at h
    · exact rngShift_sound t h h1 h2
    · exact rngShift_sound t h h1 h2
    · split at h
      · rename_i hk; have := kindEq_eq hk; subst this; exact rngArith_sound t h h1 h2 (Int.le_refl _) (Int.le_refl _)
      · cases h
  · cases hx
    cases hy with | rng h1 h2 =>
    apply go
    split at h
    · cases h
    · cases h
    · split at h
      · rename_i hk; have := kindEq_eq hk; subst this; exact rngArith_sound t h (Int.le_refl _) (Int.le_refl _) h1 h2
      · cases h
  · cases hx with | rng h1 h2 =>
    cases hy with | rng h3 h4 =>
    apply go
    split at h
    · cases h
    · cases h
    · split at h
      · rename_i hk; have := kindEq_eq hk; subst this; exact rngArith_sound t h h1 h2 h3 h4
      · cases h
  · cases hx; cases hy
    obtain ⟨v, hv, hr⟩ := strOp_sound (ρ := ρ) (P := P) (w := w) t h
    exact ⟨v, by simp [run_eqGuard_ints, hv], hr⟩
  · rename_i h1 h2 h3 h4 h5
    refine eqOp_run h hx hy ?_
    cases hx <;> cases hy <;> first
      | rfl
      | (exfalso; first | exact h1 _ _ _ _ rfl rfl | exact h2 _ _ _ _ _ rfl rfl | exact h3 _ _ _ _ _ rfl rfl | exact h4 _ _ _ _ _ _ rfl rfl | exact h5 _ _ rfl rfl)
      | (simp [eqOp, guardOK] at h; done)

end
end Go.Hx

/-! ## Operations that do not look at memory: cuts, places, fields, what is put together; then all of them. -/
set_option linter.unusedSimpArgs false
set_option linter.unusedVariables false
namespace Go.Hx
variable [Inp]
set_option linter.unusedSectionVars false

section
variable {ρ : Ren} {P : Program} {w : World}

theorem addr_add (b off k : Nat) : (⟨b, off, none⟩ : Addr).add k = ⟨b, off + k, none⟩ := by
  unfold Addr.add
  split
  · rename_i h; simp [h]
  · rfl

/-- a bound that is left out, or a number -/
inductive Bd : Option AV → Nat → Nat → Nat → Prop
  | none {y d : Nat} : Bd none y d d
  | some {k : IntKind} {i : Int} {y d : Nat} (h0 : 0 ≤ i) (h : i.toNat ≤ y) : Bd (some (.int k i)) y d i.toNat

theorem bound_spec {x : Option AV} {y d r : Nat} (h : bound x y d = some r) : Bd x y d r := by
  unfold bound at h
  split at h
  · cases h; exact .none
  · split at h
    · rename_i h0
      split at h
      · rename_i h1; cases h; exact .some h0 (Nat.le_of_ble_eq_true h1)
      · cases h
    · cases h
  · cases h

theorem run_sliceBound {k : IntKind} {i : Int} {y : Nat} {code : BoundsCode} (h0 : 0 ≤ i) (h : i.toNat ≤ y) : (Instr.sliceBound (.int k i) y code).run P w = .ok i.toNat w := by
  have : i ≤ (y : Int) := by omega
  simp [Instr.sliceBound, asIntOf, h0, this]

theorem run_sliceBounds {s : Bool} {len cap : Nat} {lo hi mx : Option AV} {lo' hi' mx' : Option Value} {l h m : Nat} (olo : OVR ρ lo lo') (ohi : OVR ρ hi hi') (omx : OVR ρ mx mx')
    (hm : Bd mx cap cap m) (hh : Bd hi (if mx.isSome then m else cap) len h) (hl : Bd lo h 0 l) (hx : (mx.isSome && hi.isNone) = false) :
    (Instr.sliceBounds s len cap lo' hi' mx').run P w = .ok (l, h, m) w := by
  cases omx with
  | none =>
    cases hm
    cases ohi with
    | none =>
      cases hh
      cases olo with
      | none => cases hl; simp [Instr.sliceBounds]
      | some hv => cases hl with | some h0 h1 => cases hv; simp [Instr.sliceBounds, run_sliceBound h0 h1]
    | some hv =>
      cases hh with | some h0 h1 =>
      cases hv
      replace h1 : _ ≤ cap := h1
      cases olo with
      | none => cases hl; simp [Instr.sliceBounds, run_sliceBound h0 h1]
      | some hv2 => cases hl with | some h2 h3 => cases hv2; simp [Instr.sliceBounds, run_sliceBound h0 h1, run_sliceBound h2 h3]
  | some hv =>
    cases hm with | some h4 h5 =>
    cases hv
    cases ohi with
    | none => simp at hx
    | some hv =>
      cases hh with | some h0 h1 =>
      cases hv
      replace h1 : _ ≤ Int.toNat _ := h1
      cases olo with
      | none => cases hl; simp [Instr.sliceBounds, run_sliceBound h0 h1, run_sliceBound h4 h5]
      | some hv2 => cases hl with | some h2 h3 => cases hv2; simp [Instr.sliceBounds, run_sliceBound h0 h1, run_sliceBound h2 h3, run_sliceBound h4 h5]

theorem Bd.widen {x : Option AV} {y y' d r : Nat} (h : Bd x y d r) (hy : y ≤ y') : Bd x y' d r := by
  cases h with
  | none => exact .none
  | some h0 h1 => exact .some h0 (by omega)

theorem Bd.le {x : Option AV} {y d r : Nat} (h : Bd x y d r) (hd : d ≤ y) : r ≤ y := by
  cases h with
  | none => exact hd
  | some _ h1 => exact h1

theorem some_str_extract (s : List UInt8) (l h : Nat) (hh : h ≤ s.length) : (⟨s.toArray⟩ : ByteArray).extract l h = ⟨((s.take h).drop l).toArray⟩ := by
  apply ByteArray.ext
  simp [ByteArray.data_extract]
  rw [List.drop_take]

theorem sliceA_sound {t : TypeId} {x r : AV} {vx : Value} {lo hi mx : Option AV} {lo' hi' mx' : Option Value} (h : sliceA P t x lo hi mx = some r) (hx : VR ρ x vx)
    (olo : OVR ρ lo lo') (ohi : OVR ρ hi hi') (omx : OVR ρ mx mx') :
    ∃ v, (Instr.sliceAt t vx lo' hi' mx').run P w = .ok v w ∧ VR ρ r v := by
  unfold sliceA at h
  split at h
  · -- a string
    rename_i hu
    split at h
    · rename_i s
      cases hx; cases omx
      split at h
      · rename_i h1 hh
        split at h
        · rename_i l hl
          cases h
          have b1 := bound_spec hh
          have b2 := bound_spec hl
          refine ⟨.string ⟨((s.take h1).drop l).toArray⟩, ?_, .str _⟩
          have hsz : (⟨s.toArray⟩ : ByteArray).size = s.length := by simp [ByteArray.size]
          have hb := run_sliceBounds (P := P) (w := w) (s := false) (len := s.length) (cap := s.length) (m := s.length) olo ohi (.none (ρ := ρ)) .none (by simpa using b1) b2 (by rfl)
          have := b1.le (Nat.le_refl _)
          simp only [Instr.sliceAt, Instr.slice, Sem.run_bind, r_und hu, Result.andThen_ok, Option.isSome_none, Bool.false_eq_true, if_false, hsz]
          rw [hb]
          simp only [Result.andThen_ok, Sem.run_pure, some_str_extract s l h1 this]
        · cases h
      · cases h
    · cases h
  · -- an array in memory
    rename_i n e hu
    split at h
    · rename_i es b off hs
      cases hx with | ptr hp =>
      split at h
      · rename_i m hm
        split at h
        · rename_i h1 hh
          split at h
          · rename_i l hl
            split at h
            · cases h
            · rename_i hb
              have hb' : (mx.isSome && hi.isNone) = false := by cases e : (mx.isSome && hi.isNone) with
                | false => rfl
                | true => exact absurd e hb
              have hr := run_sliceBounds (P := P) (w := w) (s := false) olo ohi omx (bound_spec hm) (bound_spec hh) (bound_spec hl) hb'
              have le1 := (bound_spec hl).le (Nat.zero_le _)
              have hle : h1 ≤ m := by
                have b1 := bound_spec hh
                cases b1 with
                | none => cases hmx : mx with
                  | none => have b0 := bound_spec hm; rw [hmx] at b0; cases b0; omega
                  | some z => simp [hmx] at hb'
                | some _ h2 => split at h2
                               · exact h2
                               · rename_i hn; have b0 := bound_spec hm; cases hmx : mx with
                                 | none => rw [hmx] at b0; cases b0; exact h2
                                 | some z => simp [hmx] at hn
              simp only [Instr.sliceAt, Sem.run_bind, r_und hu, Result.andThen_ok, Instr.sureAddr, Sem.run_pure, hr, r_size hs]
              split at h
              · rename_i heq
                have := beq_yes heq
                cases h
                exact ⟨_, by rw [if_pos this], .slice hp (by omega)⟩
              · rename_i hne
                have : ¬ m = l := fun e => hne (by rw [e]; exact Nat.beq_refl l)
                cases h
                exact ⟨_, by rw [if_neg this, addr_add], .slice hp (by omega)⟩
          · cases h
        · cases h
      · cases h
    · cases h
  · -- a slice
    rename_i e hu
    split at h
    · rename_i es hs
      split at h
      · -- nil
        cases hx
        split at h
        · rename_i m hm
          split at h
          · rename_i h1 hh
            split at h
            · rename_i l hl
              split at h
              · cases h
              · rename_i hb
                have hb' : (mx.isSome && hi.isNone) = false := by cases e : (mx.isSome && hi.isNone) with
                | false => rfl
                | true => exact absurd e hb
                split at h
                · rename_i hm0
                  have := beq_yes hm0
                  subst this
                  cases h
                  have b1 := bound_spec hh
                  have hh0 : h1 = 0 := Nat.le_zero.1 (b1.le (Nat.le_refl _))
                  subst hh0
                  have hl0 : l = 0 := Nat.le_zero.1 ((bound_spec hl).le (Nat.le_refl _))
                  subst hl0
                  have hr := run_sliceBounds (P := P) (w := w) (s := true) olo ohi omx (bound_spec hm) (by simpa using b1) (bound_spec hl) hb'
                  exact ⟨_, by simp only [Instr.sliceAt, Instr.slice, Sem.run_bind, r_und hu, Result.andThen_ok, hr, r_size hs]; rfl, .nilslice⟩
                · cases h
            · cases h
          · cases h
        · cases h
      · -- empty
        split at h
        · cases h
        · cases hx with | eslice =>
          rename_i a c
          cases omx
          split at h
          · rename_i h1 hh
            split at h
            · rename_i l hl
              cases h
              have b1 := bound_spec hh
              have hh0 : h1 = 0 := Nat.le_zero.1 (b1.le (Nat.le_refl _))
              subst hh0
              have hl0 : l = 0 := Nat.le_zero.1 ((bound_spec hl).le (Nat.le_refl _))
              subst hl0
              have hr := run_sliceBounds (P := P) (w := w) (s := true) (len := 0) (cap := c) olo ohi (.none (ρ := ρ)) .none (by simpa using b1.widen (Nat.zero_le c)) (bound_spec hl) rfl
              refine ⟨.slice (some (if c = 0 then a else a.add (0 * es))) 0 (c - 0), ?_, .eslice⟩
              simp only [Instr.sliceAt, Instr.slice, Sem.run_bind, r_und hu, Result.andThen_ok, hr, r_size hs]
              split <;> rfl
            · cases h
          · cases h
      · -- a capacity that is known
        rename_i b off len c
        cases hx with | slice hp hlc =>
        split at h
        · rename_i m hm
          split at h
          · rename_i h1 hh
            split at h
            · rename_i l hl
              split at h
              · cases h
              · rename_i hb
                have hb' : (mx.isSome && hi.isNone) = false := by cases e : (mx.isSome && hi.isNone) with
                | false => rfl
                | true => exact absurd e hb
                have hr := run_sliceBounds (P := P) (w := w) (s := true) olo ohi omx (bound_spec hm) (bound_spec hh) (bound_spec hl) hb'
                have le1 := (bound_spec hl).le (Nat.zero_le _)
                have hle : h1 ≤ m := by
                  have b1 := bound_spec hh
                  cases b1 with
                  | none => cases hmx : mx with
                    | none => have b0 := bound_spec hm; rw [hmx] at b0; cases b0; omega
                    | some z => simp [hmx] at hb'
                  | some _ h2 => split at h2
                                 · exact h2
                                 · rename_i hn; have b0 := bound_spec hm; cases hmx : mx with
                                   | none => rw [hmx] at b0; cases b0; exact h2
                                   | some z => simp [hmx] at hn
                simp only [Instr.sliceAt, Instr.slice, Sem.run_bind, r_und hu, Result.andThen_ok, hr, r_size hs]
                split at h
                · rename_i heq
                  have := beq_yes heq
                  cases h
                  exact ⟨_, by rw [if_pos this]; rfl, .slice hp (by omega)⟩
                · rename_i hne
                  have : ¬ m = l := fun e => hne (by rw [e]; exact Nat.beq_refl l)
                  cases h
                  exact ⟨_, by rw [if_neg this, Option.map_some, addr_add]; rfl, .slice hp (by omega)⟩
            · cases h
          · cases h
        · cases h
      · -- a capacity that is not known
        rename_i b off len sk
        cases hx with | uslice hp hlc =>
        rename_i blk κ
        split at h
        · -- a third bound
          rename_i mv
          split at h
          · rename_i m hm
            split at h
            · cases h
            · rename_i hv
              split at h
              · rename_i h1 hh
                split at h
                · rename_i l hl
                  have bm := bound_spec hm
                  have ml : m ≤ len := bm.le (Nat.le_refl _)
                  have bm' : Bd (some mv) (κ - sk) (κ - sk) m := by
                    cases bm with | some h0 h1 => exact .some h0 (by omega)
                  have bh := bound_spec hh
                  have hle : h1 ≤ m := bh.le (Nat.le_refl _)
                  have bh' : Bd (some hv) (if (some mv).isSome then m else κ - sk) len h1 := by
                    cases bh with | some h0 h2 => exact .some h0 (by simpa using h2)
                  have hr := run_sliceBounds (P := P) (w := w) (s := true) olo ohi omx bm' bh' (bound_spec hl) rfl
                  have le1 := (bound_spec hl).le (Nat.zero_le _)
                  simp only [Instr.sliceAt, Instr.slice, Sem.run_bind, r_und hu, Result.andThen_ok, hr, r_size hs]
                  split at h
                  · rename_i heq
                    have := beq_yes heq
                    cases h
                    exact ⟨_, by rw [if_pos this]; rfl, .slice hp (by omega)⟩
                  · rename_i hne
                    have : ¬ m = l := fun e => hne (by rw [e]; exact Nat.beq_refl l)
                    cases h
                    exact ⟨_, by rw [if_neg this, Option.map_some, addr_add]; rfl, .slice hp (by omega)⟩
                · cases h
              · cases h
          · cases h
        · cases omx
          split at h
          · rename_i h1 hh
            split at h
            · rename_i l hl
              have bh := bound_spec hh
              have hle : h1 ≤ len := bh.le (Nat.le_refl _)
              have hr := run_sliceBounds (P := P) (w := w) (s := true) (len := len) (cap := κ - sk) olo ohi (.none (ρ := ρ)) .none (by simpa using bh.widen (by omega)) (bound_spec hl) rfl
              have le1 := (bound_spec hl).le (Nat.zero_le _)
              simp only [Instr.sliceAt, Instr.slice, Sem.run_bind, r_und hu, Result.andThen_ok, hr, r_size hs]
              split at h
              · rename_i h0
                have := beq_yes h0
                subst this
                cases h
                by_cases hk : κ - sk = 0
                · exact ⟨_, by rw [if_pos hk]; rfl, .uslice hp (by omega)⟩
                · exact ⟨_, by rw [if_neg hk, Option.map_some, addr_add, Nat.zero_mul, Nat.add_zero]; rfl, .uslice hp (by omega)⟩
              · split at h
                · rename_i hlt
                  have hlt' := Nat.le_of_ble_eq_true hlt
                  cases h
                  have : ¬ κ - sk = l := by omega
                  have e : κ - sk - l = κ - (sk + l) := by omega
                  exact ⟨_, by rw [if_neg this, Option.map_some, addr_add, e]; rfl, .uslice hp (by omega)⟩
                · split at h
                  · rename_i heq
                    have := beq_yes heq
                    subst this
                    cases h
                    refine ⟨.slice (some (if κ - sk = h1 then ⟨blk, off, none⟩ else (⟨blk, off, none⟩ : Addr).add (h1 * es))) 0 (κ - sk - h1), ?_, .eslice⟩
                    rw [Nat.sub_self]
                    split <;> rfl
                  · cases h
            · cases h
          · cases h
      · cases h
    · cases h
  · cases h

end
end Go.Hx

/-! ## Operations that do not look at memory: places, fields, what is put together; then all of them in one theorem. -/
set_option linter.unusedSimpArgs false
set_option linter.unusedVariables false
namespace Go.Hx
variable [Inp]
set_option linter.unusedSectionVars false

section
variable {ρ : Ren} {P : Program} {w : World}

theorem indexAddrA_sound {t : TypeId} {x i r : AV} {vx vi : Value} (h : indexAddrA P t x i = some r) (hx : VR ρ x vx) (hi : VR ρ i vi) :
    ∃ v, (Instr.indexAt t vx vi).run P w = .ok v w ∧ VR ρ r v := by
  unfold indexAddrA at h
  split at h
  · cases hi
    rename_i k i
    split at h
    · rename_i h0
      split at h
      · rename_i n e hu
        split at h
        · rename_i es b off hs
          cases hx with | ptr hp =>
          split at h
          · rename_i hl
            have hl' := Nat.le_of_ble_eq_true hl
            cases h
            have : i < (n : Int) := by omega
            refine ⟨_, ?_, .ptr hp⟩
            simp [Instr.indexAt, asIntOf, r_und hu, Instr.sureAddr, h0, this, r_size hs, addr_add]
          · cases h
        · cases h
      · rename_i e hu
        split at h
        · rename_i es b off len kn c hs
          split at h
          · rename_i hl
            have hl' := Nat.le_of_ble_eq_true hl
            cases h
            have : i < (len : Int) := by omega
            cases hx with
            | slice hp _ =>
              refine ⟨_, ?_, .ptr hp⟩
              simp [Instr.indexAt, asIntOf, r_und hu, h0, this, r_size hs, addr_add]
            | uslice hp _ =>
              refine ⟨_, ?_, .ptr hp⟩
              simp [Instr.indexAt, asIntOf, r_und hu, h0, this, r_size hs, addr_add]
          · cases h
        · cases h
      · cases h
    · cases h
  · cases h

theorem VRs.drop_get {l : List AV} {vs : List Value} (h : VRs ρ l vs) {n : Nat} {a : AV} {m : List AV} (hd : dropN n l = some (a :: m)) : ∃ v, vs[n]? = some v ∧ VR ρ a v := by
  obtain ⟨e, _⟩ := dropN_eq n l _ hd
  refine h.get ?_
  have : (l.drop n)[0]? = some a := by rw [← e]; rfl
  simpa using this

theorem partA_sound {t : TypeId} {l : List AV} {cs : Array Value} {off : Nat} {r : AV} (h : partA P t l off = some r) (hl : VRs ρ l cs.toList) :
    ∃ v, (part t cs off).run P w = .ok v w ∧ VR ρ r v := by
  unfold partA at h
  split at h
  · rename_i ha
    split at h
    · rename_i n hs
      split at h
      · rename_i r1 hd
        split at h
        · rename_i l2 ht
          cases h
          obtain ⟨e1, _⟩ := dropN_eq _ _ _ hd
          obtain ⟨e2, _⟩ := takeN_eq _ _ _ ht
          refine ⟨.agg (cs.extract off (off + n)), by simp [part, r_isAgg ha, r_size hs], .agg ?_⟩
          have := (hl.drop off).take n
          rw [← e1, ← e2] at this
          simpa [Array.toList_extract, List.extract_eq_take_drop] using this
        · cases h
      · cases h
    · cases h
  · rename_i ha
    split at h
    · rename_i v m hd
      cases h
      obtain ⟨x, hx, hv⟩ := hl.drop_get hd
      refine ⟨x, ?_, hv⟩
      have : cs[off]? = some x := by simpa using hx
      simp [part, r_isAgg ha, this]
    · cases h
  · cases h

theorem indexA_sound {t : TypeId} {x i r : AV} {vx vi : Value} (h : indexA P t x i = some r) (hx : VR ρ x vx) (hi : VR ρ i vi) :
    ∃ v, (Instr.index t vx vi).run P w = .ok v w ∧ VR ρ r v := by
  unfold indexA at h
  split at h
  · cases hi
    rename_i k i
    split at h
    · rename_i h0
      split at h
      · rename_i n e cs hu
        cases hx with | agg hx =>
        split at h
        · rename_i hl
          have hl' := Nat.le_of_ble_eq_true hl
          have : i < (n : Int) := by omega
          split at h
          · rename_i es hs
            obtain ⟨v, hv, hr⟩ := partA_sound (w := w) h hx
            exact ⟨v, by simp [Instr.index, asIntOf, r_und hu, h0, this, r_size hs, hv], hr⟩
          · cases h
        · cases h
      · rename_i s hu
        cases hx
        split at h
        · rename_i b m hd
          cases h
          obtain ⟨e, _⟩ := dropN_eq _ _ _ hd
          have hb : s[i.toNat]? = some b := by
            have : (s.drop i.toNat)[0]? = some b := by rw [← e]; rfl
            simpa using this
          have hb2 : (⟨s.toArray⟩ : ByteArray)[i.toNat]? = some b := by
            have hlt : i.toNat < s.length := (List.getElem?_eq_some_iff.1 hb).1
            have hlt2 : i.toNat < (⟨s.toArray⟩ : ByteArray).size := by simpa [ByteArray.size] using hlt
            rw [show (⟨s.toArray⟩ : ByteArray)[i.toNat]? = some ((⟨s.toArray⟩ : ByteArray)[i.toNat]'hlt2) from getElem?_pos (⟨s.toArray⟩ : ByteArray) i.toNat hlt2]
            congr 1
            have := (List.getElem?_eq_some_iff.1 hb).2
            show (s.toArray)[i.toNat] = b
            simpa using this
          refine ⟨.int .u8 b.toNat, ?_, .int _ _⟩
          simp [Instr.index, asIntOf, r_und hu, h0, hb2]
        · cases h
      · cases h
    · cases h
  · cases h

theorem fieldAddrA_sound {t : TypeId} {x r : AV} {vx : Value} {f : Nat} (h : fieldAddrA P t x f = some r) (hx : VR ρ x vx) :
    ∃ v, (Instr.fieldAt t vx f).run P w = .ok v w ∧ VR ρ r v := by
  unfold fieldAddrA at h
  split at h
  · rename_i fs b off hu
    cases hx with | ptr hp =>
    split at h
    · rename_i fl hf
      split at h
      · rename_i n hs
        split at h
        · cases h
        · rename_i hn
          cases h
          have hne : ¬ n = 0 := fun e => hn (by rw [e]; rfl)
          refine ⟨_, ?_, .ptr hp⟩
          simp [Instr.fieldAt, r_und hu, hf, Instr.sureAddr, fieldPlace, r_size hs, hne, addr_add]
      · cases h
    · cases h
  · cases h

theorem fieldA_sound {t : TypeId} {x r : AV} {vx : Value} {f : Nat} (h : fieldA P t x f = some r) (hx : VR ρ x vx) :
    ∃ v, (Instr.field t vx f).run P w = .ok v w ∧ VR ρ r v := by
  unfold fieldA at h
  split at h
  · rename_i fs cs hu
    cases hx with | agg hx =>
    split at h
    · rename_i fl hf
      obtain ⟨v, hv, hr⟩ := partA_sound (w := w) h hx
      exact ⟨v, by simp [Instr.field, r_und hu, hf, asAgg, hv], hr⟩
    · cases h
  · cases h

/-! ### putting together -/
theorem splice_VRs {l vs m : List AV} {n : Nat} {cs us : List Value} (h : splice l n vs = some m) (hl : VRs ρ l cs) (hv : VRs ρ vs us) :
    VRs ρ m (cs.take n ++ us ++ cs.drop (n + us.length)) := by
  obtain ⟨e, _⟩ := splice_eq l n vs m h
  rw [e, hv.length]
  exact ((hl.take n).append hv).append (hl.drop _)

theorem foldl_set (off : Nat) : ∀ (us : List Value) (k : Nat) (cs : Array Value), off + k + us.length ≤ cs.size →
    ((us.zipIdx k).foldl (fun cs (c, j) => cs.setIfInBounds (off + j) c) cs).toList = cs.toList.take (off + k) ++ us ++ cs.toList.drop (off + k + us.length)
  | [], k, cs, h => by simp
  | u :: us, k, cs, h => by
    simp only [List.zipIdx_cons, List.foldl_cons]
    rw [foldl_set off us (k + 1) (cs.setIfInBounds (off + k) u) (by simp at h ⊢; omega)]
    have e := list_seg_step cs.toList (off + k) u us (by simp at h ⊢; omega)
    simpa [Array.toList_setIfInBounds, Nat.add_assoc] using e

theorem fill_sound {place place' : Nat → Option (Nat × Nat)} (hpl : ∀ i, place i = place' i) : ∀ {parts : List (Nat × AV)} {vparts : List (Nat × Value)} {cells m : List AV} {cs : Array Value},
    fillA place cells parts = some m → PVR ρ parts vparts → (∀ p ∈ parts, p.2.one = true ∨ ∃ l, p.2 = .agg l) → VRs ρ cells cs.toList →
    ∃ out, Instr.fill place' cs vparts = some out ∧ VRs ρ m out.toList
  | [], _, cells, m, cs, h, .nil, _, hc => by cases h; exact ⟨cs, rfl, hc⟩
  | (i, a) :: rest, _, cells, m, cs, h, .cons (v := v) (vs := vs) hv hs, hone, hc => by
    simp only [fillA] at h
    split at h
    · cases h
    · rename_i off size hp
      split at h
      · rename_i hsz
        split at h
        · rename_i m1 hm
          have hcv := hv.cells (hone (i, a) (by simp))
          obtain ⟨e, hle⟩ := splice_eq _ _ _ _ hm
          have hlen : v.cells.size = a.cells.length := by have := hcv.length; simpa using this
          have hcs : cs.size = cells.length := by have := hc.length; simpa using this
          have hfit : off + v.cells.size ≤ cs.size := by rw [hlen, hcs]; exact hle
          have hset : (v.cells.zipIdx.foldl (fun cs (c, j) => cs.setIfInBounds (off + j) c) cs).toList = cs.toList.take off ++ v.cells.toList ++ cs.toList.drop (off + v.cells.toList.length) := by
            have := foldl_set off v.cells.toList 0 cs (by simpa using hfit)
            rw [← Array.foldl_toList, Array.toList_zipIdx]
            simpa using this
          have hc' : VRs ρ m1 (v.cells.zipIdx.foldl (fun cs (c, j) => cs.setIfInBounds (off + j) c) cs).toList := by
            rw [hset]; exact splice_VRs hm hc hcv
          obtain ⟨out, ho, hr⟩ := fill_sound hpl h hs (fun p hp => hone p (by simp [hp])) hc'
          refine ⟨out, ?_, hr⟩
          have h1 : ¬ v.cells.size ≠ size := by rw [hlen, beq_yes hsz]; simp
          have h2 : ¬ off + v.cells.size > cs.size := by omega
          have hp' : place' i = some (off, size) := by rw [← hpl]; exact hp
          unfold Instr.fill
          simp only [hp']
          rw [if_neg (by simp only [decide_eq_true_eq, Bool.or_eq_true]; rintro (h | h); exact h1 h; exact h2 h)]
          exact ho
        · cases h
      · cases h

theorem placesA_sound : ∀ {fs : List Field} {ps : List (Nat × Nat)}, placesA P fs = some ps →
    (fs.mapM (fun f => do pure (f.offset, ← sizeOf f.type) : Field → Sem (Nat × Nat))).run P w = .ok ps w
  | [], ps, h => by cases h; simp
  | f :: fs, ps, h => by
    simp only [placesA] at h
    split at h
    · rename_i n hs
      split at h
      · rename_i m hm
        cases h
        have ih := placesA_sound (fs := fs) hm
        simp only [List.mapM_cons, Sem.run_bind, r_size hs, Result.andThen_ok, Sem.run_pure, ih]
      · cases h
    · cases h

theorem partsOK_spec : ∀ {l : List (Nat × AV)}, partsOK l = true → ∀ p ∈ l, p.2.one = true ∨ ∃ l, p.2 = .agg l
  | [], _, _, hp => by cases hp
  | (i, a) :: l, h, p, hp => by
    cases hp with
    | head =>
      cases a <;> first
        | exact .inl rfl
        | exact .inr ⟨_, rfl⟩
        | (simp [partsOK] at h)
    | tail _ hm =>
      refine partsOK_spec (l := l) ?_ p hm
      cases a <;> first | exact h | (simp [partsOK] at h)

theorem shapeOK_spec {z : AV} (h : shapeOK z = true) : z.one = true ∨ ∃ l, z = .agg l := by
  cases z <;> first | exact .inl rfl | exact .inr ⟨_, rfl⟩ | (simp [shapeOK] at h)

theorem buildA_sound {t : TypeId} {parts : List (Nat × AV)} {vparts : List (Nat × Value)} {r : AV} (h : buildA P t parts = some r) (hp : PVR ρ parts vparts) :
    ∃ v, (Instr.build t vparts.toArray).run P w = .ok v w ∧ VR ρ r v := by
  unfold buildA at h
  split at h
  · rename_i z hz
    obtain ⟨i, zv, hi, hzv, hof⟩ := tzero_run hz
    split at h
    · rename_i hok
      simp only [Bool.and_eq_true] at hok
      have hc : VRs ρ z.cells zv.cells.toList := (ofV_sound hof).cells (shapeOK_spec hok.1)
      split at h
      · rename_i fs hu
        split at h
        · rename_i places hpl
          split at h
          · rename_i l hf
            cases h
            have hps := placesA_sound (w := w) hpl
            have hps2 : (fs.mapM (fun f => do pure (f.offset, ← sizeOf f.type) : Field → Sem (Nat × Nat))).run P w = .ok places.toArray w := by
              rw [Array.mapM_eq_mapM_toList]
              simp only [Sem.run_map, hps, Result.andThen_ok]
            obtain ⟨out, ho, hr⟩ := fill_sound (place' := fun i => places.toArray[i]?) (fun i => by simp) hf hp (partsOK_spec hok.2) hc
            refine ⟨.agg out, ?_, .agg hr⟩
            simp only [Instr.build, Sem.run_bind, r_zero hi hzv, Result.andThen_ok, r_und hu, hps2, ho, Sem.run_pure]
          · cases h
        · cases h
      · rename_i n e hu
        split at h
        · rename_i es hs
          split at h
          · rename_i l hf
            cases h
            obtain ⟨out, ho, hr⟩ := fill_sound (place' := fun i => some (i * es, es)) (fun i => rfl) hf hp (partsOK_spec hok.2) hc
            refine ⟨.agg out, ?_, .agg hr⟩
            simp only [Instr.build, Sem.run_bind, r_zero hi hzv, Result.andThen_ok, r_und hu, r_size hs, ho, Sem.run_pure]
          · cases h
        · cases h
      · cases h
    · cases h
  · cases h

/-! ### the rest -/
theorem minA_sound : ∀ {l : List AV} {x r : AV} {vx : Value} {vs : List Value}, minA x l = some r → VR ρ x vx → VRs ρ l vs →
    ∃ v, (vs.foldlM Builtin.min2 vx).run P w = .ok v w ∧ VR ρ r v
  | [], x, r, vx, _, h, hx, .nil => by
    have : r = x := by cases x <;> (simp [minA] at h; exact h.symm)
    subst this; exact ⟨vx, by simp, hx⟩
  | y :: l, x, r, vx, _, h, hx, .cons (v := vy) (vs := vs) hy hs => by
    cases x <;> (try (simp [minA] at h; done))
    cases y <;> (try (simp [minA] at h; done))
    rename_i j a k b
    simp only [minA] at h
    split at h
    · rename_i hk
      have := kindEq_eq hk
      subst this
      cases hx; cases hy
      obtain ⟨v, hv, hr⟩ := minA_sound (l := l) h (.int _ _) hs
      exact ⟨v, by simp [List.foldlM_cons, Builtin.min2, hv], hr⟩
    · cases h

theorem maxA_sound : ∀ {l : List AV} {x r : AV} {vx : Value} {vs : List Value}, maxA x l = some r → VR ρ x vx → VRs ρ l vs →
    ∃ v, (vs.foldlM Builtin.max2 vx).run P w = .ok v w ∧ VR ρ r v
  | [], x, r, vx, _, h, hx, .nil => by
    have : r = x := by cases x <;> (simp [maxA] at h; exact h.symm)
    subst this; exact ⟨vx, by simp, hx⟩
  | y :: l, x, r, vx, _, h, hx, .cons (v := vy) (vs := vs) hy hs => by
    cases x <;> (try (simp [maxA] at h; done))
    cases y <;> (try (simp [maxA] at h; done))
    rename_i j a k b
    simp only [maxA] at h
    split at h
    · rename_i hk
      have := kindEq_eq hk
      subst this
      cases hx; cases hy
      obtain ⟨v, hv, hr⟩ := maxA_sound (l := l) h (.int _ _) hs
      exact ⟨v, by simp [List.foldlM_cons, Builtin.max2, hv], hr⟩
    · cases h

theorem typeAssertA_sound {xt t : TypeId} {ok : Bool} {x r : AV} {vx : Value} (h : typeAssertA P x t ok = some r) (hx : VR ρ x vx) :
    ∃ v, (Instr.typeAssert vx xt t ok).run P w = .ok v w ∧ VR ρ r v := by
  unfold typeAssertA at h
  split at h
  · cases h
  · rename_i d hd hu
    cases hx
    split at h
    · rename_i hok
      split at h
      · rename_i z hz
        cases h
        obtain ⟨i, zv, hi, hzv, hof⟩ := tzero_run hz
        refine ⟨.tuple #[zv, .bool false], ?_, .tup (.cons (ofV_sound hof) (.cons (.bool _) .nil))⟩
        subst hok
        simp only [Instr.typeAssert, Sem.run_bind, r_und hu, Result.andThen_ok]
        cases d <;> first
          | (exfalso; exact hd _ rfl)
          | simp [r_zero hi hzv]
      · cases h
    · cases h
  · rename_i d dt v hd hu
    cases hx with | iface hv =>
    rename_i xv
    have hrun : ∀ (o : TypeDesc) , (∀ ms, o ≠ .interface ms) → True := fun _ _ => trivial
    split at h
    · rename_i he
      have := beq_yes he
      subst this
      cases h
      refine ⟨if ok then .tuple #[xv, .bool true] else xv, ?_, ?_⟩
      · simp only [Instr.typeAssert, Sem.run_bind, r_und hu, Result.andThen_ok]
        cases d <;> first
          | (exfalso; exact hd _ rfl)
          | simp
      · cases ok
        · exact hv
        · exact .tup (.cons hv (.cons (.bool _) .nil))
    · rename_i hne
      have hne' : ¬ dt = t := fun e => hne (by rw [e]; exact Nat.beq_refl _)
      split at h
      · rename_i hok
        split at h
        · rename_i z hz
          cases h
          obtain ⟨i, zv, hi, hzv, hof⟩ := tzero_run hz
          refine ⟨.tuple #[zv, .bool false], ?_, .tup (.cons (ofV_sound hof) (.cons (.bool _) .nil))⟩
          subst hok
          simp only [Instr.typeAssert, Sem.run_bind, r_und hu, Result.andThen_ok]
          cases d <;> first
            | (exfalso; exact hd _ rfl)
            | simp [r_zero hi hzv, hne']
        · cases h
      · cases h
  · cases h

theorem convertP_sound {src dst : TypeId} {x r : AV} {vx : Value} (h : convertP P src dst x = some r) (hx : VR ρ x vx) :
    ∃ v, (convert src dst vx).run P w = .ok v w ∧ VR ρ r v := by
  unfold convertP at h
  split at h
  · rename_i d k k' n hs hd
    cases h; cases hx
    exact ⟨.int k (k.wrap n), by simp only [convert, Sem.run_bind, r_und hs, r_und hd, Result.andThen_ok]; cases d <;> rfl, .int _ _⟩
  · rename_i d k k' lo hi hs hd
    cases h
    cases hx with | rng h1 h2 =>
    rename_i n
    exact ⟨.int k (k.wrap n), by simp only [convert, Sem.run_bind, r_und hs, r_und hd, Result.andThen_ok]; cases d <;> rfl, VR.top⟩
  · rename_i s hs hd
    cases h; cases hx
    exact ⟨_, by simp only [convert, Sem.run_bind, r_und hs, r_und hd, Result.andThen_ok]; rfl, .str _⟩
  · cases h

variable {E : Env}

theorem xpure_sound {tm : Tm} {n : Nat} {a : Act} {o : Oper} {v : AV} (h : xpure E tm o = some v) (ht : TR ρ tm n a.tmps) :
    ∃ x, (execOp a.eval o).run E.P w = .ok (.value x) w ∧ VR ρ v x := by
  obtain ⟨dst, op, ty, pos, after, guard⟩ := o
  have lift : ∀ {s : Sem Value}, (∃ x, s.run E.P w = .ok x w ∧ VR ρ v x) → ∃ x, (do pure (.value (← s)) : Sem Next).run E.P w = .ok (.value x) w ∧ VR ρ v x := by
    rintro s ⟨x, hx, hv⟩; exact ⟨x, by simp [hx], hv⟩
  unfold xpure at h
  split at h <;> (try (cases h; done)) <;> rename_i hop <;> simp only at hop <;> subst hop
  · exact ⟨_, rfl, evalA_sound ht h⟩
  · exact ⟨_, rfl, evalA_sound ht h⟩
  · rename_i c x y
    split at h
    · rename_i t hc
      have hc' := evalA_sound (ρ := ρ) ht hc
      generalize hcv : a.eval c = cv at hc'
      cases hc'
      split at h
      · rename_i htt; subst htt; exact ⟨_, by simp [execOp, hcv, asBool], evalA_sound ht h⟩
      · rename_i htf; exact ⟨_, by simp [execOp, hcv, asBool, htf], evalA_sound ht h⟩
    · cases h
  · rename_i x
    split at h
    · rename_i b off hx
      have hx' := evalA_sound (ρ := ρ) ht hx
      generalize hxv : a.eval x = xv at hx'
      cases h
      cases hx' with | ptr hp => exact ⟨_, by simp only [execOp, hxv]; rfl, .ptr hp⟩
    · rename_i f fa c hx
      have hx' := evalA_sound (ρ := ρ) ht hx
      generalize hxv : a.eval x = xv at hx'
      cases h
      cases hx' with | fn h1 h2 => exact ⟨_, by simp only [execOp, hxv]; rfl, .fn h1 h2⟩
    · rename_i l hx
      have hx' := evalA_sound (ρ := ρ) ht hx
      generalize hxv : a.eval x = xv at hx'
      cases h
      cases hx' with | yield h1 => exact ⟨_, by simp only [execOp, hxv]; rfl, .yield h1⟩
    · cases h
  · split at h
    · rename_i x y hx hy
      exact lift (binOpA_sound h (evalA_sound ht hx) (evalA_sound ht hy))
    · cases h
  · split at h
    · rename_i x hx
      have hx' := evalA_sound (ρ := ρ) ht hx
      refine lift (s := Op.unary _ _) ?_
      generalize a.eval _ = xv at hx'
      unfold unOpA at h
      split at h
      · cases h; cases hx'; exact ⟨_, by simp [Op.unary, Op.intArith], .int _ _⟩
      · cases h; cases hx'; exact ⟨_, by simp [Op.unary, Op.intArith]; rfl, VR.top⟩
      · cases hx'
        simp only [arith] at h
        cases h
        exact ⟨_, by simp only [Op.unary, Op.intBits]; rfl, .int _ _⟩
      · cases h; cases hx'; exact ⟨_, by simp only [Op.unary, Op.intBits]; rfl, VR.top⟩
      · cases h; cases hx'; exact ⟨_, by simp [Op.unary], .bool _⟩
      · cases h
    · cases h
  · split at h
    · rename_i n e b off len kn c hu hx
      have hx' := evalA_sound (ρ := ρ) ht hx
      refine lift (s := Instr.arrayAt _ _) ?_
      generalize a.eval _ = xv at hx'
      split at h
      · rename_i hl
        have hl' := Nat.le_of_ble_eq_true hl
        cases h
        have : ¬ len < n := by omega
        cases hx' with
        | slice hp _ => exact ⟨_, by simp [Instr.arrayAt, r_und hu, this], .ptr hp⟩
        | uslice hp _ => exact ⟨_, by simp [Instr.arrayAt, r_und hu, this], .ptr hp⟩
      · cases h
    · cases h
  · split at h
    · cases h
    · rename_i d hd hu
      split at h
      · rename_i x hx
        cases h
        refine lift (s := Instr.makeInterface _ _) ⟨_, ?_, .iface (evalA_sound ht hx)⟩
        simp only [Instr.makeInterface, Sem.run_bind, r_und hu, Result.andThen_ok]
        cases d <;> first | (exfalso; exact hd _ rfl) | rfl
      · cases h
    · cases h
  · split at h
    · split at h
      · rename_i fa ca h1 h2
        cases h
        refine lift (s := Instr.makeFunc _ _ _) ⟨_, rfl, .fn ?_ ?_⟩
        · have := evalL_sound (ρ := ρ) ht h1; simpa using this
        · have := evalL_sound (ρ := ρ) ht h2; simpa using this
      · cases h
    · cases h
  · split at h
    · rename_i x l hh m hx h1 h2 h3
      exact lift (sliceA_sound h (evalA_sound ht hx) (evalO_sound ht h1) (evalO_sound ht h2) (evalO_sound ht h3))
    · cases h
  · split at h
    · rename_i x hx; exact lift (fieldAddrA_sound h (evalA_sound ht hx))
    · cases h
  · split at h
    · rename_i x hx; exact lift (fieldA_sound h (evalA_sound ht hx))
    · cases h
  · split at h
    · rename_i x i hx hi; exact lift (indexAddrA_sound h (evalA_sound ht hx) (evalA_sound ht hi))
    · cases h
  · split at h
    · rename_i x i hx hi; exact lift (indexA_sound h (evalA_sound ht hx) (evalA_sound ht hi))
    · cases h
  · split at h
    · rename_i ps hps
      refine lift (s := Instr.build _ _) ?_
      obtain ⟨x, hx, hv⟩ := buildA_sound (w := w) h (evalP_sound (ρ := ρ) ht hps)
      refine ⟨x, ?_, hv⟩
      rw [← hx]
      congr 2
      apply Array.ext'
      simp
    · cases h
  · split at h
    · rename_i x hx; exact lift (convertP_sound h (evalA_sound ht hx))
    · cases h
  · split at h
    · rename_i x hx; exact lift (typeAssertA_sound h (evalA_sound ht hx))
    · cases h
  · rename_i x i
    split at h
    · rename_i vs hx
      have hx' := evalA_sound (ρ := ρ) ht hx
      refine lift (s := Instr.extract _ _) ?_
      generalize a.eval _ = xv at hx'
      cases hx' with | tup hl =>
      obtain ⟨y, hy, hv⟩ := hl.get h
      refine ⟨y, ?_, hv⟩
      simp only [Instr.extract]
      rename_i cs
      have h2 : cs[i]? = some y := by simpa using hy
      rw [h2]; rfl
    · cases h
  · rename_i args at_
    split at h
    · rename_i x l hx
      have hx' := evalL_sound (ρ := ρ) ht hx
      generalize hgen : args.toList.map a.eval = vs at hx'
      cases hx' with | cons h1 h2 =>
      obtain ⟨y, hy, hv⟩ := minA_sound (P := E.P) (w := w) h h1 h2
      refine ⟨y, ?_, hv⟩
      have he := (Array.toList_map (f := a.eval) (xs := args)).trans hgen
      simp only [execOp, resolve, Sem.run_bind, Sem.run_pure, Result.andThen_ok, invoke, builtin, Builtin.min_, he, hy]
    · cases h
  · rename_i args at_
    split at h
    · rename_i x l hx
      have hx' := evalL_sound (ρ := ρ) ht hx
      generalize hgen : args.toList.map a.eval = vs at hx'
      cases hx' with | cons h1 h2 =>
      obtain ⟨y, hy, hv⟩ := maxA_sound (P := E.P) (w := w) h h1 h2
      refine ⟨y, ?_, hv⟩
      have he := (Array.toList_map (f := a.eval) (xs := args)).trans hgen
      simp only [execOp, resolve, Sem.run_bind, Sem.run_pure, Result.andThen_ok, invoke, builtin, Builtin.max_, he, hy]
    · cases h

end
end Go.Hx
