/- The sum of a disk's files' lengths: the walk, and what the executor may take for a call. -/
import Derived.Test.YtdjdiibloohddaaGreatDoorProg
import Derived.Shelf.Abstract
import Derived.Shelf.RegionOpen
import Derived.WalkKit
import Derived.OwnWalkIn
import Derived.TacticsInMore
import Derived.LoopNIn
import Derived.LoopIn
import Derived.Maps.RangeRun
import Derived.Maps.RangeWalk
import Derived.Test.YtdjdiibloohddaaGreatDoorHxE
set_option linter.unusedVariables false
namespace Go.Proofs
open Go.RowKit Go.Shelf

/-- what lay below lies as it lay -/
structure Ext0 (w w' : World) : Prop where
  os : w'.os = w.os
  tape : w'.tape = w.tape
  out : w'.output = w.output
  size : w.heap.size ≤ w'.heap.size
  frame : ∀ b, b < w.heap.size → w'.heap[b]? = w.heap[b]?

def lenOf (e : MapEntry) : Int := match e.val with
  | .slice _ n _ => n
  | _ => 0
def lens : List MapEntry → Int
  | [] => 0
  | e :: l => lenOf e + lens l

theorem lens_nonneg : ∀ l : List MapEntry, 0 ≤ lens l
  | [] => Int.le_refl _
  | e :: l => by
    have := lens_nonneg l
    have h : 0 ≤ lenOf e := by unfold lenOf; split <;> omega
    unfold lens; omega

theorem leftOf_toList (es : Array MapEntry) (seen : Array Nat) : (leftOf es seen).toList = es.toList.filter (fun e => !seen.contains e.born) := by
  unfold leftOf; exact Array.toList_filter

/-- what is left when one more has come -/
theorem lens_push : ∀ (l : List MapEntry) (seen : Array Nat) (e : MapEntry), (l.map (·.born)).Nodup → e ∈ l.filter (fun e => !seen.contains e.born) →
    lenOf e + lens (l.filter (fun x => !(seen.push e.born).contains x.born)) = lens (l.filter (fun x => !seen.contains x.born)) ∧
    (l.filter (fun x => !(seen.push e.born).contains x.born)).length + 1 = (l.filter (fun x => !seen.contains x.born)).length
  | [], seen, e, _, h => by simp at h
  | x :: l, seen, e, nd, h => by
    simp only [List.map_cons, List.nodup_cons] at nd
    have hpush : ∀ y : MapEntry, (seen.push e.born).contains y.born = (seen.contains y.born || y.born == e.born) := by
      intro y
      rw [Bool.eq_iff_iff]
      simp [Array.mem_push]
    by_cases hx : x = e
    · subst hx
      have hns : seen.contains x.born = false := by
        have := (List.mem_filter.1 h).2
        simpa using this
      have same : l.filter (fun y => !(seen.push x.born).contains y.born) = l.filter (fun y => !seen.contains y.born) := by
        apply List.filter_congr
        intro y hy
        have : ¬ y.born = x.born := fun e => nd.1 (by rw [← e]; exact List.mem_map_of_mem hy)
        rw [hpush]
        simp [this]
      have h1 : (seen.push x.born).contains x.born = true := by rw [hpush]; simp
      simp only [List.filter_cons, h1, hns, Bool.not_true, Bool.not_false, Bool.false_eq_true, if_false, if_true, same, lens, List.length_cons]
      exact ⟨trivial, trivial⟩
    · have hm : e ∈ l.filter (fun e => !seen.contains e.born) := by
        rw [List.filter_cons] at h
        split at h
        · rcases List.mem_cons.1 h with h | h
          · exact absurd h.symm hx
          · exact h
        · exact h
      obtain ⟨i1, i2⟩ := lens_push l seen e nd.2 hm
      have hb : ¬ x.born = e.born := fun eq => nd.1 (by rw [eq]; exact List.mem_map_of_mem (List.mem_filter.1 hm).1)
      have h1 : (seen.push e.born).contains x.born = seen.contains x.born := by rw [hpush]; simp [hb]
      simp only [List.filter_cons, h1]
      split
      · simp only [lens, List.length_cons]
        constructor <;> omega
      · exact ⟨i1, i2⟩

set_option maxRecDepth 100000 in
set_option maxHeartbeats 2000000 in
theorem Tryz.used_in (w : World) (b off m : Nat) (es : Array MapEntry) (clock : Nat) (total : Int) (hc : w.cell? ⟨b, off + 1, none⟩ = some (.map (some m))) (hm : w.heap[m]? = some (.map es clock))
    (hold : ∀ x ∈ es.toList, x.born < clock) (hnd : (es.toList.map (·.born)).Nodup) (hsl : ∀ x ∈ es.toList, ∃ a n c, x.val = .slice a n c) (htot : lens es.toList = total) (hlt : total < 9223372036854775808) :
    CallsIn Fence.wide 0 Tryz.prog 280 #[.pointer (some ⟨b, off, none⟩)] w fun e w' => e = .returned (.int .i64 total) ∧ Ext0 w w' := by
  refine callsIn_of_wp Tryz.func280 rfl trivial ?_ rfl
  simp only [Tryz.ntmps280, List.size_toArray, List.length_cons, List.length_nil, Nat.reduceAdd, Nat.reduceSub, Array.replicate_succ, Array.replicate_zero, List.push_toArray, List.append_toArray, List.nil_append, List.cons_append]
  have hrm := run_range_map (P := Tryz.prog) w 129 9 45 m es clock Tryz.underlying129 hm
  gi_wp2
  gi_loopw [3] (fun s wr => ∃ (acc : Int) (seen : Array Nat) (c0 : Nat), s = .int .i64 acc ∧ 0 ≤ acc ∧ Ext0 w wr ∧ wr.heap[w.heap.size]? = some (.mapIter (some m) clock seen c0) ∧ clock ≤ c0 ∧ acc + lens (leftOf es seen).toList = total)
    (fun _ wr => match wr.heap[w.heap.size]? with | some (.mapIter _ _ seen _) => (leftOf es seen).size | _ => 0)
  case atStart =>
    refine ⟨0, #[], clock, rfl, Int.le_refl _, ⟨rfl, rfl, rfl, by simp, fun b hb => Below.heap_alloc w _ b hb⟩, World.alloc_heap_new w _, Nat.le_refl _, ?_⟩
    rw [leftOf_toList]
    have : es.toList.filter (fun e => !(#[] : Array Nat).contains e.born) = es.toList := List.filter_eq_self.2 (fun a _ => by simp)
    rw [this, Int.zero_add]
    exact htot
  case round =>
    obtain ⟨acc, seen, c0, rfl, hacc, hx, hr, hsc, hsum⟩ := hrel
    have hm2 : wr.heap[m]? = some (.map es clock) := by rw [hx.frame m (Array.getElem?_eq_some_iff.1 hm).1]; exact hm
    rcases run_next_at (P := Tryz.prog) wr 0 w.heap.size m clock c0 seen es clock hr hm2 hold hsc with ⟨h0, hnx⟩ | ⟨e, he, w1, hw1, hnx⟩
    · gi_wp2
      refine bodyPost_ret (results_tmp rfl _ _ _) rfl ⟨?_, hx⟩
      have : (leftOf es seen).toList = [] := by
        have := Array.eq_empty_of_size_eq_zero h0
        rw [this]
      rw [this] at hsum
      have : acc = total := by simpa [lens] using hsum
      rw [this]; rfl
    · rw [leftOf_toList] at he hsum
      have hem : e ∈ es.toList := (List.mem_filter.1 he).1
      obtain ⟨sa, sn, sc, hval⟩ := hsl e hem
      obtain ⟨p1, p2⟩ := lens_push es.toList seen e hnd he
      have hlt1 : w.heap.size < wr.heap.size := (Array.getElem?_eq_some_iff.1 hr).1
      have hmne : m ≠ w.heap.size := fun eq => by have := (Array.getElem?_eq_some_iff.1 hm).1; omega
      generalize hw2 : ChangeMaps.setBlock w1 w.heap.size (.mapIter (some m) clock (seen.push e.born) clock) = w2 at hnx
      have hh1 : w1.heap = wr.heap := by rcases hw1 with rfl | rfl <;> rfl
      have hh2 : w2.heap = wr.heap.setIfInBounds w.heap.size (.mapIter (some m) clock (seen.push e.born) clock) := by subst hw2; simp only [ChangeMaps.setBlock, hh1]
      have hr2 : w2.heap[w.heap.size]? = some (.mapIter (some m) clock (seen.push e.born) clock) := by
        rw [hh2, Array.getElem?_setIfInBounds_self_of_lt hlt1]
      have hoth : ∀ b, b ≠ w.heap.size → w2.heap[b]? = wr.heap[b]? := fun b hb => by rw [hh2, Array.getElem?_setIfInBounds_ne (Ne.symm hb)]
      have hm3 : w2.heap[m]? = some (.map es clock) := by rw [hoth m hmne]; exact hm2
      have hx2 : Ext0 w w2 := by
        refine ⟨?_, ?_, ?_, by rw [hh2]; simp; exact hx.size, fun b hb => by rw [hoth b (by omega)]; exact hx.frame b hb⟩
        · subst hw2; rcases hw1 with rfl | rfl <;> exact hx.os
        · subst hw2; rcases hw1 with rfl | rfl <;> exact hx.tape
        · subst hw2; rcases hw1 with rfl | rfl <;> exact hx.out
      have hen := run_entry_at (P := Tryz.prog) w2 w.heap.size m clock seen es clock e hr2 hm3 hem hnd
      have hlen : lenOf e = sn := by unfold lenOf; rw [hval]
      have hnn := lens_nonneg (es.toList.filter (fun x => !(seen.push e.born).contains x.born))
      rw [hval] at hnx hen
      gi_wp2
      case roundEnd =>
        have hwr : wrap64 (acc + (sn : Int)) = acc + sn := by unfold wrap64; omega
        refine ⟨⟨acc + sn, seen.push e.born, clock, by first | rfl | rw [hwr], by omega, hx2, hr2, Nat.le_refl _, ?_⟩, ?_⟩
        · rw [leftOf_toList]; omega
        · rw [hr2, hr]
          simp only []
          rw [← Array.length_toList, ← Array.length_toList, leftOf_toList, leftOf_toList]
          omega

end Go.Proofs

namespace Go.Hx
variable [Inp]
set_option linter.unusedSectionVars false
open Go.Proofs Go.RowKit

def sumL : List (AV × AV × Nat) → Option Nat
  | [] => some 0
  | (_, .slice _ _ n _ _, _) :: l => match sumL l with
    | some m => some (m + n)
    | none => none
  | (_, .nilslice, _) :: l => sumL l
  | (_, .eslice, _) :: l => sumL l
  | _ => none

/-- what a call of Used comes to -/
def usedA (args : List AV) (h : AH) : Option (AV × AH) := match args with
  | [.ptr b off] => match h.get b with
    | some (.cells l _) => match dropN (off + 1) l with
      | some (.map m :: _) => match h.get m with
        | some (.map es clock) => if birthsOK clock es [] then (match sumL es with
          | some n => if Nat.ble n 4611686018427387904 then some (.int .i64 n, h) else none
          | none => none) else none
        | _ => none
      | _ => none
    | _ => none
  | _ => none

theorem sumL_sound {ρ : Ren} : ∀ {l : List (AV × AV × Nat)} {es : List MapEntry} {n : Nat}, sumL l = some n → EVR ρ l es → lens es = n ∧ ∀ x ∈ es, ∃ a n c, x.val = .slice a n c
  | [], _, n, h, .nil => by simp only [sumL] at h; cases h; exact ⟨rfl, by simp⟩
  | (k, v, b) :: l, _, n, h, .cons (es := es) hk hv hs => by
    unfold sumL at h
    split at h
    · rename_i he; cases he
    · rename_i b1 off len kn c b2 l' he
      cases he
      split at h
      · rename_i m hm
        cases h
        obtain ⟨i1, i2⟩ := sumL_sound hm hs
        cases hv with
        | slice h1 h2 =>
          refine ⟨?_, ?_⟩
          · show lenOf _ + lens es = _
            rw [i1]
            show (len : Int) + (m : Int) = ((m + len : Nat) : Int)
            omega
          · intro x hx
            rcases List.mem_cons.1 hx with rfl | hx
            · exact ⟨_, _, _, rfl⟩
            · exact i2 x hx
        | uslice h1 h2 =>
          refine ⟨?_, ?_⟩
          · show lenOf _ + lens es = _
            rw [i1]
            show (len : Int) + (m : Int) = ((m + len : Nat) : Int)
            omega
          · intro x hx
            rcases List.mem_cons.1 hx with rfl | hx
            · exact ⟨_, _, _, rfl⟩
            · exact i2 x hx
      · cases h
    · rename_i b2 l' he
      cases he
      obtain ⟨i1, i2⟩ := sumL_sound h hs
      cases hv
      refine ⟨?_, ?_⟩
      · show lenOf _ + lens es = _
        rw [i1]
        show ((0 : Nat) : Int) + (n : Int) = (n : Int)
        omega
      · intro x hx
        rcases List.mem_cons.1 hx with rfl | hx
        · exact ⟨_, _, _, rfl⟩
        · exact i2 x hx
    · rename_i b2 l' he
      cases he
      obtain ⟨i1, i2⟩ := sumL_sound h hs
      cases hv
      refine ⟨?_, ?_⟩
      · show lenOf _ + lens es = _
        rw [i1]
        show ((0 : Nat) : Int) + (n : Int) = (n : Int)
        omega
      · intro x hx
        rcases List.mem_cons.1 hx with rfl | hx
        · exact ⟨_, _, _, rfl⟩
        · exact i2 x hx
    · cases h

theorem used_ok {args : List AV} {h h' : AH} {v : AV} (hx : usedA args h = some (v, h')) : h.next ≤ h'.next ∧ SumOK Tryz.prog 280 args h v h' := by
  unfold usedA at hx
  split at hx
  · rename_i b off
    split at hx
    · rename_i l es0 hb
      split at hx
      · rename_i m rest hd
        split at hx
        · rename_i es clock hm
          split at hx
          · rename_i hc
            split at hx
            · rename_i n hn
              split at hx
              · rename_i hle
                cases hx
                refine ⟨Nat.le_refl _, ?_⟩
                intro ρ w vargs hr hf hv
                obtain ⟨b2, κ2, o2, e1, e2, e3⟩ := hr.blk b _ hb
                obtain ⟨bm, κm, om, f1, f2, f3⟩ := hr.blk m _ hm
                cases f3 with | map hev =>
                rename_i a
                have hva : vargs = #[.pointer (some ⟨b2, off, none⟩)] := by
                  generalize hus : vargs.toList = us at hv
                  cases hv with | cons h1 h2 =>
                  cases h2
                  cases h1 with | ptr hp =>
                  rw [e1] at hp; cases hp
                  exact Array.toList_inj.1 hus
                subst hva
                have hcell : w.cell? ⟨b2, off + 1, none⟩ = some (.map (some bm)) := by
                  cases e3 with | cells hvs hl hκ hfz =>
                  rename_i cs t lo hi
                  obtain ⟨d1, d2⟩ := dropN_eq _ _ _ hd
                  have hl1 : l[off + 1]? = some (.map m) := by
                    have := congrArg (fun x => x[0]?) d1
                    simpa using this.symm
                  obtain ⟨x, hx0, hxr⟩ := hvs.get hl1
                  cases hxr with | map hρm =>
                  rw [f1] at hρm; cases hρm
                  have : cs[off + 1]? = some (.map (some bm)) := by
                    rw [List.getElem?_take] at hx0
                    split at hx0
                    · simpa using hx0
                    · cases hx0
                  simp [World.cell?, e2, this]
                obtain ⟨j1, j2, _⟩ := birthsOK_sound hc hev
                obtain ⟨i1, i2⟩ := sumL_sound hn hev
                have hle := Nat.le_of_ble_eq_true hle
                refine (Tryz.used_in w b2 off bm a clock n hcell f2 j1 j2 i2 i1 (by omega)).mono ?_
                rintro e w' ⟨rfl, hx⟩
                exact ⟨_, ρ, rfl, Stp.below hr ⟨hx.os, hx.tape, hx.out, hx.size, hx.frame⟩, .int _ _⟩
              · cases hx
            · cases hx
          · cases hx
        · cases hx
      · cases hx
    · cases hx
  · cases hx
end Go.Hx
