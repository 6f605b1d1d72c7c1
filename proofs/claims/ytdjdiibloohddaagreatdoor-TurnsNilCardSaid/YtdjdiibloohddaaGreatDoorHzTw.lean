/- A copy of bytes that came in: the walk, and what the executor may take for a call. -/
import Derived.Test.YtdjdiibloohddaaGreatDoorProg
import Derived.Test.YtdjdiibloohddaaGreatDoorHxE
import Derived.WalkKit
import Derived.OwnWalkIn
import Derived.TacticsInMore
import Derived.LoopNIn
import Derived.LoopIn
import Derived.Maps.AppendAt
set_option linter.unusedVariables false
set_option linter.unusedSimpArgs false
namespace Go.Proofs
open Go.RowKit Go.Shelf

theorem Tryz.info5 : (Tryz.prog.info? 5).map (fun i => (i.zero, i.size, i.bytes)) = some (some (.int .u8 0), 1, 1) := by kernel_rfl

set_option maxRecDepth 100000 in
set_option maxHeartbeats 2000000 in
theorem Tryz.twin_in (w : World) (b off n c : Nat) (hn : n ≤ 140737488351232) (hc : ∀ i, i < n → ∃ x, w.cell? ⟨b, off + i, none⟩ = some (.int .u8 x)) :
    CallsIn Fence.wide 0 Tryz.prog 13 #[.slice (some ⟨b, off, none⟩) n c] w fun e w' => (∃ v xs, e = .returned v ∧ w'.ownsRow w.heap.size 5 1 v n xs) ∧ Below w.heap.size w w' := by
  have hml : 140737488351232 ≤ maxLen := by decide
  obtain ⟨i0, hi, hz0, hz1, hz2⟩ := info_parts Tryz.info5
  refine callsIn_of_wp Tryz.func13 rfl trivial ?_ rfl
  simp only [Tryz.ntmps13, List.size_toArray, List.length_cons, List.length_nil, Nat.reduceAdd, Nat.reduceSub, Array.replicate_succ, Array.replicate_zero, List.push_toArray, List.append_toArray, List.nil_append, List.cons_append]
  gi_wp2
  gi_loopw [3, 4] (fun s i wr => ∃ (k : Nat) (xs : List Value), i = .int .i64 k ∧ k ≤ n ∧ wr.ownsRow w.heap.size 5 1 s k xs ∧ Below w.heap.size w wr)
    (fun _ i _ => n - (RowKit.intOf i).toNat)
  case atStart =>
    exact ⟨0, [], rfl, Nat.zero_le _, World.ownsRow_nil _ _ _ _, Below.refl _ _⟩
  case round =>
    obtain ⟨k, xs, rfl, hk, hrow, hb⟩ := hrel
    by_cases hkn : k < n
    · obtain ⟨x, hx⟩ := hc k hkn
      have hx' : wr.cell? ⟨b, off + k, none⟩ = some (.int .u8 x) := (hb.cell (p := ⟨b, off + k, none⟩) (World.block_lt_of_cell? w _ hx)).trans hx
      gi_wp2_with (first
        | (gi_at_builtin; refine wpListIn_append_own _ rfl _ _ 45 rfl w.heap.size 5 i0 (.int .u8 0) 1 1 Tryz.underlying45 hi hz0 hz1 hz2 rfl (by decide) _ _ _ rfl (hrow.alloc _) ⟨wr.heap.size, 0, none⟩ 1 1 [.int .u8 x] rfl rfl (cell_one_new _ _ _) (by simp [Value.oneCell']) (by omega) (by omega) (by have := hb.size; simp; omega) ?_; intro v' w1 hown' hgrow _)
        | gi_in)
      have hgrow2 : (wr.alloc (Obj.cells #[Value.int .u8 x] 5)).grownBy w1 u3.ownBlock := hgrow
      refine ⟨⟨k + 1, xs ++ [.int .u8 x], by simp, by omega, hown', (hb.alloc hb.size _).grown hgrow2 (by have := hb.size; simp; omega) (fun j hj => (hrow.lt j hj).1)⟩, ?_⟩
      simp only [RowKit.intOf]
      omega
    · have : k = n := by omega
      subst this
      gi_wp2
      refine bodyPost_ret (v := u3) ?_ rfl ⟨⟨u3, xs, rfl, hrow⟩, hb⟩
      exact results_tmp (t := 2) rfl _ _ _

set_option maxRecDepth 100000 in
set_option maxHeartbeats 2000000 in
theorem Tryz.twin0_in (w : World) (p : Option Addr) (c : Nat) :
    CallsIn Fence.wide 0 Tryz.prog 13 #[.slice p 0 c] w fun e w' => e = .returned (.slice none 0 0) ∧ Below w.heap.size w w' := by
  refine callsIn_of_wp Tryz.func13 rfl trivial ?_ rfl
  simp only [Tryz.ntmps13, List.size_toArray, List.length_cons, List.length_nil, Nat.reduceAdd, Nat.reduceSub, Array.replicate_succ, Array.replicate_zero, List.push_toArray, List.append_toArray, List.nil_append, List.cons_append]
  gi_wp2
  gi_loopw [3, 4] (fun s i wr => s = .slice none 0 0 ∧ i = .int .i64 0 ∧ Below w.heap.size w wr) (fun _ i _ => 0)
  case atStart => exact ⟨rfl, rfl, Below.refl _ _⟩
  case round =>
    obtain ⟨rfl, rfl, hb⟩ := hrel
    gi_wp2
    refine bodyPost_ret (v := .slice none 0 0) ?_ rfl ⟨rfl, hb⟩
    exact results_tmp (t := 2) rfl _ _ _
end Go.Proofs
