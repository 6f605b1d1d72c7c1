/- slices.Sorted at this program's instances -/
import Derived.Test.YtdjdiibloohddaaGreatDoorHzSl
import Derived.Test.YtdjdiibloohddaaGreatDoorHxE
import Derived.KernelRfl
namespace Go.Proofs
open Go.RowKit Go.Maps Go.Sort Go.Shelf Go.Hx

theorem Tryz.sortsS (m : Nat) : AnyZ.SortsIn Tryz.prog Tryz.sortedS_ren Fence.wide m :=
  ⟨fun blk off cap ss W hH hblk hsz => callsIn_wide.2 (AnyM.slices_Sort_string Tryz.sortS blk off cap ss W hH hblk hsz),
   fun p cap W => callsIn_wide.2 (AnyM.slices_Sort_string_none Tryz.sortS p cap W)⟩
theorem Tryz.sortsI (m : Nat) : AnyZI.SortsIn Tryz.prog Tryz.sortedI_ren Fence.wide m :=
  ⟨fun blk off cap ss W hH hblk hsz => callsIn_wide.2 (AnyM.slices_Sort_int Tryz.sortI blk off cap ss W hH hblk hsz),
   fun p cap W => callsIn_wide.2 (AnyM.slices_Sort_int_none Tryz.sortI p cap W)⟩

theorem Tryz.sortedA : SortedS Tryz.prog 107 181 9 := fun b nn q D0 R w hq hc hown hmax hbytes =>
  AnyZ.sorted_in Tryz.sortedS Fence.wide 5 trivial trivial trivial trivial rfl (by omega) (Tryz.sortsS _) (enters_of Tryz.func180 (by kernel_rfl) rfl) 181 #[.pointer (some ⟨q, 0, none⟩)] trivial (enters_of Tryz.func181 (by kernel_rfl) rfl) _ _ hmax hbytes _
    (AnyZ.keys_gives (ρ := Tryz.keysA_ren) { Tryz.keysA with } Fence.wide _ trivial rfl (by omega) q b nn D0 _ hq hc hown)
theorem Tryz.sortedB : SortedS Tryz.prog 107 253 9 := fun b nn q D0 R w hq hc hown hmax hbytes =>
  AnyZ.sorted_in Tryz.sortedS Fence.wide 5 trivial trivial trivial trivial rfl (by omega) (Tryz.sortsS _) (enters_of Tryz.func180 (by kernel_rfl) rfl) 253 #[.pointer (some ⟨q, 0, none⟩)] trivial (enters_of Tryz.func253 (by kernel_rfl) rfl) _ _ hmax hbytes _
    (AnyZ.keys_gives (ρ := Tryz.keysB_ren) { Tryz.keysB with } Fence.wide _ trivial rfl (by omega) q b nn D0 _ hq hc hown)
theorem Tryz.sortedC : SortedI Tryz.prog 47 94 3 := fun b nn q D0 R w hq hc hown hmax hbytes =>
  AnyZI.sorted_in Tryz.sortedI Fence.wide 5 trivial trivial trivial trivial rfl (by omega) (Tryz.sortsI _) (enters_of Tryz.func93 (by kernel_rfl) rfl) 94 #[.pointer (some ⟨q, 0, none⟩)] trivial (enters_of Tryz.func94 (by kernel_rfl) rfl) _ _ hmax hbytes _
    (AnyZI.keys_gives (ρ := Tryz.keysC_ren) { Tryz.keysC with } Fence.wide _ trivial rfl (by omega) q b nn D0 _ hq hc hown)
theorem Tryz.sortedD : SortedI Tryz.prog 47 252 3 := fun b nn q D0 R w hq hc hown hmax hbytes =>
  AnyZI.sorted_in Tryz.sortedI Fence.wide 5 trivial trivial trivial trivial rfl (by omega) (Tryz.sortsI _) (enters_of Tryz.func93 (by kernel_rfl) rfl) 252 #[.pointer (some ⟨q, 0, none⟩)] trivial (enters_of Tryz.func252 (by kernel_rfl) rfl) _ _ hmax hbytes _
    (AnyZI.keys_gives (ρ := Tryz.keysD_ren) { Tryz.keysD with } Fence.wide _ trivial rfl (by omega) q b nn D0 _ hq hc hown)
#print axioms Tryz.sortedD
end Go.Proofs
