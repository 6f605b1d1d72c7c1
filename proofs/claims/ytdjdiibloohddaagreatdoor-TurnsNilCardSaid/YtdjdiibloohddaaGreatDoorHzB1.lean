/- A block of bytes that are not known, taken in. -/
import Derived.Test.YtdjdiibloohddaaGreatDoorHzTR
namespace Go.Hx
variable [Inp]
set_option linter.unusedSectionVars false
open Go.Proofs
set_option maxRecDepth 100000
def eBlk1 : SubE := ⟨158, [.ptr 0 0, .slice 1 64 64 true 2081, .ptr 2 0], [(stA, 73), (anyB 2145, 1), (roundsA, 64)], [(stA, 73), (anyB 2145, 1), (roundsA, 64)], .tup ([])⟩
theorem eBlk1_ok : eBlk1.Valid Tryz.prog := SubE.valid_of ER_ok (n := 1000) (by kernel_rfl : eBlk1.check ER 1000 = true)
def eBlk5 : SubE := ⟨158, [.ptr 0 0, .slice 1 320 64 true 1825, .ptr 2 0], [(stA, 73), (anyB 2145, 1), (roundsA, 64)], [(stA, 73), (anyB 2145, 1), (roundsA, 64)], .tup ([])⟩
theorem eBlk5_ok : eBlk5.Valid Tryz.prog := SubE.valid_of ER_ok (n := 1000) (by kernel_rfl : eBlk5.check ER 1000 = true)
def eBlk9 : SubE := ⟨158, [.ptr 0 0, .slice 1 576 64 true 1569, .ptr 2 0], [(stA, 73), (anyB 2145, 1), (roundsA, 64)], [(stA, 73), (anyB 2145, 1), (roundsA, 64)], .tup ([])⟩
theorem eBlk9_ok : eBlk9.Valid Tryz.prog := SubE.valid_of ER_ok (n := 1000) (by kernel_rfl : eBlk9.check ER 1000 = true)
def eBlk13 : SubE := ⟨158, [.ptr 0 0, .slice 1 832 64 true 1313, .ptr 2 0], [(stA, 73), (anyB 2145, 1), (roundsA, 64)], [(stA, 73), (anyB 2145, 1), (roundsA, 64)], .tup ([])⟩
theorem eBlk13_ok : eBlk13.Valid Tryz.prog := SubE.valid_of ER_ok (n := 1000) (by kernel_rfl : eBlk13.check ER 1000 = true)
def eBlk17 : SubE := ⟨158, [.ptr 0 0, .slice 1 1088 64 true 1057, .ptr 2 0], [(stA, 73), (anyB 2145, 1), (roundsA, 64)], [(stA, 73), (anyB 2145, 1), (roundsA, 64)], .tup ([])⟩
theorem eBlk17_ok : eBlk17.Valid Tryz.prog := SubE.valid_of ER_ok (n := 1000) (by kernel_rfl : eBlk17.check ER 1000 = true)
def eBlk21 : SubE := ⟨158, [.ptr 0 0, .slice 1 1344 64 true 801, .ptr 2 0], [(stA, 73), (anyB 2145, 1), (roundsA, 64)], [(stA, 73), (anyB 2145, 1), (roundsA, 64)], .tup ([])⟩
theorem eBlk21_ok : eBlk21.Valid Tryz.prog := SubE.valid_of ER_ok (n := 1000) (by kernel_rfl : eBlk21.check ER 1000 = true)
def eBlk25 : SubE := ⟨158, [.ptr 0 0, .slice 1 1600 64 true 545, .ptr 2 0], [(stA, 73), (anyB 2145, 1), (roundsA, 64)], [(stA, 73), (anyB 2145, 1), (roundsA, 64)], .tup ([])⟩
theorem eBlk25_ok : eBlk25.Valid Tryz.prog := SubE.valid_of ER_ok (n := 1000) (by kernel_rfl : eBlk25.check ER 1000 = true)
def eBlk29 : SubE := ⟨158, [.ptr 0 0, .slice 1 1856 64 true 289, .ptr 2 0], [(stA, 73), (anyB 2145, 1), (roundsA, 64)], [(stA, 73), (anyB 2145, 1), (roundsA, 64)], .tup ([])⟩
theorem eBlk29_ok : eBlk29.Valid Tryz.prog := SubE.valid_of ER_ok (n := 1000) (by kernel_rfl : eBlk29.check ER 1000 = true)
end Go.Hx
