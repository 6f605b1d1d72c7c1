/- A block of bytes that are not known, taken in. -/
import Derived.Test.YtdjdiibloohddaaGreatDoorHzTR
namespace Go.Hx
variable [Inp]
set_option linter.unusedSectionVars false
open Go.Proofs
set_option maxRecDepth 100000
def eBlk2 : SubE := ⟨158, [.ptr 0 0, .slice 1 128 64 true 2017, .ptr 2 0], [(stA, 73), (anyB 2145, 1), (roundsA, 64)], [(stA, 73), (anyB 2145, 1), (roundsA, 64)], .tup ([])⟩
theorem eBlk2_ok : eBlk2.Valid Tryz.prog := SubE.valid_of ER_ok (n := 1000) (by kernel_rfl : eBlk2.check ER 1000 = true)
def eBlk6 : SubE := ⟨158, [.ptr 0 0, .slice 1 384 64 true 1761, .ptr 2 0], [(stA, 73), (anyB 2145, 1), (roundsA, 64)], [(stA, 73), (anyB 2145, 1), (roundsA, 64)], .tup ([])⟩
theorem eBlk6_ok : eBlk6.Valid Tryz.prog := SubE.valid_of ER_ok (n := 1000) (by kernel_rfl : eBlk6.check ER 1000 = true)
def eBlk10 : SubE := ⟨158, [.ptr 0 0, .slice 1 640 64 true 1505, .ptr 2 0], [(stA, 73), (anyB 2145, 1), (roundsA, 64)], [(stA, 73), (anyB 2145, 1), (roundsA, 64)], .tup ([])⟩
theorem eBlk10_ok : eBlk10.Valid Tryz.prog := SubE.valid_of ER_ok (n := 1000) (by kernel_rfl : eBlk10.check ER 1000 = true)
def eBlk14 : SubE := ⟨158, [.ptr 0 0, .slice 1 896 64 true 1249, .ptr 2 0], [(stA, 73), (anyB 2145, 1), (roundsA, 64)], [(stA, 73), (anyB 2145, 1), (roundsA, 64)], .tup ([])⟩
theorem eBlk14_ok : eBlk14.Valid Tryz.prog := SubE.valid_of ER_ok (n := 1000) (by kernel_rfl : eBlk14.check ER 1000 = true)
def eBlk18 : SubE := ⟨158, [.ptr 0 0, .slice 1 1152 64 true 993, .ptr 2 0], [(stA, 73), (anyB 2145, 1), (roundsA, 64)], [(stA, 73), (anyB 2145, 1), (roundsA, 64)], .tup ([])⟩
theorem eBlk18_ok : eBlk18.Valid Tryz.prog := SubE.valid_of ER_ok (n := 1000) (by kernel_rfl : eBlk18.check ER 1000 = true)
def eBlk22 : SubE := ⟨158, [.ptr 0 0, .slice 1 1408 64 true 737, .ptr 2 0], [(stA, 73), (anyB 2145, 1), (roundsA, 64)], [(stA, 73), (anyB 2145, 1), (roundsA, 64)], .tup ([])⟩
theorem eBlk22_ok : eBlk22.Valid Tryz.prog := SubE.valid_of ER_ok (n := 1000) (by kernel_rfl : eBlk22.check ER 1000 = true)
def eBlk26 : SubE := ⟨158, [.ptr 0 0, .slice 1 1664 64 true 481, .ptr 2 0], [(stA, 73), (anyB 2145, 1), (roundsA, 64)], [(stA, 73), (anyB 2145, 1), (roundsA, 64)], .tup ([])⟩
theorem eBlk26_ok : eBlk26.Valid Tryz.prog := SubE.valid_of ER_ok (n := 1000) (by kernel_rfl : eBlk26.check ER 1000 = true)
def eBlk30 : SubE := ⟨158, [.ptr 0 0, .slice 1 1920 64 true 225, .ptr 2 0], [(stA, 73), (anyB 2145, 1), (roundsA, 64)], [(stA, 73), (anyB 2145, 1), (roundsA, 64)], .tup ([])⟩
theorem eBlk30_ok : eBlk30.Valid Tryz.prog := SubE.valid_of ER_ok (n := 1000) (by kernel_rfl : eBlk30.check ER 1000 = true)
end Go.Hx
