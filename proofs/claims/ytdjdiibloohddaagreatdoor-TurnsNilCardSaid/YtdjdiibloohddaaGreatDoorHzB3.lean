/- A block of bytes that are not known, taken in. -/
import Derived.Test.YtdjdiibloohddaaGreatDoorHzTR
namespace Go.Hx
variable [Inp]
set_option linter.unusedSectionVars false
open Go.Proofs
set_option maxRecDepth 100000
def eBlk3 : SubE := ⟨158, [.ptr 0 0, .slice 1 192 64 true 1953, .ptr 2 0], [(stA, 73), (anyB 2145, 1), (roundsA, 64)], [(stA, 73), (anyB 2145, 1), (roundsA, 64)], .tup ([])⟩
theorem eBlk3_ok : eBlk3.Valid Tryz.prog := SubE.valid_of ER_ok (n := 1000) (by kernel_rfl : eBlk3.check ER 1000 = true)
def eBlk7 : SubE := ⟨158, [.ptr 0 0, .slice 1 448 64 true 1697, .ptr 2 0], [(stA, 73), (anyB 2145, 1), (roundsA, 64)], [(stA, 73), (anyB 2145, 1), (roundsA, 64)], .tup ([])⟩
theorem eBlk7_ok : eBlk7.Valid Tryz.prog := SubE.valid_of ER_ok (n := 1000) (by kernel_rfl : eBlk7.check ER 1000 = true)
def eBlk11 : SubE := ⟨158, [.ptr 0 0, .slice 1 704 64 true 1441, .ptr 2 0], [(stA, 73), (anyB 2145, 1), (roundsA, 64)], [(stA, 73), (anyB 2145, 1), (roundsA, 64)], .tup ([])⟩
theorem eBlk11_ok : eBlk11.Valid Tryz.prog := SubE.valid_of ER_ok (n := 1000) (by kernel_rfl : eBlk11.check ER 1000 = true)
def eBlk15 : SubE := ⟨158, [.ptr 0 0, .slice 1 960 64 true 1185, .ptr 2 0], [(stA, 73), (anyB 2145, 1), (roundsA, 64)], [(stA, 73), (anyB 2145, 1), (roundsA, 64)], .tup ([])⟩
theorem eBlk15_ok : eBlk15.Valid Tryz.prog := SubE.valid_of ER_ok (n := 1000) (by kernel_rfl : eBlk15.check ER 1000 = true)
def eBlk19 : SubE := ⟨158, [.ptr 0 0, .slice 1 1216 64 true 929, .ptr 2 0], [(stA, 73), (anyB 2145, 1), (roundsA, 64)], [(stA, 73), (anyB 2145, 1), (roundsA, 64)], .tup ([])⟩
theorem eBlk19_ok : eBlk19.Valid Tryz.prog := SubE.valid_of ER_ok (n := 1000) (by kernel_rfl : eBlk19.check ER 1000 = true)
def eBlk23 : SubE := ⟨158, [.ptr 0 0, .slice 1 1472 64 true 673, .ptr 2 0], [(stA, 73), (anyB 2145, 1), (roundsA, 64)], [(stA, 73), (anyB 2145, 1), (roundsA, 64)], .tup ([])⟩
theorem eBlk23_ok : eBlk23.Valid Tryz.prog := SubE.valid_of ER_ok (n := 1000) (by kernel_rfl : eBlk23.check ER 1000 = true)
def eBlk27 : SubE := ⟨158, [.ptr 0 0, .slice 1 1728 64 true 417, .ptr 2 0], [(stA, 73), (anyB 2145, 1), (roundsA, 64)], [(stA, 73), (anyB 2145, 1), (roundsA, 64)], .tup ([])⟩
theorem eBlk27_ok : eBlk27.Valid Tryz.prog := SubE.valid_of ER_ok (n := 1000) (by kernel_rfl : eBlk27.check ER 1000 = true)
def eBlk31 : SubE := ⟨158, [.ptr 0 0, .slice 1 1984 64 true 161, .ptr 2 0], [(stA, 73), (anyB 2145, 1), (roundsA, 64)], [(stA, 73), (anyB 2145, 1), (roundsA, 64)], .tup ([])⟩
theorem eBlk31_ok : eBlk31.Valid Tryz.prog := SubE.valid_of ER_ok (n := 1000) (by kernel_rfl : eBlk31.check ER 1000 = true)
end Go.Hx
