/- A block of bytes that are not known, taken in. -/
import Derived.Test.YtdjdiibloohddaaGreatDoorHzTR
namespace Go.Hx
variable [Inp]
set_option linter.unusedSectionVars false
open Go.Proofs
set_option maxRecDepth 100000
def eBlk0 : SubE := ⟨158, [.ptr 0 0, .slice 1 0 64 true 2145, .ptr 2 0], [(stA, 73), (anyB 2145, 1), (roundsA, 64)], [(stA, 73), (anyB 2145, 1), (roundsA, 64)], .tup ([])⟩
theorem eBlk0_ok : eBlk0.Valid Tryz.prog := SubE.valid_of ER_ok (n := 1000) (by kernel_rfl : eBlk0.check ER 1000 = true)
def eBlk4 : SubE := ⟨158, [.ptr 0 0, .slice 1 256 64 true 1889, .ptr 2 0], [(stA, 73), (anyB 2145, 1), (roundsA, 64)], [(stA, 73), (anyB 2145, 1), (roundsA, 64)], .tup ([])⟩
theorem eBlk4_ok : eBlk4.Valid Tryz.prog := SubE.valid_of ER_ok (n := 1000) (by kernel_rfl : eBlk4.check ER 1000 = true)
def eBlk8 : SubE := ⟨158, [.ptr 0 0, .slice 1 512 64 true 1633, .ptr 2 0], [(stA, 73), (anyB 2145, 1), (roundsA, 64)], [(stA, 73), (anyB 2145, 1), (roundsA, 64)], .tup ([])⟩
theorem eBlk8_ok : eBlk8.Valid Tryz.prog := SubE.valid_of ER_ok (n := 1000) (by kernel_rfl : eBlk8.check ER 1000 = true)
def eBlk12 : SubE := ⟨158, [.ptr 0 0, .slice 1 768 64 true 1377, .ptr 2 0], [(stA, 73), (anyB 2145, 1), (roundsA, 64)], [(stA, 73), (anyB 2145, 1), (roundsA, 64)], .tup ([])⟩
theorem eBlk12_ok : eBlk12.Valid Tryz.prog := SubE.valid_of ER_ok (n := 1000) (by kernel_rfl : eBlk12.check ER 1000 = true)
def eBlk16 : SubE := ⟨158, [.ptr 0 0, .slice 1 1024 64 true 1121, .ptr 2 0], [(stA, 73), (anyB 2145, 1), (roundsA, 64)], [(stA, 73), (anyB 2145, 1), (roundsA, 64)], .tup ([])⟩
theorem eBlk16_ok : eBlk16.Valid Tryz.prog := SubE.valid_of ER_ok (n := 1000) (by kernel_rfl : eBlk16.check ER 1000 = true)
def eBlk20 : SubE := ⟨158, [.ptr 0 0, .slice 1 1280 64 true 865, .ptr 2 0], [(stA, 73), (anyB 2145, 1), (roundsA, 64)], [(stA, 73), (anyB 2145, 1), (roundsA, 64)], .tup ([])⟩
theorem eBlk20_ok : eBlk20.Valid Tryz.prog := SubE.valid_of ER_ok (n := 1000) (by kernel_rfl : eBlk20.check ER 1000 = true)
def eBlk24 : SubE := ⟨158, [.ptr 0 0, .slice 1 1536 64 true 609, .ptr 2 0], [(stA, 73), (anyB 2145, 1), (roundsA, 64)], [(stA, 73), (anyB 2145, 1), (roundsA, 64)], .tup ([])⟩
theorem eBlk24_ok : eBlk24.Valid Tryz.prog := SubE.valid_of ER_ok (n := 1000) (by kernel_rfl : eBlk24.check ER 1000 = true)
def eBlk28 : SubE := ⟨158, [.ptr 0 0, .slice 1 1792 64 true 353, .ptr 2 0], [(stA, 73), (anyB 2145, 1), (roundsA, 64)], [(stA, 73), (anyB 2145, 1), (roundsA, 64)], .tup ([])⟩
theorem eBlk28_ok : eBlk28.Valid Tryz.prog := SubE.valid_of ER_ok (n := 1000) (by kernel_rfl : eBlk28.check ER 1000 = true)
def eBlk32 : SubE := ⟨158, [.ptr 0 0, .slice 1 2048 64 true 97, .ptr 2 0], [(stA, 73), (anyB 2145, 1), (roundsA, 64)], [(stA, 73), (anyB 2145, 1), (roundsA, 64)], .tup ([])⟩
theorem eBlk32_ok : eBlk32.Valid Tryz.prog := SubE.valid_of ER_ok (n := 1000) (by kernel_rfl : eBlk32.check ER 1000 = true)
end Go.Hx
