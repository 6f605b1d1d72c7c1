/- A word that is not known, turned. -/
import Derived.Test.YtdjdiibloohddaaGreatDoorHzEnv
import Derived.Test.YtdjdiibloohddaaGreatDoorHxE
namespace Go.Hx
variable [Inp]
set_option linter.unusedSectionVars false
open Go.Proofs
set_option maxRecDepth 100000
def roundsA : List AV := [.int .u32 (1116352408), .int .u32 (1899447441), .int .u32 (3049323471), .int .u32 (3921009573), .int .u32 (961987163), .int .u32 (1508970993), .int .u32 (2453635748), .int .u32 (2870763221), .int .u32 (3624381080), .int .u32 (310598401), .int .u32 (607225278), .int .u32 (1426881987), .int .u32 (1925078388), .int .u32 (2162078206), .int .u32 (2614888103), .int .u32 (3248222580), .int .u32 (3835390401), .int .u32 (4022224774), .int .u32 (264347078), .int .u32 (604807628), .int .u32 (770255983), .int .u32 (1249150122), .int .u32 (1555081692), .int .u32 (1996064986), .int .u32 (2554220882), .int .u32 (2821834349), .int .u32 (2952996808), .int .u32 (3210313671), .int .u32 (3336571891), .int .u32 (3584528711), .int .u32 (113926993), .int .u32 (338241895), .int .u32 (666307205), .int .u32 (773529912), .int .u32 (1294757372), .int .u32 (1396182291), .int .u32 (1695183700), .int .u32 (1986661051), .int .u32 (2177026350), .int .u32 (2456956037), .int .u32 (2730485921), .int .u32 (2820302411), .int .u32 (3259730800), .int .u32 (3345764771), .int .u32 (3516065817), .int .u32 (3600352804), .int .u32 (4094571909), .int .u32 (275423344), .int .u32 (430227734), .int .u32 (506948616), .int .u32 (659060556), .int .u32 (883997877), .int .u32 (958139571), .int .u32 (1322822218), .int .u32 (1537002063), .int .u32 (1747873779), .int .u32 (1955562222), .int .u32 (2024104815), .int .u32 (2227730452), .int .u32 (2361852424), .int .u32 (2428436474), .int .u32 (2756734187), .int .u32 (3204031479), .int .u32 (3329325298)]
def stA : List AV := anyW 8 ++ [.int .u64 (2145)] ++ anyB 64
def eRot7 : SubE := ⟨232, anyW 1 ++ [.int .i64 (7)], [], [], .rng .u32 (0) (4294967295)⟩
theorem eRot7_ok : eRot7.Valid Tryz.prog := SubE.valid_of E0_ok (n := 1000) (by kernel_rfl : eRot7.check E0 1000 = true)
def eRot18 : SubE := ⟨232, anyW 1 ++ [.int .i64 (18)], [], [], .rng .u32 (0) (4294967295)⟩
theorem eRot18_ok : eRot18.Valid Tryz.prog := SubE.valid_of E0_ok (n := 1000) (by kernel_rfl : eRot18.check E0 1000 = true)
def eRot17 : SubE := ⟨232, anyW 1 ++ [.int .i64 (17)], [], [], .rng .u32 (0) (4294967295)⟩
theorem eRot17_ok : eRot17.Valid Tryz.prog := SubE.valid_of E0_ok (n := 1000) (by kernel_rfl : eRot17.check E0 1000 = true)
def eRot19 : SubE := ⟨232, anyW 1 ++ [.int .i64 (19)], [], [], .rng .u32 (0) (4294967295)⟩
theorem eRot19_ok : eRot19.Valid Tryz.prog := SubE.valid_of E0_ok (n := 1000) (by kernel_rfl : eRot19.check E0 1000 = true)
def eRot6 : SubE := ⟨232, anyW 1 ++ [.int .i64 (6)], [], [], .rng .u32 (0) (4294967295)⟩
theorem eRot6_ok : eRot6.Valid Tryz.prog := SubE.valid_of E0_ok (n := 1000) (by kernel_rfl : eRot6.check E0 1000 = true)
def eRot11 : SubE := ⟨232, anyW 1 ++ [.int .i64 (11)], [], [], .rng .u32 (0) (4294967295)⟩
theorem eRot11_ok : eRot11.Valid Tryz.prog := SubE.valid_of E0_ok (n := 1000) (by kernel_rfl : eRot11.check E0 1000 = true)
def eRot25 : SubE := ⟨232, anyW 1 ++ [.int .i64 (25)], [], [], .rng .u32 (0) (4294967295)⟩
theorem eRot25_ok : eRot25.Valid Tryz.prog := SubE.valid_of E0_ok (n := 1000) (by kernel_rfl : eRot25.check E0 1000 = true)
def eRot2 : SubE := ⟨232, anyW 1 ++ [.int .i64 (2)], [], [], .rng .u32 (0) (4294967295)⟩
theorem eRot2_ok : eRot2.Valid Tryz.prog := SubE.valid_of E0_ok (n := 1000) (by kernel_rfl : eRot2.check E0 1000 = true)
def eRot13 : SubE := ⟨232, anyW 1 ++ [.int .i64 (13)], [], [], .rng .u32 (0) (4294967295)⟩
theorem eRot13_ok : eRot13.Valid Tryz.prog := SubE.valid_of E0_ok (n := 1000) (by kernel_rfl : eRot13.check E0 1000 = true)
def eRot22 : SubE := ⟨232, anyW 1 ++ [.int .i64 (22)], [], [], .rng .u32 (0) (4294967295)⟩
theorem eRot22_ok : eRot22.Valid Tryz.prog := SubE.valid_of E0_ok (n := 1000) (by kernel_rfl : eRot22.check E0 1000 = true)
def tabR : List SubE := [eRot7, eRot18, eRot17, eRot19, eRot6, eRot11, eRot25, eRot2, eRot13, eRot22]
theorem tabR_ok : ∀ p ∈ tabR, p.Valid Tryz.prog := by
  intro p hp
  simp only [tabR, List.mem_cons, List.not_mem_nil, or_false] at hp
  rcases hp with rfl | rfl | rfl | rfl | rfl | rfl | rfl | rfl | rfl | rfl
  · exact eRot7_ok
  · exact eRot18_ok
  · exact eRot17_ok
  · exact eRot19_ok
  · exact eRot6_ok
  · exact eRot11_ok
  · exact eRot25_ok
  · exact eRot2_ok
  · exact eRot13_ok
  · exact eRot22_ok
noncomputable def ER : Env := E0.with tabR
theorem ER_ok : EnvOK ER := Env.with_valid E0_ok tabR_ok
end Go.Hx
