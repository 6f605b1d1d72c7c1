/-
  DERIVED. GIVEN WITH THE SEED: THE CARDS: each row of YtmcflcdddlaemaaGreatDoorRows.lean that lists a variable, with what it lists TIED to the program's text (the seventh form; the later family's looks); each row that meets fmt, with fmt's text TOLD by the authors' own Lean function (tested against real Go, not proved from fmt's source: count such statements apart). THE CARD IS WHAT COUNTS. Prove the row's statement (the work); the ties are given (YtmcflcdddlaemaaGreatDoorTie.lean); close each card by the builder's one call (the guide's Derived/Test/ToyasCard.lean, 'card_holds'). Laid BY PROGRAM, IN A SANDBOX (cutbox-door.mjs). By AI agents, Wed Nov 11 2026. No macro, syntax, notation, axiom, sorry.
-/
import Derived.Test.YtmcflcdddlaemaaGreatDoorRows
import GoSem.ClaimSeven
namespace Go.Proofs.YtmcflcdddlaemaaGreatDoor
namespace Rows

/-- THE TIED CARD OF 'hallmarklaw22.TurnsMany'. -/
def turnsManyCard : Claim7 := { stood := { row := turnsManyRow, standIns := [], harness := (true, "9e7ca6943e9e553c65a2d8629a41ae1bf53fb5dbb821d4a4fde446fea5ecf536"), looks := true }, kinds := [], alts := [], laidByText := true, laidKinds := [.data, .data, .data, .data, .handle, .sentinel, .sentinel, .pinned], laidTests := true, laidLooks := .later }
def TurnsManyCardSaid : Prop := Claim7.holds Tryz.pinned (.plain (OpenSpec.ofChange turnsManySpec)) turnsManyCard

/-- THE TIED CARD OF 'hallmarklaw24.SendNil'. -/
def sendNilCard : Claim7 := { stood := { row := sendNilRow, standIns := [], harness := (true, "9e7ca6943e9e553c65a2d8629a41ae1bf53fb5dbb821d4a4fde446fea5ecf536"), looks := true }, kinds := [], alts := [], laidByText := true, laidKinds := [.data, .data, .data, .data, .handle, .sentinel, .sentinel, .pinned], laidTests := true, laidLooks := .later }
def SendNilCardSaid : Prop := Claim7.holds Tryz.pinned (.plain (OpenSpec.ofChange sendNilSpec)) sendNilCard

/-- THE TIED CARD OF 'hallmarklaw20.HallNil'. -/
def hallNilCard : Claim7 := { stood := { row := hallNilRow, standIns := [], harness := (true, "9e7ca6943e9e553c65a2d8629a41ae1bf53fb5dbb821d4a4fde446fea5ecf536"), looks := true }, kinds := [], alts := [], laidByText := true, laidKinds := [.data, .data, .data, .data, .handle, .sentinel, .sentinel, .pinned], laidTests := true, laidLooks := .later }
def HallNilCardSaid : Prop := Claim7.holds Tryz.pinned (.plain (OpenSpec.ofChange hallNilSpec)) hallNilCard

/-- THE SECOND FORM's CARD OF 'hallmarklaw22.TurnsMany'. -/
def turnsManyUptoCard : Claim7 := { stood := { row := turnsManyUptoRow, standIns := [], harness := (true, "9e7ca6943e9e553c65a2d8629a41ae1bf53fb5dbb821d4a4fde446fea5ecf536"), looks := true }, kinds := [], alts := [], laidByText := true, laidKinds := [.data, .data, .data, .data, .handle, .sentinel, .sentinel, .pinned], laidTests := true, laidLooks := .later }
def TurnsManyUptoCardSaid : Prop := Claim7.holds Tryz.pinned (.plain (OpenSpec.upto turnsManySpec)) turnsManyUptoCard

/-- THE SECOND FORM's CARD OF 'hallmarklaw24.SendNil'. -/
def sendNilUptoCard : Claim7 := { stood := { row := sendNilUptoRow, standIns := [], harness := (true, "9e7ca6943e9e553c65a2d8629a41ae1bf53fb5dbb821d4a4fde446fea5ecf536"), looks := true }, kinds := [], alts := [], laidByText := true, laidKinds := [.data, .data, .data, .data, .handle, .sentinel, .sentinel, .pinned], laidTests := true, laidLooks := .later }
def SendNilUptoCardSaid : Prop := Claim7.holds Tryz.pinned (.plain (OpenSpec.upto sendNilSpec)) sendNilUptoCard

/-- THE SECOND FORM's CARD OF 'hallmarklaw20.HallNil'. -/
def hallNilUptoCard : Claim7 := { stood := { row := hallNilUptoRow, standIns := [], harness := (true, "9e7ca6943e9e553c65a2d8629a41ae1bf53fb5dbb821d4a4fde446fea5ecf536"), looks := true }, kinds := [], alts := [], laidByText := true, laidKinds := [.data, .data, .data, .data, .handle, .sentinel, .sentinel, .pinned], laidTests := true, laidLooks := .later }
def HallNilUptoCardSaid : Prop := Claim7.holds Tryz.pinned (.plain (OpenSpec.upto hallNilSpec)) hallNilUptoCard
end Rows
end Go.Proofs.YtmcflcdddlaemaaGreatDoor
