/-
  DERIVED. GIVEN WITH THE SEED: THE CARDS: each row of YtdjdiibloohddaaGreatDoorRows.lean that lists a variable, with what it lists TIED to the program's text (the seventh form; the later family's looks); each row that meets fmt, with fmt's text TOLD by the authors' own Lean function (tested against real Go, not proved from fmt's source: count such statements apart). THE CARD IS WHAT COUNTS. Prove the row's statement (the work); the ties are given (YtdjdiibloohddaaGreatDoorTie.lean); close each card by the builder's one call (the guide's Derived/Test/ToyasCard.lean, 'card_holds'). Laid BY PROGRAM, IN A SANDBOX (cutbox-door.mjs). By AI agents, Wed Nov 11 2026. No macro, syntax, notation, axiom, sorry.
-/
import Derived.Test.YtdjdiibloohddaaGreatDoorRows
import GoSem.ClaimSeven
namespace Go.Proofs.YtdjdiibloohddaaGreatDoor
namespace Rows

/-- THE TIED CARD OF 'hallmarklaw21.CollectNil'. -/
def collectNilCard : Claim7 := { stood := { row := collectNilRow, standIns := [], harness := (true, "16fdc6ff6e1495f347c9dc760352233fe795b898f285266c36ac274dd97ab08b"), looks := true }, kinds := [], alts := [], laidByText := true, laidKinds := [.data, .data, .data, .data, .handle, .sentinel, .sentinel, .pinned], laidTests := true, laidLooks := .later }
def CollectNilCardSaid : Prop := Claim7.holds Tryz.pinned (.plain (OpenSpec.ofChange collectNilSpec)) collectNilCard

/-- THE TIED CARD OF 'hallmarklaw22.TurnsNil'. -/
def turnsNilCard : Claim7 := { stood := { row := turnsNilRow, standIns := [], harness := (true, "16fdc6ff6e1495f347c9dc760352233fe795b898f285266c36ac274dd97ab08b"), looks := true }, kinds := [], alts := [], laidByText := true, laidKinds := [.data, .data, .data, .data, .handle, .sentinel, .sentinel, .pinned], laidTests := true, laidLooks := .later }
def TurnsNilCardSaid : Prop := Claim7.holds Tryz.pinned (.plain (OpenSpec.ofChange turnsNilSpec)) turnsNilCard

/-- THE SECOND FORM's CARD OF 'hallmarklaw21.CollectNil'. -/
def collectNilUptoCard : Claim7 := { stood := { row := collectNilUptoRow, standIns := [], harness := (true, "16fdc6ff6e1495f347c9dc760352233fe795b898f285266c36ac274dd97ab08b"), looks := true }, kinds := [], alts := [], laidByText := true, laidKinds := [.data, .data, .data, .data, .handle, .sentinel, .sentinel, .pinned], laidTests := true, laidLooks := .later }
def CollectNilUptoCardSaid : Prop := Claim7.holds Tryz.pinned (.plain (OpenSpec.upto collectNilSpec)) collectNilUptoCard

/-- THE SECOND FORM's CARD OF 'hallmarklaw22.TurnsNil'. -/
def turnsNilUptoCard : Claim7 := { stood := { row := turnsNilUptoRow, standIns := [], harness := (true, "16fdc6ff6e1495f347c9dc760352233fe795b898f285266c36ac274dd97ab08b"), looks := true }, kinds := [], alts := [], laidByText := true, laidKinds := [.data, .data, .data, .data, .handle, .sentinel, .sentinel, .pinned], laidTests := true, laidLooks := .later }
def TurnsNilUptoCardSaid : Prop := Claim7.holds Tryz.pinned (.plain (OpenSpec.upto turnsNilSpec)) turnsNilUptoCard
end Rows
end Go.Proofs.YtdjdiibloohddaaGreatDoor
