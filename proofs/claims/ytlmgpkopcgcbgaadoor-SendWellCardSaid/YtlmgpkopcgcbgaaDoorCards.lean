/-
  DERIVED. GIVEN WITH THE SEED: THE CARDS: each row of YtlmgpkopcgcbgaaDoorRows.lean that lists a variable, with what it lists TIED to the program's text (the seventh form; the later family's looks); each row that meets fmt, with fmt's text TOLD by the authors' own Lean function (tested against real Go, not proved from fmt's source: count such statements apart). THE CARD IS WHAT COUNTS. Prove the row's statement (the work); the ties are given (YtlmgpkopcgcbgaaDoorTie.lean); close each card by the builder's one call (the guide's Derived/Test/ToyasCard.lean, 'card_holds'). Laid BY PROGRAM, IN A SANDBOX (cutbox-door.mjs). By AI agents, Wed Nov 11 2026. No macro, syntax, notation, axiom, sorry.
-/
import Derived.Test.YtlmgpkopcgcbgaaDoorRows
import GoSem.ClaimSeven
namespace Go.Proofs.YtlmgpkopcgcbgaaDoor
namespace Rows

/-- THE TIED CARD OF 'estafettelaw07.SendPlays'. -/
def sendPlaysCard : Claim7 := { stood := { row := sendPlaysRow, standIns := [], harness := (true, "acf9997c978a5c7f74a9ff95f7b0ba6f4e7d0899b33889babc01de850da953dd"), looks := true }, kinds := [], alts := [], laidByText := true, laidKinds := [.data, .data, .data, .sentinel, .sentinel], laidTests := true, laidLooks := .later }
def SendPlaysCardSaid : Prop := Claim7.holds Tryd.pinned (.plain (OpenSpec.ofChange sendPlaysSpec)) sendPlaysCard

/-- THE TIED CARD OF 'estafettelaw07.SendWell'. -/
def sendWellCard : Claim7 := { stood := { row := sendWellRow, standIns := [], harness := (true, "acf9997c978a5c7f74a9ff95f7b0ba6f4e7d0899b33889babc01de850da953dd"), looks := true }, kinds := [], alts := [], laidByText := true, laidKinds := [.data, .data, .data, .sentinel, .sentinel], laidTests := true, laidLooks := .later }
def SendWellCardSaid : Prop := Claim7.holds Tryd.pinned (.plain (OpenSpec.ofChange sendWellSpec)) sendWellCard

/-- THE TIED CARD OF 'estafettelaw07.SendNone'. -/
def sendNoneCard : Claim7 := { stood := { row := sendNoneRow, standIns := [], harness := (true, "acf9997c978a5c7f74a9ff95f7b0ba6f4e7d0899b33889babc01de850da953dd"), looks := true }, kinds := [], alts := [], laidByText := true, laidKinds := [.data, .data, .data, .sentinel, .sentinel], laidTests := true, laidLooks := .later }
def SendNoneCardSaid : Prop := Claim7.holds Tryd.pinned (.plain (OpenSpec.ofChange sendNoneSpec)) sendNoneCard

/-- THE TIED CARD OF 'estafettelaw07.SendStops'. -/
def sendStopsCard : Claim7 := { stood := { row := sendStopsRow, standIns := [], harness := (true, "acf9997c978a5c7f74a9ff95f7b0ba6f4e7d0899b33889babc01de850da953dd"), looks := true }, kinds := [], alts := [], laidByText := true, laidKinds := [.data, .data, .data, .sentinel, .sentinel], laidTests := true, laidLooks := .later }
def SendStopsCardSaid : Prop := Claim7.holds Tryd.pinned (.plain (OpenSpec.ofChange sendStopsSpec)) sendStopsCard

/-- THE SECOND FORM's CARD OF 'estafettelaw07.SendPlays'. -/
def sendPlaysUptoCard : Claim7 := { stood := { row := sendPlaysUptoRow, standIns := [], harness := (true, "acf9997c978a5c7f74a9ff95f7b0ba6f4e7d0899b33889babc01de850da953dd"), looks := true }, kinds := [], alts := [], laidByText := true, laidKinds := [.data, .data, .data, .sentinel, .sentinel], laidTests := true, laidLooks := .later }
def SendPlaysUptoCardSaid : Prop := Claim7.holds Tryd.pinned (.plain (OpenSpec.upto sendPlaysSpec)) sendPlaysUptoCard

/-- THE SECOND FORM's CARD OF 'estafettelaw07.SendWell'. -/
def sendWellUptoCard : Claim7 := { stood := { row := sendWellUptoRow, standIns := [], harness := (true, "acf9997c978a5c7f74a9ff95f7b0ba6f4e7d0899b33889babc01de850da953dd"), looks := true }, kinds := [], alts := [], laidByText := true, laidKinds := [.data, .data, .data, .sentinel, .sentinel], laidTests := true, laidLooks := .later }
def SendWellUptoCardSaid : Prop := Claim7.holds Tryd.pinned (.plain (OpenSpec.upto sendWellSpec)) sendWellUptoCard

/-- THE SECOND FORM's CARD OF 'estafettelaw07.SendNone'. -/
def sendNoneUptoCard : Claim7 := { stood := { row := sendNoneUptoRow, standIns := [], harness := (true, "acf9997c978a5c7f74a9ff95f7b0ba6f4e7d0899b33889babc01de850da953dd"), looks := true }, kinds := [], alts := [], laidByText := true, laidKinds := [.data, .data, .data, .sentinel, .sentinel], laidTests := true, laidLooks := .later }
def SendNoneUptoCardSaid : Prop := Claim7.holds Tryd.pinned (.plain (OpenSpec.upto sendNoneSpec)) sendNoneUptoCard

/-- THE SECOND FORM's CARD OF 'estafettelaw07.SendStops'. -/
def sendStopsUptoCard : Claim7 := { stood := { row := sendStopsUptoRow, standIns := [], harness := (true, "acf9997c978a5c7f74a9ff95f7b0ba6f4e7d0899b33889babc01de850da953dd"), looks := true }, kinds := [], alts := [], laidByText := true, laidKinds := [.data, .data, .data, .sentinel, .sentinel], laidTests := true, laidLooks := .later }
def SendStopsUptoCardSaid : Prop := Claim7.holds Tryd.pinned (.plain (OpenSpec.upto sendStopsSpec)) sendStopsUptoCard
end Rows
end Go.Proofs.YtlmgpkopcgcbgaaDoor
