/-
  DERIVED. GIVEN WITH THE SEED: THE CARDS: each row of YtlmgpkopcgcbgaaGreatDoorRows.lean that lists a variable, with what it lists TIED to the program's text (the seventh form; the later family's looks); each row that meets fmt, with fmt's text TOLD by the authors' own Lean function (tested against real Go, not proved from fmt's source: count such statements apart). THE CARD IS WHAT COUNTS. Prove the row's statement (the work); the ties are given (YtlmgpkopcgcbgaaGreatDoorTie.lean); close each card by the builder's one call (the guide's Derived/Test/ToyasCard.lean, 'card_holds'). Laid BY PROGRAM, IN A SANDBOX (cutbox-door.mjs). By AI agents, Wed Nov 11 2026. No macro, syntax, notation, axiom, sorry.
-/
import Derived.Test.YtlmgpkopcgcbgaaGreatDoorRows
import GoSem.ClaimSeven
namespace Go.Proofs.YtlmgpkopcgcbgaaGreatDoor
namespace Rows

/-- THE TIED CARD OF 'estafettelaw06.ServeParts'. -/
def servePartsCard : Claim7 := { stood := { row := servePartsRow, standIns := [], harness := (true, "7f6ba5eb9271312be9994ef4f3e58c56a0feb29976c71aa59ed1ea18574f2bcf"), looks := true }, kinds := [], alts := [], laidByText := true, laidKinds := [.data, .data, .data, .data, .sentinel, .sentinel, .pinned], laidTests := true, laidLooks := .later }
def ServePartsCardSaid : Prop := Claim7.holds Tryz.pinned (.plain (OpenSpec.ofChange servePartsSpec)) servePartsCard

/-- THE TIED CARD OF 'estafettelaw06.ServeMail'. -/
def serveMailCard : Claim7 := { stood := { row := serveMailRow, standIns := [], harness := (true, "7f6ba5eb9271312be9994ef4f3e58c56a0feb29976c71aa59ed1ea18574f2bcf"), looks := true }, kinds := [], alts := [], laidByText := true, laidKinds := [.data, .data, .data, .data, .sentinel, .sentinel, .pinned], laidTests := true, laidLooks := .later }
def ServeMailCardSaid : Prop := Claim7.holds Tryz.pinned (.plain (OpenSpec.ofChange serveMailSpec)) serveMailCard

/-- THE TIED CARD OF 'estafettelaw06.ServeOrder'. -/
def serveOrderCard : Claim7 := { stood := { row := serveOrderRow, standIns := [], harness := (true, "7f6ba5eb9271312be9994ef4f3e58c56a0feb29976c71aa59ed1ea18574f2bcf"), looks := true }, kinds := [], alts := [], laidByText := true, laidKinds := [.data, .data, .data, .data, .sentinel, .sentinel, .pinned], laidTests := true, laidLooks := .later }
def ServeOrderCardSaid : Prop := Claim7.holds Tryz.pinned (.plain (OpenSpec.ofChange serveOrderSpec)) serveOrderCard

/-- THE TIED CARD OF 'estafettelaw06.ServeSizes'. -/
def serveSizesCard : Claim7 := { stood := { row := serveSizesRow, standIns := [], harness := (true, "7f6ba5eb9271312be9994ef4f3e58c56a0feb29976c71aa59ed1ea18574f2bcf"), looks := true }, kinds := [], alts := [], laidByText := true, laidKinds := [.data, .data, .data, .data, .sentinel, .sentinel, .pinned], laidTests := true, laidLooks := .later }
def ServeSizesCardSaid : Prop := Claim7.holds Tryz.pinned (.plain (OpenSpec.ofChange serveSizesSpec)) serveSizesCard

/-- THE TIED CARD OF 'estafettelaw06.ServeNone'. -/
def serveNoneCard : Claim7 := { stood := { row := serveNoneRow, standIns := [], harness := (true, "7f6ba5eb9271312be9994ef4f3e58c56a0feb29976c71aa59ed1ea18574f2bcf"), looks := true }, kinds := [], alts := [], laidByText := true, laidKinds := [.data, .data, .data, .data, .sentinel, .sentinel, .pinned], laidTests := true, laidLooks := .later }
def ServeNoneCardSaid : Prop := Claim7.holds Tryz.pinned (.plain (OpenSpec.ofChange serveNoneSpec)) serveNoneCard

/-- THE SECOND FORM's CARD OF 'estafettelaw06.ServeParts'. -/
def servePartsUptoCard : Claim7 := { stood := { row := servePartsUptoRow, standIns := [], harness := (true, "7f6ba5eb9271312be9994ef4f3e58c56a0feb29976c71aa59ed1ea18574f2bcf"), looks := true }, kinds := [], alts := [], laidByText := true, laidKinds := [.data, .data, .data, .data, .sentinel, .sentinel, .pinned], laidTests := true, laidLooks := .later }
def ServePartsUptoCardSaid : Prop := Claim7.holds Tryz.pinned (.plain (OpenSpec.upto servePartsSpec)) servePartsUptoCard

/-- THE SECOND FORM's CARD OF 'estafettelaw06.ServeMail'. -/
def serveMailUptoCard : Claim7 := { stood := { row := serveMailUptoRow, standIns := [], harness := (true, "7f6ba5eb9271312be9994ef4f3e58c56a0feb29976c71aa59ed1ea18574f2bcf"), looks := true }, kinds := [], alts := [], laidByText := true, laidKinds := [.data, .data, .data, .data, .sentinel, .sentinel, .pinned], laidTests := true, laidLooks := .later }
def ServeMailUptoCardSaid : Prop := Claim7.holds Tryz.pinned (.plain (OpenSpec.upto serveMailSpec)) serveMailUptoCard

/-- THE SECOND FORM's CARD OF 'estafettelaw06.ServeOrder'. -/
def serveOrderUptoCard : Claim7 := { stood := { row := serveOrderUptoRow, standIns := [], harness := (true, "7f6ba5eb9271312be9994ef4f3e58c56a0feb29976c71aa59ed1ea18574f2bcf"), looks := true }, kinds := [], alts := [], laidByText := true, laidKinds := [.data, .data, .data, .data, .sentinel, .sentinel, .pinned], laidTests := true, laidLooks := .later }
def ServeOrderUptoCardSaid : Prop := Claim7.holds Tryz.pinned (.plain (OpenSpec.upto serveOrderSpec)) serveOrderUptoCard

/-- THE SECOND FORM's CARD OF 'estafettelaw06.ServeSizes'. -/
def serveSizesUptoCard : Claim7 := { stood := { row := serveSizesUptoRow, standIns := [], harness := (true, "7f6ba5eb9271312be9994ef4f3e58c56a0feb29976c71aa59ed1ea18574f2bcf"), looks := true }, kinds := [], alts := [], laidByText := true, laidKinds := [.data, .data, .data, .data, .sentinel, .sentinel, .pinned], laidTests := true, laidLooks := .later }
def ServeSizesUptoCardSaid : Prop := Claim7.holds Tryz.pinned (.plain (OpenSpec.upto serveSizesSpec)) serveSizesUptoCard

/-- THE SECOND FORM's CARD OF 'estafettelaw06.ServeNone'. -/
def serveNoneUptoCard : Claim7 := { stood := { row := serveNoneUptoRow, standIns := [], harness := (true, "7f6ba5eb9271312be9994ef4f3e58c56a0feb29976c71aa59ed1ea18574f2bcf"), looks := true }, kinds := [], alts := [], laidByText := true, laidKinds := [.data, .data, .data, .data, .sentinel, .sentinel, .pinned], laidTests := true, laidLooks := .later }
def ServeNoneUptoCardSaid : Prop := Claim7.holds Tryz.pinned (.plain (OpenSpec.upto serveNoneSpec)) serveNoneUptoCard
end Rows
end Go.Proofs.YtlmgpkopcgcbgaaGreatDoor
