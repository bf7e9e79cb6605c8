/-
  DERIVED. GIVEN WITH THE SEED: THE CARDS: each row of YtbakofbljfhoiaaDoorRows.lean that lists a variable, with what it lists TIED to the program's text (the seventh form; the later family's looks); each row that meets fmt, with fmt's text TOLD by the authors' own Lean function (tested against real Go, not proved from fmt's source: count such statements apart). THE CARD IS WHAT COUNTS. Prove the row's statement (the work); the ties are given (YtbakofbljfhoiaaDoorTie.lean); close each card by the builder's one call (the guide's Derived/Test/ToyasCard.lean, 'card_holds'). Laid BY PROGRAM, IN A SANDBOX (cutbox-door.mjs). By AI agents, Wed Nov 11 2026. No macro, syntax, notation, axiom, sorry.
-/
import Derived.Test.YtbakofbljfhoiaaDoorRows
import GoSem.ClaimSeven
namespace Go.Proofs.YtbakofbljfhoiaaDoor
namespace Rows

/-- THE TIED CARD OF 'estafettelaw03.VerbParses'. -/
def verbParsesCard : Claim7 := { stood := { row := verbParsesRow, standIns := [], harness := (true, "7dec35bff3c138d6c0ce7b02d55c41809e2f040d923974c5104cfeb35540d553"), looks := true }, kinds := [], alts := [], laidByText := true, laidKinds := [.data, .data, .data, .data, .sentinel, .sentinel, .pinned], laidTests := true, laidLooks := .later }
def VerbParsesCardSaid : Prop := Claim7.holds Tryd.pinned (.plain (OpenSpec.ofChange verbParsesSpec)) verbParsesCard

/-- THE TIED CARD OF 'estafettelaw03.VerbCases'. -/
def verbCasesCard : Claim7 := { stood := { row := verbCasesRow, standIns := [], harness := (true, "7dec35bff3c138d6c0ce7b02d55c41809e2f040d923974c5104cfeb35540d553"), looks := true }, kinds := [], alts := [], laidByText := true, laidKinds := [.data, .data, .data, .data, .sentinel, .sentinel, .pinned], laidTests := true, laidLooks := .later }
def VerbCasesCardSaid : Prop := Claim7.holds Tryd.pinned (.plain (OpenSpec.ofChange verbCasesSpec)) verbCasesCard

/-- THE TIED CARD OF 'estafettelaw03.VerbOptions'. -/
def verbOptionsCard : Claim7 := { stood := { row := verbOptionsRow, standIns := [], harness := (true, "7dec35bff3c138d6c0ce7b02d55c41809e2f040d923974c5104cfeb35540d553"), looks := true }, kinds := [], alts := [], laidByText := true, laidKinds := [.data, .data, .data, .data, .sentinel, .sentinel, .pinned], laidTests := true, laidLooks := .later }
def VerbOptionsCardSaid : Prop := Claim7.holds Tryd.pinned (.plain (OpenSpec.ofChange verbOptionsSpec)) verbOptionsCard

/-- THE TIED CARD OF 'estafettelaw03.VerbHello'. -/
def verbHelloCard : Claim7 := { stood := { row := verbHelloRow, standIns := [], harness := (true, "7dec35bff3c138d6c0ce7b02d55c41809e2f040d923974c5104cfeb35540d553"), looks := true }, kinds := [], alts := [], laidByText := true, laidKinds := [.data, .data, .data, .data, .sentinel, .sentinel, .pinned], laidTests := true, laidLooks := .later }
def VerbHelloCardSaid : Prop := Claim7.holds Tryd.pinned (.plain (OpenSpec.ofChange verbHelloSpec)) verbHelloCard

/-- THE TIED CARD OF 'estafettelaw14.TableParses'. -/
def tableParsesCard : Claim7 := { stood := { row := tableParsesRow, standIns := [], harness := (true, "7dec35bff3c138d6c0ce7b02d55c41809e2f040d923974c5104cfeb35540d553"), looks := true }, kinds := [], alts := [], laidByText := true, laidKinds := [.data, .data, .data, .data, .sentinel, .sentinel, .pinned], laidTests := true, laidLooks := .later }
def TableParsesCardSaid : Prop := Claim7.holds Tryd.pinned (.plain (OpenSpec.ofChange tableParsesSpec)) tableParsesCard

/-- THE TIED CARD OF 'estafettelaw14.TableMany'. -/
def tableManyCard : Claim7 := { stood := { row := tableManyRow, standIns := [], harness := (true, "7dec35bff3c138d6c0ce7b02d55c41809e2f040d923974c5104cfeb35540d553"), looks := true }, kinds := [], alts := [], laidByText := true, laidKinds := [.data, .data, .data, .data, .sentinel, .sentinel, .pinned], laidTests := true, laidLooks := .later }
def TableManyCardSaid : Prop := Claim7.holds Tryd.pinned (.plain (OpenSpec.ofChange tableManySpec)) tableManyCard

/-- THE TIED CARD OF 'estafettelaw14.TableCases'. -/
def tableCasesCard : Claim7 := { stood := { row := tableCasesRow, standIns := [], harness := (true, "7dec35bff3c138d6c0ce7b02d55c41809e2f040d923974c5104cfeb35540d553"), looks := true }, kinds := [], alts := [], laidByText := true, laidKinds := [.data, .data, .data, .data, .sentinel, .sentinel, .pinned], laidTests := true, laidLooks := .later }
def TableCasesCardSaid : Prop := Claim7.holds Tryd.pinned (.plain (OpenSpec.ofChange tableCasesSpec)) tableCasesCard

/-- THE TIED CARD OF 'estafettelaw14.TableSame'. -/
def tableSameCard : Claim7 := { stood := { row := tableSameRow, standIns := [], harness := (true, "7dec35bff3c138d6c0ce7b02d55c41809e2f040d923974c5104cfeb35540d553"), looks := true }, kinds := [], alts := [], laidByText := true, laidKinds := [.data, .data, .data, .data, .sentinel, .sentinel, .pinned], laidTests := true, laidLooks := .later }
def TableSameCardSaid : Prop := Claim7.holds Tryd.pinned (.plain (OpenSpec.ofChange tableSameSpec)) tableSameCard

/-- THE SECOND FORM's CARD OF 'estafettelaw03.VerbParses'. -/
def verbParsesUptoCard : Claim7 := { stood := { row := verbParsesUptoRow, standIns := [], harness := (true, "7dec35bff3c138d6c0ce7b02d55c41809e2f040d923974c5104cfeb35540d553"), looks := true }, kinds := [], alts := [], laidByText := true, laidKinds := [.data, .data, .data, .data, .sentinel, .sentinel, .pinned], laidTests := true, laidLooks := .later }
def VerbParsesUptoCardSaid : Prop := Claim7.holds Tryd.pinned (.plain (OpenSpec.upto verbParsesSpec)) verbParsesUptoCard

/-- THE SECOND FORM's CARD OF 'estafettelaw03.VerbCases'. -/
def verbCasesUptoCard : Claim7 := { stood := { row := verbCasesUptoRow, standIns := [], harness := (true, "7dec35bff3c138d6c0ce7b02d55c41809e2f040d923974c5104cfeb35540d553"), looks := true }, kinds := [], alts := [], laidByText := true, laidKinds := [.data, .data, .data, .data, .sentinel, .sentinel, .pinned], laidTests := true, laidLooks := .later }
def VerbCasesUptoCardSaid : Prop := Claim7.holds Tryd.pinned (.plain (OpenSpec.upto verbCasesSpec)) verbCasesUptoCard

/-- THE SECOND FORM's CARD OF 'estafettelaw03.VerbOptions'. -/
def verbOptionsUptoCard : Claim7 := { stood := { row := verbOptionsUptoRow, standIns := [], harness := (true, "7dec35bff3c138d6c0ce7b02d55c41809e2f040d923974c5104cfeb35540d553"), looks := true }, kinds := [], alts := [], laidByText := true, laidKinds := [.data, .data, .data, .data, .sentinel, .sentinel, .pinned], laidTests := true, laidLooks := .later }
def VerbOptionsUptoCardSaid : Prop := Claim7.holds Tryd.pinned (.plain (OpenSpec.upto verbOptionsSpec)) verbOptionsUptoCard

/-- THE SECOND FORM's CARD OF 'estafettelaw03.VerbHello'. -/
def verbHelloUptoCard : Claim7 := { stood := { row := verbHelloUptoRow, standIns := [], harness := (true, "7dec35bff3c138d6c0ce7b02d55c41809e2f040d923974c5104cfeb35540d553"), looks := true }, kinds := [], alts := [], laidByText := true, laidKinds := [.data, .data, .data, .data, .sentinel, .sentinel, .pinned], laidTests := true, laidLooks := .later }
def VerbHelloUptoCardSaid : Prop := Claim7.holds Tryd.pinned (.plain (OpenSpec.upto verbHelloSpec)) verbHelloUptoCard

/-- THE SECOND FORM's CARD OF 'estafettelaw14.TableParses'. -/
def tableParsesUptoCard : Claim7 := { stood := { row := tableParsesUptoRow, standIns := [], harness := (true, "7dec35bff3c138d6c0ce7b02d55c41809e2f040d923974c5104cfeb35540d553"), looks := true }, kinds := [], alts := [], laidByText := true, laidKinds := [.data, .data, .data, .data, .sentinel, .sentinel, .pinned], laidTests := true, laidLooks := .later }
def TableParsesUptoCardSaid : Prop := Claim7.holds Tryd.pinned (.plain (OpenSpec.upto tableParsesSpec)) tableParsesUptoCard

/-- THE SECOND FORM's CARD OF 'estafettelaw14.TableMany'. -/
def tableManyUptoCard : Claim7 := { stood := { row := tableManyUptoRow, standIns := [], harness := (true, "7dec35bff3c138d6c0ce7b02d55c41809e2f040d923974c5104cfeb35540d553"), looks := true }, kinds := [], alts := [], laidByText := true, laidKinds := [.data, .data, .data, .data, .sentinel, .sentinel, .pinned], laidTests := true, laidLooks := .later }
def TableManyUptoCardSaid : Prop := Claim7.holds Tryd.pinned (.plain (OpenSpec.upto tableManySpec)) tableManyUptoCard

/-- THE SECOND FORM's CARD OF 'estafettelaw14.TableCases'. -/
def tableCasesUptoCard : Claim7 := { stood := { row := tableCasesUptoRow, standIns := [], harness := (true, "7dec35bff3c138d6c0ce7b02d55c41809e2f040d923974c5104cfeb35540d553"), looks := true }, kinds := [], alts := [], laidByText := true, laidKinds := [.data, .data, .data, .data, .sentinel, .sentinel, .pinned], laidTests := true, laidLooks := .later }
def TableCasesUptoCardSaid : Prop := Claim7.holds Tryd.pinned (.plain (OpenSpec.upto tableCasesSpec)) tableCasesUptoCard

/-- THE SECOND FORM's CARD OF 'estafettelaw14.TableSame'. -/
def tableSameUptoCard : Claim7 := { stood := { row := tableSameUptoRow, standIns := [], harness := (true, "7dec35bff3c138d6c0ce7b02d55c41809e2f040d923974c5104cfeb35540d553"), looks := true }, kinds := [], alts := [], laidByText := true, laidKinds := [.data, .data, .data, .data, .sentinel, .sentinel, .pinned], laidTests := true, laidLooks := .later }
def TableSameUptoCardSaid : Prop := Claim7.holds Tryd.pinned (.plain (OpenSpec.upto tableSameSpec)) tableSameUptoCard
end Rows
end Go.Proofs.YtbakofbljfhoiaaDoor
