/-
  DERIVED. GIVEN WITH THE SEED: THE CARDS: each row of YtnpdmkbfphcioaaGreatDoorRows.lean that lists a variable, with what it lists TIED to the program's text (the seventh form; the later family's looks); each row that meets fmt, with fmt's text TOLD by the authors' own Lean function (tested against real Go, not proved from fmt's source: count such statements apart). THE CARD IS WHAT COUNTS. Prove the row's statement (the work); the ties are given (YtnpdmkbfphcioaaGreatDoorTie.lean); close each card by the builder's one call (the guide's Derived/Test/ToyasCard.lean, 'card_holds'). Laid BY PROGRAM, IN A SANDBOX (cutbox-door.mjs). By AI agents, Wed Nov 11 2026. No macro, syntax, notation, axiom, sorry.
-/
import Derived.Test.YtnpdmkbfphcioaaGreatDoorRows
import GoSem.ClaimSeven
namespace Go.Proofs.YtnpdmkbfphcioaaGreatDoor
namespace Rows

/-- THE TIED CARD OF 'estafettelaw11.EnvBack'. -/
def envBackCard : Claim7 := { stood := { row := envBackRow, standIns := [], harness := (true, "ae1615e400f5fbfb3a2f59b32729f9681abed71fd9e30e21d8d57a19bbac1114"), looks := true }, kinds := [], alts := [], laidByText := true, laidKinds := [.data, .data, .data, .data, .sentinel, .sentinel, .pinned], laidTests := true, laidLooks := .later }
def EnvBackCardSaid : Prop := Claim7.holds Tryz.pinned (.plain (OpenSpec.ofChange envBackSpec)) envBackCard

/-- THE TIED CARD OF 'estafettelaw11.EnvReads'. -/
def envReadsCard : Claim7 := { stood := { row := envReadsRow, standIns := [], harness := (true, "ae1615e400f5fbfb3a2f59b32729f9681abed71fd9e30e21d8d57a19bbac1114"), looks := true }, kinds := [], alts := [], laidByText := true, laidKinds := [.data, .data, .data, .data, .sentinel, .sentinel, .pinned], laidTests := true, laidLooks := .later }
def EnvReadsCardSaid : Prop := Claim7.holds Tryz.pinned (.plain (OpenSpec.ofChange envReadsSpec)) envReadsCard

/-- THE TIED CARD OF 'estafettelaw11.EnvNumbers'. -/
def envNumbersCard : Claim7 := { stood := { row := envNumbersRow, standIns := [], harness := (true, "ae1615e400f5fbfb3a2f59b32729f9681abed71fd9e30e21d8d57a19bbac1114"), looks := true }, kinds := [], alts := [], laidByText := true, laidKinds := [.data, .data, .data, .data, .sentinel, .sentinel, .pinned], laidTests := true, laidLooks := .later }
def EnvNumbersCardSaid : Prop := Claim7.holds Tryz.pinned (.plain (OpenSpec.ofChange envNumbersSpec)) envNumbersCard

/-- THE TIED CARD OF 'estafettelaw11.EnvGood'. -/
def envGoodCard : Claim7 := { stood := { row := envGoodRow, standIns := [], harness := (true, "ae1615e400f5fbfb3a2f59b32729f9681abed71fd9e30e21d8d57a19bbac1114"), looks := true }, kinds := [], alts := [], laidByText := true, laidKinds := [.data, .data, .data, .data, .sentinel, .sentinel, .pinned], laidTests := true, laidLooks := .later }
def EnvGoodCardSaid : Prop := Claim7.holds Tryz.pinned (.plain (OpenSpec.ofChange envGoodSpec)) envGoodCard

/-- THE TIED CARD OF 'estafettelaw14.TableLines'. -/
def tableLinesCard : Claim7 := { stood := { row := tableLinesRow, standIns := [], harness := (true, "ae1615e400f5fbfb3a2f59b32729f9681abed71fd9e30e21d8d57a19bbac1114"), looks := true }, kinds := [], alts := [], laidByText := true, laidKinds := [.data, .data, .data, .data, .sentinel, .sentinel, .pinned], laidTests := true, laidLooks := .later }
def TableLinesCardSaid : Prop := Claim7.holds Tryz.pinned (.plain (OpenSpec.ofChange tableLinesSpec)) tableLinesCard

/-- THE TIED CARD OF 'estafettelaw13.TurnBoth'. -/
def turnBothCard : Claim7 := { stood := { row := turnBothRow, standIns := [], harness := (true, "ae1615e400f5fbfb3a2f59b32729f9681abed71fd9e30e21d8d57a19bbac1114"), looks := true }, kinds := [], alts := [], laidByText := true, laidKinds := [.data, .data, .data, .data, .sentinel, .sentinel, .pinned], laidTests := true, laidLooks := .later }
def TurnBothCardSaid : Prop := Claim7.holds Tryz.pinned (.plain (OpenSpec.ofChange turnBothSpec)) turnBothCard

/-- THE TIED CARD OF 'estafettelaw13.TurnKeeps'. -/
def turnKeepsCard : Claim7 := { stood := { row := turnKeepsRow, standIns := [], harness := (true, "ae1615e400f5fbfb3a2f59b32729f9681abed71fd9e30e21d8d57a19bbac1114"), looks := true }, kinds := [], alts := [], laidByText := true, laidKinds := [.data, .data, .data, .data, .sentinel, .sentinel, .pinned], laidTests := true, laidLooks := .later }
def TurnKeepsCardSaid : Prop := Claim7.holds Tryz.pinned (.plain (OpenSpec.ofChange turnKeepsSpec)) turnKeepsCard

/-- THE SECOND FORM's CARD OF 'estafettelaw11.EnvBack'. -/
def envBackUptoCard : Claim7 := { stood := { row := envBackUptoRow, standIns := [], harness := (true, "ae1615e400f5fbfb3a2f59b32729f9681abed71fd9e30e21d8d57a19bbac1114"), looks := true }, kinds := [], alts := [], laidByText := true, laidKinds := [.data, .data, .data, .data, .sentinel, .sentinel, .pinned], laidTests := true, laidLooks := .later }
def EnvBackUptoCardSaid : Prop := Claim7.holds Tryz.pinned (.plain (OpenSpec.upto envBackSpec)) envBackUptoCard

/-- THE SECOND FORM's CARD OF 'estafettelaw11.EnvReads'. -/
def envReadsUptoCard : Claim7 := { stood := { row := envReadsUptoRow, standIns := [], harness := (true, "ae1615e400f5fbfb3a2f59b32729f9681abed71fd9e30e21d8d57a19bbac1114"), looks := true }, kinds := [], alts := [], laidByText := true, laidKinds := [.data, .data, .data, .data, .sentinel, .sentinel, .pinned], laidTests := true, laidLooks := .later }
def EnvReadsUptoCardSaid : Prop := Claim7.holds Tryz.pinned (.plain (OpenSpec.upto envReadsSpec)) envReadsUptoCard

/-- THE SECOND FORM's CARD OF 'estafettelaw11.EnvNumbers'. -/
def envNumbersUptoCard : Claim7 := { stood := { row := envNumbersUptoRow, standIns := [], harness := (true, "ae1615e400f5fbfb3a2f59b32729f9681abed71fd9e30e21d8d57a19bbac1114"), looks := true }, kinds := [], alts := [], laidByText := true, laidKinds := [.data, .data, .data, .data, .sentinel, .sentinel, .pinned], laidTests := true, laidLooks := .later }
def EnvNumbersUptoCardSaid : Prop := Claim7.holds Tryz.pinned (.plain (OpenSpec.upto envNumbersSpec)) envNumbersUptoCard

/-- THE SECOND FORM's CARD OF 'estafettelaw11.EnvGood'. -/
def envGoodUptoCard : Claim7 := { stood := { row := envGoodUptoRow, standIns := [], harness := (true, "ae1615e400f5fbfb3a2f59b32729f9681abed71fd9e30e21d8d57a19bbac1114"), looks := true }, kinds := [], alts := [], laidByText := true, laidKinds := [.data, .data, .data, .data, .sentinel, .sentinel, .pinned], laidTests := true, laidLooks := .later }
def EnvGoodUptoCardSaid : Prop := Claim7.holds Tryz.pinned (.plain (OpenSpec.upto envGoodSpec)) envGoodUptoCard

/-- THE SECOND FORM's CARD OF 'estafettelaw14.TableLines'. -/
def tableLinesUptoCard : Claim7 := { stood := { row := tableLinesUptoRow, standIns := [], harness := (true, "ae1615e400f5fbfb3a2f59b32729f9681abed71fd9e30e21d8d57a19bbac1114"), looks := true }, kinds := [], alts := [], laidByText := true, laidKinds := [.data, .data, .data, .data, .sentinel, .sentinel, .pinned], laidTests := true, laidLooks := .later }
def TableLinesUptoCardSaid : Prop := Claim7.holds Tryz.pinned (.plain (OpenSpec.upto tableLinesSpec)) tableLinesUptoCard

/-- THE SECOND FORM's CARD OF 'estafettelaw13.TurnBoth'. -/
def turnBothUptoCard : Claim7 := { stood := { row := turnBothUptoRow, standIns := [], harness := (true, "ae1615e400f5fbfb3a2f59b32729f9681abed71fd9e30e21d8d57a19bbac1114"), looks := true }, kinds := [], alts := [], laidByText := true, laidKinds := [.data, .data, .data, .data, .sentinel, .sentinel, .pinned], laidTests := true, laidLooks := .later }
def TurnBothUptoCardSaid : Prop := Claim7.holds Tryz.pinned (.plain (OpenSpec.upto turnBothSpec)) turnBothUptoCard

/-- THE SECOND FORM's CARD OF 'estafettelaw13.TurnKeeps'. -/
def turnKeepsUptoCard : Claim7 := { stood := { row := turnKeepsUptoRow, standIns := [], harness := (true, "ae1615e400f5fbfb3a2f59b32729f9681abed71fd9e30e21d8d57a19bbac1114"), looks := true }, kinds := [], alts := [], laidByText := true, laidKinds := [.data, .data, .data, .data, .sentinel, .sentinel, .pinned], laidTests := true, laidLooks := .later }
def TurnKeepsUptoCardSaid : Prop := Claim7.holds Tryz.pinned (.plain (OpenSpec.upto turnKeepsSpec)) turnKeepsUptoCard
end Rows
end Go.Proofs.YtnpdmkbfphcioaaGreatDoor
