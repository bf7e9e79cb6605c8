/-
  DERIVED. GIVEN WITH THE SEED: THE CARDS: each row of YtelflknhanpldaaDoorRows.lean that lists a variable, with what it lists TIED to the program's text (the seventh form; the later family's looks); each row that meets fmt, with fmt's text TOLD by the authors' own Lean function (tested against real Go, not proved from fmt's source: count such statements apart). THE CARD IS WHAT COUNTS. Prove the row's statement (the work); the ties are given (YtelflknhanpldaaDoorTie.lean); close each card by the builder's one call (the guide's Derived/Test/ToyasCard.lean, 'card_holds'). Laid BY PROGRAM, IN A SANDBOX (cutbox-door.mjs). By AI agents, Wed Nov 11 2026. No macro, syntax, notation, axiom, sorry.
-/
import Derived.Test.YtelflknhanpldaaDoorRows
import GoSem.ClaimSeven
namespace Go.Proofs.YtelflknhanpldaaDoor
namespace Rows

/-- THE TIED CARD OF 'estafettelaw04.ReplyReads'. -/
def replyReadsCard : Claim7 := { stood := { row := replyReadsRow, standIns := [], harness := (true, "acbaec94cc8aa3b5000d635579144643b173051dd5e428c9980bbf1930fbc176"), looks := true }, kinds := [], alts := [], laidByText := true, laidKinds := [.data, .data, .data, .sentinel, .sentinel], laidTests := true, laidLooks := .later }
def ReplyReadsCardSaid : Prop := Claim7.holds Tryd.pinned (.plain (OpenSpec.ofChange replyReadsSpec)) replyReadsCard

/-- THE TIED CARD OF 'estafettelaw04.ReplyNone'. -/
def replyNoneCard : Claim7 := { stood := { row := replyNoneRow, standIns := [], harness := (true, "acbaec94cc8aa3b5000d635579144643b173051dd5e428c9980bbf1930fbc176"), looks := true }, kinds := [], alts := [], laidByText := true, laidKinds := [.data, .data, .data, .sentinel, .sentinel], laidTests := true, laidLooks := .later }
def ReplyNoneCardSaid : Prop := Claim7.holds Tryd.pinned (.plain (OpenSpec.ofChange replyNoneSpec)) replyNoneCard

/-- THE TIED CARD OF 'estafettelaw04.ReplyAgain'. -/
def replyAgainCard : Claim7 := { stood := { row := replyAgainRow, standIns := [], harness := (true, "acbaec94cc8aa3b5000d635579144643b173051dd5e428c9980bbf1930fbc176"), looks := true }, kinds := [], alts := [], laidByText := true, laidKinds := [.data, .data, .data, .sentinel, .sentinel], laidTests := true, laidLooks := .later }
def ReplyAgainCardSaid : Prop := Claim7.holds Tryd.pinned (.plain (OpenSpec.ofChange replyAgainSpec)) replyAgainCard

/-- THE TIED CARD OF 'estafettelaw04.ReplyBack'. -/
def replyBackCard : Claim7 := { stood := { row := replyBackRow, standIns := [], harness := (true, "acbaec94cc8aa3b5000d635579144643b173051dd5e428c9980bbf1930fbc176"), looks := true }, kinds := [], alts := [], laidByText := true, laidKinds := [.data, .data, .data, .sentinel, .sentinel], laidTests := true, laidLooks := .later }
def ReplyBackCardSaid : Prop := Claim7.holds Tryd.pinned (.plain (OpenSpec.ofChange replyBackSpec)) replyBackCard

/-- THE TIED CARD OF 'estafettelaw04.ReplyFormats'. -/
def replyFormatsCard : Claim7 := { stood := { row := replyFormatsRow, standIns := [], harness := (true, "acbaec94cc8aa3b5000d635579144643b173051dd5e428c9980bbf1930fbc176"), looks := true }, kinds := [], alts := [], laidByText := true, laidKinds := [.data, .data, .data, .sentinel, .sentinel], laidTests := true, laidLooks := .later }
def ReplyFormatsCardSaid : Prop := Claim7.holds Tryd.pinned (.plain (OpenSpec.ofChange replyFormatsSpec)) replyFormatsCard

/-- THE SECOND FORM's CARD OF 'estafettelaw04.ReplyReads'. -/
def replyReadsUptoCard : Claim7 := { stood := { row := replyReadsUptoRow, standIns := [], harness := (true, "acbaec94cc8aa3b5000d635579144643b173051dd5e428c9980bbf1930fbc176"), looks := true }, kinds := [], alts := [], laidByText := true, laidKinds := [.data, .data, .data, .sentinel, .sentinel], laidTests := true, laidLooks := .later }
def ReplyReadsUptoCardSaid : Prop := Claim7.holds Tryd.pinned (.plain (OpenSpec.upto replyReadsSpec)) replyReadsUptoCard

/-- THE SECOND FORM's CARD OF 'estafettelaw04.ReplyNone'. -/
def replyNoneUptoCard : Claim7 := { stood := { row := replyNoneUptoRow, standIns := [], harness := (true, "acbaec94cc8aa3b5000d635579144643b173051dd5e428c9980bbf1930fbc176"), looks := true }, kinds := [], alts := [], laidByText := true, laidKinds := [.data, .data, .data, .sentinel, .sentinel], laidTests := true, laidLooks := .later }
def ReplyNoneUptoCardSaid : Prop := Claim7.holds Tryd.pinned (.plain (OpenSpec.upto replyNoneSpec)) replyNoneUptoCard

/-- THE SECOND FORM's CARD OF 'estafettelaw04.ReplyAgain'. -/
def replyAgainUptoCard : Claim7 := { stood := { row := replyAgainUptoRow, standIns := [], harness := (true, "acbaec94cc8aa3b5000d635579144643b173051dd5e428c9980bbf1930fbc176"), looks := true }, kinds := [], alts := [], laidByText := true, laidKinds := [.data, .data, .data, .sentinel, .sentinel], laidTests := true, laidLooks := .later }
def ReplyAgainUptoCardSaid : Prop := Claim7.holds Tryd.pinned (.plain (OpenSpec.upto replyAgainSpec)) replyAgainUptoCard

/-- THE SECOND FORM's CARD OF 'estafettelaw04.ReplyBack'. -/
def replyBackUptoCard : Claim7 := { stood := { row := replyBackUptoRow, standIns := [], harness := (true, "acbaec94cc8aa3b5000d635579144643b173051dd5e428c9980bbf1930fbc176"), looks := true }, kinds := [], alts := [], laidByText := true, laidKinds := [.data, .data, .data, .sentinel, .sentinel], laidTests := true, laidLooks := .later }
def ReplyBackUptoCardSaid : Prop := Claim7.holds Tryd.pinned (.plain (OpenSpec.upto replyBackSpec)) replyBackUptoCard

/-- THE SECOND FORM's CARD OF 'estafettelaw04.ReplyFormats'. -/
def replyFormatsUptoCard : Claim7 := { stood := { row := replyFormatsUptoRow, standIns := [], harness := (true, "acbaec94cc8aa3b5000d635579144643b173051dd5e428c9980bbf1930fbc176"), looks := true }, kinds := [], alts := [], laidByText := true, laidKinds := [.data, .data, .data, .sentinel, .sentinel], laidTests := true, laidLooks := .later }
def ReplyFormatsUptoCardSaid : Prop := Claim7.holds Tryd.pinned (.plain (OpenSpec.upto replyFormatsSpec)) replyFormatsUptoCard
end Rows
end Go.Proofs.YtelflknhanpldaaDoor
