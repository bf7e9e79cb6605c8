/-
  DERIVED. GIVEN WITH THE SEED: THE CARDS: each row of YthmfeheegoalfaaDoorRows.lean that lists a variable, with what it lists TIED to the program's text (the seventh form; the later family's looks); each row that meets fmt, with fmt's text TOLD by the authors' own Lean function (tested against real Go, not proved from fmt's source: count such statements apart). THE CARD IS WHAT COUNTS. Prove the row's statement (the work); the ties are given (YthmfeheegoalfaaDoorTie.lean); close each card by the builder's one call (the guide's Derived/Test/ToyasCard.lean, 'card_holds'). Laid BY PROGRAM, IN A SANDBOX (cutbox-door.mjs). By AI agents, Wed Nov 11 2026. No macro, syntax, notation, axiom, sorry.
-/
import Derived.Test.YthmfeheegoalfaaDoorRows
import GoSem.ClaimSeven
namespace Go.Proofs.YthmfeheegoalfaaDoor
namespace Rows

/-- THE TIED CARD OF 'estafettelaw26.ScriptBack'. -/
def scriptBackCard : Claim7 := { stood := { row := scriptBackRow, standIns := [], harness := (true, "5b183e68e256c889b517ea7e226c3969adec4bf2d19287b7069d82fa7bafd6da"), looks := true }, kinds := [], alts := [], laidByText := true, laidKinds := [.data, .data, .data, .data, .sentinel, .sentinel, .pinned], laidTests := true, laidLooks := .later }
def ScriptBackCardSaid : Prop := Claim7.holds Tryd.pinned (.plain (OpenSpec.ofChange scriptBackSpec)) scriptBackCard

/-- THE TIED CARD OF 'estafettelaw26.ScriptReads'. -/
def scriptReadsCard : Claim7 := { stood := { row := scriptReadsRow, standIns := [], harness := (true, "5b183e68e256c889b517ea7e226c3969adec4bf2d19287b7069d82fa7bafd6da"), looks := true }, kinds := [], alts := [], laidByText := true, laidKinds := [.data, .data, .data, .data, .sentinel, .sentinel, .pinned], laidTests := true, laidLooks := .later }
def ScriptReadsCardSaid : Prop := Claim7.holds Tryd.pinned (.plain (OpenSpec.ofChange scriptReadsSpec)) scriptReadsCard

/-- THE TIED CARD OF 'estafettelaw26.ScriptLine'. -/
def scriptLineCard : Claim7 := { stood := { row := scriptLineRow, standIns := [], harness := (true, "5b183e68e256c889b517ea7e226c3969adec4bf2d19287b7069d82fa7bafd6da"), looks := true }, kinds := [], alts := [], laidByText := true, laidKinds := [.data, .data, .data, .data, .sentinel, .sentinel, .pinned], laidTests := true, laidLooks := .later }
def ScriptLineCardSaid : Prop := Claim7.holds Tryd.pinned (.plain (OpenSpec.ofChange scriptLineSpec)) scriptLineCard

/-- THE TIED CARD OF 'estafettelaw26.ScriptBytes'. -/
def scriptBytesCard : Claim7 := { stood := { row := scriptBytesRow, standIns := [], harness := (true, "5b183e68e256c889b517ea7e226c3969adec4bf2d19287b7069d82fa7bafd6da"), looks := true }, kinds := [], alts := [], laidByText := true, laidKinds := [.data, .data, .data, .data, .sentinel, .sentinel, .pinned], laidTests := true, laidLooks := .later }
def ScriptBytesCardSaid : Prop := Claim7.holds Tryd.pinned (.plain (OpenSpec.ofChange scriptBytesSpec)) scriptBytesCard

/-- THE TIED CARD OF 'estafettelaw26.ScriptEnds'. -/
def scriptEndsCard : Claim7 := { stood := { row := scriptEndsRow, standIns := [], harness := (true, "5b183e68e256c889b517ea7e226c3969adec4bf2d19287b7069d82fa7bafd6da"), looks := true }, kinds := [], alts := [], laidByText := true, laidKinds := [.data, .data, .data, .data, .sentinel, .sentinel, .pinned], laidTests := true, laidLooks := .later }
def ScriptEndsCardSaid : Prop := Claim7.holds Tryd.pinned (.plain (OpenSpec.ofChange scriptEndsSpec)) scriptEndsCard

/-- THE SECOND FORM's CARD OF 'estafettelaw26.ScriptBack'. -/
def scriptBackUptoCard : Claim7 := { stood := { row := scriptBackUptoRow, standIns := [], harness := (true, "5b183e68e256c889b517ea7e226c3969adec4bf2d19287b7069d82fa7bafd6da"), looks := true }, kinds := [], alts := [], laidByText := true, laidKinds := [.data, .data, .data, .data, .sentinel, .sentinel, .pinned], laidTests := true, laidLooks := .later }
def ScriptBackUptoCardSaid : Prop := Claim7.holds Tryd.pinned (.plain (OpenSpec.upto scriptBackSpec)) scriptBackUptoCard

/-- THE SECOND FORM's CARD OF 'estafettelaw26.ScriptReads'. -/
def scriptReadsUptoCard : Claim7 := { stood := { row := scriptReadsUptoRow, standIns := [], harness := (true, "5b183e68e256c889b517ea7e226c3969adec4bf2d19287b7069d82fa7bafd6da"), looks := true }, kinds := [], alts := [], laidByText := true, laidKinds := [.data, .data, .data, .data, .sentinel, .sentinel, .pinned], laidTests := true, laidLooks := .later }
def ScriptReadsUptoCardSaid : Prop := Claim7.holds Tryd.pinned (.plain (OpenSpec.upto scriptReadsSpec)) scriptReadsUptoCard

/-- THE SECOND FORM's CARD OF 'estafettelaw26.ScriptLine'. -/
def scriptLineUptoCard : Claim7 := { stood := { row := scriptLineUptoRow, standIns := [], harness := (true, "5b183e68e256c889b517ea7e226c3969adec4bf2d19287b7069d82fa7bafd6da"), looks := true }, kinds := [], alts := [], laidByText := true, laidKinds := [.data, .data, .data, .data, .sentinel, .sentinel, .pinned], laidTests := true, laidLooks := .later }
def ScriptLineUptoCardSaid : Prop := Claim7.holds Tryd.pinned (.plain (OpenSpec.upto scriptLineSpec)) scriptLineUptoCard

/-- THE SECOND FORM's CARD OF 'estafettelaw26.ScriptBytes'. -/
def scriptBytesUptoCard : Claim7 := { stood := { row := scriptBytesUptoRow, standIns := [], harness := (true, "5b183e68e256c889b517ea7e226c3969adec4bf2d19287b7069d82fa7bafd6da"), looks := true }, kinds := [], alts := [], laidByText := true, laidKinds := [.data, .data, .data, .data, .sentinel, .sentinel, .pinned], laidTests := true, laidLooks := .later }
def ScriptBytesUptoCardSaid : Prop := Claim7.holds Tryd.pinned (.plain (OpenSpec.upto scriptBytesSpec)) scriptBytesUptoCard

/-- THE SECOND FORM's CARD OF 'estafettelaw26.ScriptEnds'. -/
def scriptEndsUptoCard : Claim7 := { stood := { row := scriptEndsUptoRow, standIns := [], harness := (true, "5b183e68e256c889b517ea7e226c3969adec4bf2d19287b7069d82fa7bafd6da"), looks := true }, kinds := [], alts := [], laidByText := true, laidKinds := [.data, .data, .data, .data, .sentinel, .sentinel, .pinned], laidTests := true, laidLooks := .later }
def ScriptEndsUptoCardSaid : Prop := Claim7.holds Tryd.pinned (.plain (OpenSpec.upto scriptEndsSpec)) scriptEndsUptoCard
end Rows
end Go.Proofs.YthmfeheegoalfaaDoor
