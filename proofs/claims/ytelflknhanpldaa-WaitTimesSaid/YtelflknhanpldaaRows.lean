/-
  No cell of these rows narrows 'for every input' (looked for: loops, veiled, ifaces, maps, wideKeys, modest, calm, conditions, laid).
  DERIVED. THE GIVEN ROWS OF THIS SEAT. 3 by the template 'for every input the law returns true; each argument reads behind the call as it read before'; 0 by the template 'total and deterministic' (their statements: YtelflknhanpldaaTotals.lean).
  GIVEN WITH THE SEED: the statements are not yours to turn. If you find one false, say at which input.
  Laid BY PROGRAM, IN A SANDBOX (cutbox-rows.mjs): the forced cells as the released guide's own fill.sh prints them over the translation e077c45643c31e83… (all of the seat's roots in one cut). By AI agents, Wed Nov 11 2026. No macro, syntax, notation, axiom, sorry.
-/
import Derived.Test.YtelflknhanpldaaChecked
import GoSem.Claim
import GoSem.ClaimJoined
import GoSem.ClaimMapViews
import Derived.JoinedTies
import Derived.KernelRfl
namespace Go.Proofs.Ytelflknhanpldaa
/- THE CELL 'sum', in the pinned program and in every row, IS THE sha256 OF THE DUMP (.gsa) THAT YtelflknhanpldaaProg.lean LOADS. Nothing in Lean hashes anything: it is a label: what it is worth is what the hold of that sum in a sandbox is worth. -/
noncomputable def Try.pinned : Pinned := { name := "ytelflknhanpldaa", sum := "e077c45643c31e8361b1ea5d32a5e9a494e61a0ea4d4ac2a0f5952faffafd5e7", checked := Try.checked }
namespace Rows
def none {H : Type} : Left H := { results := [], args := [] }

/-- 'estafettelaw19.WaitTimes': WHATEVER THE INPUT: true; the input reads as it did. -/
def waitTimesSpec : ChangeSpec := { name := "waitTimes", fn := fun _ => fun
  | [d1, d2, d3] => { results := [.lit (.bool true)], args := [d1, d2, d3] }
  | _ => none }
def waitTimesRow : OpenClaim := { program := "ytelflknhanpldaa", sum := "e077c45643c31e8361b1ea5d32a5e9a494e61a0ea4d4ac2a0f5952faffafd5e7", func := "estafette/estafettelaw19.WaitTimes", spec := "waitTimes", apart := false }
def WaitTimesSaid : Prop := waitTimesRow.holds Try.pinned (OpenSpec.ofChange waitTimesSpec)

/-- ITS FALSE NEIGHBOUR: 'it returns false'. Refute it at one input. -/
def waitTimesWrong : ChangeSpec := { name := "waitTimes", fn := fun _ => fun
  | [d1, d2, d3] => { results := [.lit (.bool false)], args := [d1, d2, d3] }
  | _ => none }
def WaitTimesWrongFalsely : Prop := waitTimesRow.holds Try.pinned (OpenSpec.ofChange waitTimesWrong)

/-- 'estafettelaw19.WaitGrows': WHATEVER THE INPUT: true; the input reads as it did. -/
def waitGrowsSpec : ChangeSpec := { name := "waitGrows", fn := fun _ => fun
  | [d1, d2] => { results := [.lit (.bool true)], args := [d1, d2] }
  | _ => none }
def waitGrowsRow : OpenClaim := { program := "ytelflknhanpldaa", sum := "e077c45643c31e8361b1ea5d32a5e9a494e61a0ea4d4ac2a0f5952faffafd5e7", func := "estafette/estafettelaw19.WaitGrows", spec := "waitGrows", apart := false }
def WaitGrowsSaid : Prop := waitGrowsRow.holds Try.pinned (OpenSpec.ofChange waitGrowsSpec)

/-- ITS FALSE NEIGHBOUR: 'it returns false'. Refute it at one input. -/
def waitGrowsWrong : ChangeSpec := { name := "waitGrows", fn := fun _ => fun
  | [d1, d2] => { results := [.lit (.bool false)], args := [d1, d2] }
  | _ => none }
def WaitGrowsWrongFalsely : Prop := waitGrowsRow.holds Try.pinned (OpenSpec.ofChange waitGrowsWrong)

/-- 'estafettelaw19.WaitUntil': WHATEVER THE INPUT: true; the input reads as it did. -/
def waitUntilSpec : ChangeSpec := { name := "waitUntil", fn := fun _ => fun
  | [d] => { results := [.lit (.bool true)], args := [d] }
  | _ => none }
def waitUntilRow : OpenClaim := { program := "ytelflknhanpldaa", sum := "e077c45643c31e8361b1ea5d32a5e9a494e61a0ea4d4ac2a0f5952faffafd5e7", func := "estafette/estafettelaw19.WaitUntil", spec := "waitUntil", apart := false }
def WaitUntilSaid : Prop := waitUntilRow.holds Try.pinned (OpenSpec.ofChange waitUntilSpec)

/-- ITS FALSE NEIGHBOUR: 'it returns false'. Refute it at one input. -/
def waitUntilWrong : ChangeSpec := { name := "waitUntil", fn := fun _ => fun
  | [d] => { results := [.lit (.bool false)], args := [d] }
  | _ => none }
def WaitUntilWrongFalsely : Prop := waitUntilRow.holds Try.pinned (OpenSpec.ofChange waitUntilWrong)

/- THE SECOND FORM. 'bulk': how many values and letters a reading holds, each counted each time it is reached (what is shared counts as often as it is met; a slice's spare places count too). A statement '..UptoSaid' is the law's where the arguments, and the package variables that the reading takes, are together of bulk at most 1048576: NARROWER than '..Said'. Prove '..Said' where nothing that the law and all that it calls make is longer than what came in: it says more and counts as full. Else prove '..UptoSaid'. A law counts once. -/
mutual
def uptoBulk {H : Type} : DataW H → Nat
  | .lit (.string bytes) => bytes.length + 1
  | .lit _ => 1
  | .nil => 1
  | .ptr d => uptoBulk d + 1
  | .slice elems spare => uptoBulkAll elems + uptoBulkAll spare + 1
  | .agg parts => uptoBulkAll parts + 1
  | .iface _ d => uptoBulk d + 1
  | .map entries => uptoBulkEntries entries + 1
  | .held _ => 1
def uptoBulkAll {H : Type} : List (DataW H) → Nat
  | [] => 0
  | d :: r => uptoBulk d + uptoBulkAll r
def uptoBulkEntries {H : Type} : List (Lit × DataW H) → Nat
  | [] => 0
  | x :: r => uptoBulkEntry x + uptoBulkEntries r
def uptoBulkEntry {H : Type} : Lit × DataW H → Nat
  | (.string bytes, d) => bytes.length + uptoBulk d + 1
  | (_, d) => uptoBulk d + 1
 end
def uptoSmall : (H : Type) → List (DataW H) → Bool := fun _ ds => decide (uptoBulkAll ds ≤ 1048576)
def OpenSpec.upto (s : _root_.Go.ChangeSpec) : _root_.Go.OpenSpec := { _root_.Go.OpenSpec.ofChange s with cond := some uptoSmall }

/-- 'estafettelaw19.WaitTimes', WHERE WHAT IT READS IS OF BULK AT MOST 1048576: true; the input reads as it did. -/
def waitTimesUptoRow : OpenClaim := { program := "ytelflknhanpldaa", sum := "e077c45643c31e8361b1ea5d32a5e9a494e61a0ea4d4ac2a0f5952faffafd5e7", func := "estafette/estafettelaw19.WaitTimes", spec := "waitTimes", apart := false, narrowed := true }
def WaitTimesUptoSaid : Prop := waitTimesUptoRow.holds Try.pinned (OpenSpec.upto waitTimesSpec)

/-- 'estafettelaw19.WaitGrows', WHERE WHAT IT READS IS OF BULK AT MOST 1048576: true; the input reads as it did. -/
def waitGrowsUptoRow : OpenClaim := { program := "ytelflknhanpldaa", sum := "e077c45643c31e8361b1ea5d32a5e9a494e61a0ea4d4ac2a0f5952faffafd5e7", func := "estafette/estafettelaw19.WaitGrows", spec := "waitGrows", apart := false, narrowed := true }
def WaitGrowsUptoSaid : Prop := waitGrowsUptoRow.holds Try.pinned (OpenSpec.upto waitGrowsSpec)

/-- 'estafettelaw19.WaitUntil', WHERE WHAT IT READS IS OF BULK AT MOST 1048576: true; the input reads as it did. -/
def waitUntilUptoRow : OpenClaim := { program := "ytelflknhanpldaa", sum := "e077c45643c31e8361b1ea5d32a5e9a494e61a0ea4d4ac2a0f5952faffafd5e7", func := "estafette/estafettelaw19.WaitUntil", spec := "waitUntil", apart := false, narrowed := true }
def WaitUntilUptoSaid : Prop := waitUntilUptoRow.holds Try.pinned (OpenSpec.upto waitUntilSpec)

end Rows
end Go.Proofs.Ytelflknhanpldaa
