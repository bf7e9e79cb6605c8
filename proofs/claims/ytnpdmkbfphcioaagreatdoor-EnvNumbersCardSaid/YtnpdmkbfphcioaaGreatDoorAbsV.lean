/- A program logic over abstract states, 22: from the logic to a call of the model. -/
import Derived.Test.YtnpdmkbfphcioaaGreatDoorAbsU
namespace Go.Abs
open Go Go.RowKit
set_option linter.unusedVariables false

/-- All cells that stand when the call begins, for good. -/
def Con.start (W : World) : Con := ⟨fun b o => W.cell? ⟨b, o, none⟩, fun _ => none, fun _ _ => none⟩
def AH.start : AH := ⟨fun _ => none, 0, fun _ => 0, 0, fun _ => none⟩
theorem WR.start (W : World) : WR W (Con.start W) AH.start W where
  below := Below.refl _ _
  fcell := fun h => h
  obj := fun h => by cases h
  inj := fun h => by cases h
  rlt := fun h => by cases h
  tok := fun h => by cases h
  tinj := fun h => by cases h
  tnew := fun h => by cases h

theorem adequate {P : Program} {W : World} {f : FuncId} {args : Array Value} {vs : List AV} {r : Value} (hc : Call P W f vs AH.start fun v _ => v = .v r) (hv : RVs (Con.start W) vs args.toList) : Calls P f args W fun e W' => e = .returned r ∧ Below W.heap.size W W' := by
  have := hc.2 (Con.start W) W args.toList (WR.start W) hv
  simp only [Array.toArray_toList] at this
  refine this.mono fun e W' hh => ?_
  obtain ⟨x, Γ', v, h', rfl, _, hr, HW, rfl⟩ := hh
  cases hr
  exact ⟨rfl, HW.below⟩
end Go.Abs
