/- What the proof needs, part 18: bytes.Clone of no bytes; slices.Clone of no strings. -/
import Derived.WalkKit
import Derived.Lib.SliceRun
import Derived.Test.YtlmgpkopcgcbgaaGreatDoorProg
import Derived.Test.YtlmgpkopcgcbgaaGreatDoorQServeParts5
/- bytes.Clone of no bytes. -/
set_option linter.unusedVariables false
namespace Go.Proofs.YtlmgpkopcgcbgaaGreatDoorClz
open Go Go.RowKit
set_option maxHeartbeats 1000000
set_option maxRecDepth 100000
theorem clone_zero (base : Option Addr) (c : Nat) (w : World) : Calls Tryz.prog 56 #[.slice base 0 c] w fun e w' => (∃ b', e = .returned (.slice b' 0 0)) ∧ Below w.heap.size w w' := by
  have u3 := run_underlying Tryz.underlying22
  have u5 := run_underlying Tryz.underlying5
  have q : ∀ (w : World) (a : Option Addr) (n c n' c' : Nat), (binOp .eql 22 (.slice a n c) (.slice none n' c')).run Tryz.prog w = .ok (.bool a.isNone) w := fun w a n c n' c' => Lib.run_eql_slice_nil w _ _ a n c n' c' Tryz.underlying22
  have mixed : Tryz.prog.follows .mixedOrders = true := by kernel_rfl
  cases base with
  | none =>
    go_enter Tryz.func56, Tryz.ntmps56
    go_wp2
    go_ret
    exact ⟨⟨_, rfl⟩, .refl _ _⟩
  | some a =>
    go_enter Tryz.func56, Tryz.ntmps56
    go_wp2
    go_ret
    exact ⟨⟨_, rfl⟩, (Below.refl w.heap.size w).alloc (Nat.le_refl _) _⟩
end Go.Proofs.YtlmgpkopcgcbgaaGreatDoorClz
/- slices.Clone of no strings. -/
set_option linter.unusedVariables false
namespace Go.Proofs.YtlmgpkopcgcbgaaGreatDoorSlz
open Go Go.RowKit
set_option maxHeartbeats 1000000
set_option maxRecDepth 100000
theorem sclone_zero (base : Option Addr) (c : Nat) (w : World) : Calls Tryz.prog 34 #[.slice base 0 c] w fun e w' => (∃ b', e = .returned (.slice b' 0 0)) ∧ Below w.heap.size w w' := by
  have u3 := run_underlying Tryz.underlying31
  have u5 := run_underlying Tryz.underlying9
  have q : ∀ (w : World) (a : Option Addr) (n c n' c' : Nat), (binOp .eql 31 (.slice a n c) (.slice none n' c')).run Tryz.prog w = .ok (.bool a.isNone) w := fun w a n c n' c' => Lib.run_eql_slice_nil w _ _ a n c n' c' Tryz.underlying31
  have mixed : Tryz.prog.follows .mixedOrders = true := by kernel_rfl
  cases base with
  | none =>
    go_enter Tryz.func34, Tryz.ntmps34
    go_wp2
    go_ret
    exact ⟨⟨_, rfl⟩, .refl _ _⟩
  | some a =>
    go_enter Tryz.func34, Tryz.ntmps34
    go_wp2
    go_ret
    exact ⟨⟨_, rfl⟩, (Below.refl w.heap.size w).alloc (Nat.le_refl _) _⟩
end Go.Proofs.YtlmgpkopcgcbgaaGreatDoorSlz
