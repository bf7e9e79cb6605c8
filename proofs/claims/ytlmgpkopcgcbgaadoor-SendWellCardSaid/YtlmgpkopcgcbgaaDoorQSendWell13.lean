/- What the proof needs, part 13: bytes.Clone of no bytes; slices.Clone of no strings. -/
import Derived.WalkKit
import Derived.Lib.SliceRun
import Derived.Test.YtlmgpkopcgcbgaaDoorProg
import Derived.Test.YtlmgpkopcgcbgaaDoorQSendWell5
/- bytes.Clone of no bytes. -/
set_option linter.unusedVariables false
namespace Go.Proofs.YtlmgpkopcgcbgaaDoorClz
open Go Go.RowKit
set_option maxHeartbeats 1000000
set_option maxRecDepth 100000
theorem clone_zero (base : Option Addr) (c : Nat) (w : World) : Calls Tryd.prog 43 #[.slice base 0 c] w fun e w' => (∃ b', e = .returned (.slice b' 0 0)) ∧ Below w.heap.size w w' := by
  have u3 := run_underlying Tryd.underlying25
  have u5 := run_underlying Tryd.underlying5
  have q : ∀ (w : World) (a : Option Addr) (n c n' c' : Nat), (binOp .eql 25 (.slice a n c) (.slice none n' c')).run Tryd.prog w = .ok (.bool a.isNone) w := fun w a n c n' c' => Lib.run_eql_slice_nil w _ _ a n c n' c' Tryd.underlying25
  have mixed : Tryd.prog.follows .mixedOrders = true := by kernel_rfl
  cases base with
  | none =>
    go_enter Tryd.func43, Tryd.ntmps43
    go_wp2
    go_ret
    exact ⟨⟨_, rfl⟩, .refl _ _⟩
  | some a =>
    go_enter Tryd.func43, Tryd.ntmps43
    go_wp2
    go_ret
    exact ⟨⟨_, rfl⟩, (Below.refl w.heap.size w).alloc (Nat.le_refl _) _⟩
end Go.Proofs.YtlmgpkopcgcbgaaDoorClz
/- slices.Clone of no strings. -/
set_option linter.unusedVariables false
namespace Go.Proofs.YtlmgpkopcgcbgaaDoorSlz
open Go Go.RowKit
set_option maxHeartbeats 1000000
set_option maxRecDepth 100000
theorem sclone_zero (base : Option Addr) (c : Nat) (w : World) : Calls Tryd.prog 20 #[.slice base 0 c] w fun e w' => (∃ b', e = .returned (.slice b' 0 0)) ∧ Below w.heap.size w w' := by
  have u3 := run_underlying Tryd.underlying22
  have u5 := run_underlying Tryd.underlying9
  have q : ∀ (w : World) (a : Option Addr) (n c n' c' : Nat), (binOp .eql 22 (.slice a n c) (.slice none n' c')).run Tryd.prog w = .ok (.bool a.isNone) w := fun w a n c n' c' => Lib.run_eql_slice_nil w _ _ a n c n' c' Tryd.underlying22
  have mixed : Tryd.prog.follows .mixedOrders = true := by kernel_rfl
  cases base with
  | none =>
    go_enter Tryd.func20, Tryd.ntmps20
    go_wp2
    go_ret
    exact ⟨⟨_, rfl⟩, .refl _ _⟩
  | some a =>
    go_enter Tryd.func20, Tryd.ntmps20
    go_wp2
    go_ret
    exact ⟨⟨_, rfl⟩, (Below.refl w.heap.size w).alloc (Nat.le_refl _) _⟩
end Go.Proofs.YtlmgpkopcgcbgaaDoorSlz
