/- No tables: no text. -/
import Derived.Shelf.Strings.Builder1
import Derived.Test.YtnpdmkbfphcioaaGreatDoorProg
import Derived.Test.YtnpdmkbfphcioaaGreatDoorSheJ
set_option linter.unusedVariables false
namespace Go.Proofs.YtnpdmkbfphcioaaGreatDoorTzw
open Go.Shelf Go.RowKit
set_option maxHeartbeats 1000000
set_option maxRecDepth 100000
theorem alloc_size (w : World) (o : Obj) : (w.alloc o).heap.size = w.heap.size + 1 := by
  show (w.heap.push o).size = _
  simp
theorem str_fresh (o : Obj) (w : World) : Calls Tryz.prog 34 #[.pointer (some ⟨w.heap.size + 1, 0, none⟩)] ((w.alloc o).alloc (.cells #[.pointer none, .slice none 0 0] 58)) fun e w' => e = .returned (.string ⟨#[]⟩) ∧ Below w.heap.size w w' := by
  have hs := alloc_size w o
  have hb : Lib.IsBuilder 58 5 w.heap.size (w.alloc o).heap.size [] ((w.alloc o).alloc (.cells #[.pointer none, .slice none 0 0] 58)) :=
    Or.inl ⟨by omega, .slice none 0 0, heap_alloc_new (w.alloc o) _, World.ownsRow_nil _ _ _ _, by simp [Value.ownBlock]⟩
  have h := Tryz.Builder_String_empty w.heap.size (w.alloc o).heap.size ((w.alloc o).alloc (.cells #[.pointer none, .slice none 0 0] 58)) hb (by rw [alloc_size, alloc_size]; omega)
  rw [hs] at h
  refine h.mono fun e w' hh => ⟨hh.1, ?_⟩
  exact (((Below.refl w.heap.size w).alloc (Nat.le_refl _) _).alloc (by rw [alloc_size]; omega) _).trans hh.2
theorem write_zero (b1 b2 b3 : Option Addr) (c1 c2 c3 : Nat) (w : World) : Calls Tryz.prog 55 #[.agg #[.slice b1 0 c1, .slice b2 0 c2, .slice b3 0 c3, .int .i64 0]] w fun e w' => e = .returned (.string ⟨#[]⟩) ∧ Below w.heap.size w w' := by
  have u1 := run_underlying Tryz.underlying58
  have u2 := run_underlying Tryz.underlying56
  have u3 := run_underlying Tryz.underlying28
  have u4 := run_underlying Tryz.underlying9
  have u5 := run_underlying Tryz.underlying5
  have mixed : Tryz.prog.follows .mixedOrders = true := by kernel_rfl
  go_enter Tryz.func55, Tryz.ntmps55
  go_wp2
  go_loop [14] (fun i => i = .int .i64 0) (fun _ => 0)
  case atStart => rfl
  case round =>
    obtain rfl := hrel
    go_wp2
    go_loop [32] (fun i => i = .int .i64 0) (fun _ => 0)
    case atStart => rfl
    case round =>
      obtain rfl := hrel
      go_wp2
      go_loop [49] (fun i => i = .int .i64 0) (fun _ => 0)
      case atStart => rfl
      case round =>
        obtain rfl := hrel
        go_wp2_with fail
        refine (str_fresh _ w).mono ?_
        rintro e w' ⟨rfl, hb⟩
        go_wp2
        go_ret
        exact ⟨rfl, hb⟩
end Go.Proofs.YtnpdmkbfphcioaaGreatDoorTzw
