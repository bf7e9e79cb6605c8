/- What the proof needs, part 15: strings.Builder: what copyCheck, WriteString and String do to the model's world. -/
import Derived.Shelf.Strings.Builder1
import Derived.Test.YtlmgpkopcgcbgaaGreatDoorProg
/- strings.Builder: what copyCheck, WriteString and String do to the model's world. -/
set_option linter.unusedVariables false
namespace Go.Proofs.YtlmgpkopcgcbgaaGreatDoorBld
open Go.Shelf Go.RowKit
set_option maxHeartbeats 1000000
set_option maxRecDepth 100000
theorem cc_used (b : Nat) (w : World) (h0 : w.cell? ⟨b, 0, none⟩ = some (.pointer (some ⟨b, 0, none⟩))) :
    Calls Tryz.prog 85 #[.pointer (some ⟨b, 0, none⟩)] w fun e w' => e = .returned (.tuple #[]) ∧ w' = w := by
  obtain ⟨j, hj, hjs⟩ := Option.map_eq_some_iff.1 (show (Tryz.prog.info? 101).map (·.size) = some 2 by kernel_rfl)
  have u1 := run_underlying Tryz.underlying101
  have u2 := run_underlying Tryz.underlying99
  go_enter Tryz.func85, Tryz.ntmps85
  go_wp2
  rw [Lib.run_neq_ptr_same w _ Tryz.underlying99 hj]
  go_wp2
  go_end0
  exact ⟨rfl, rfl⟩
theorem cc_fresh (b : Nat) (w : World) (h0 : w.cell? ⟨b, 0, none⟩ = some (.pointer none)) (hsh : w.shape? b = some (101, 2)) (hfz : w.frozen? ⟨b, 0, none⟩ = false) :
    Calls Tryz.prog 85 #[.pointer (some ⟨b, 0, none⟩)] w fun e w' => e = .returned (.tuple #[]) ∧ w' = w.setCell ⟨b, 0, none⟩ (.pointer (some ⟨b, 0, none⟩)) := by
  obtain ⟨j, hj, hjs⟩ := Option.map_eq_some_iff.1 (show (Tryz.prog.info? 101).map (·.size) = some 2 by kernel_rfl)
  have u1 := run_underlying Tryz.underlying101
  have u2 := run_underlying Tryz.underlying99
  go_enter Tryz.func85, Tryz.ntmps85
  go_wp2
  rw [Lib.run_to_unsafe w ⟨b, 0, none⟩ Tryz.underlying99 Tryz.underlying118 hj (by rw [hjs]; decide) hsh (Nat.zero_lt_succ 1)]
  simp only [Result.andThen]
  rw [Oper.upon_value]
  go_wp2
  rw [run_callFunc_extern Tryz.func101 (by kernel_rfl) (by kernel_rfl) (by kernel_rfl) (e := Extern.AbiNoEscape.same) (by kernel_rfl)]
  rw [Lib.run_noEscape]
  simp only [Result.andThen]
  rw [Oper.upon_value]
  go_wp2
  rw [Lib.run_from_unsafe w ⟨b, 0, none⟩ Tryz.underlying118 Tryz.underlying99 hj hsh (by kernel_rfl)]
  simp only [Result.andThen]
  rw [Oper.upon_value]
  go_wp2
  go_end0
  exact ⟨rfl, rfl⟩
theorem wpList_append_run {P : Program} {w : World} {ops : Array Oper} {rest : List Oper} {o : Oper} {a : Act} {Q : Exit → Act → World → Prop} (hgd : o.guard = none) (sl x : Operand) (t u : TypeId)
    (ho : o.op = .call { callee := .builtin .append, args := #[sl, x], argTypes := #[t, u] }) {v xv v' : Value} {w' : World} (hs : a.eval sl = v) (hx : a.eval x = xv) (hr : (Builtin.append_ #[t, u] o.type #[v, xv]).run P w = .ok v' w')
    (h : wpList P ops Q rest (a.put o.dst v') w') : wpList P ops Q (o :: rest) a w := by
  refine wpList_plain hgd fun K hK => ?_
  unfold Oper.wp execOp
  simp only [ho, resolve, invoke, builtin, Sem.run_bind, Sem.run_pure, Result.andThen_ok, List.map_toArray, List.map_cons, List.map_nil, hs, hx, hr]
  exact hK _ _ h
theorem ws_any (b : Nat) (s : ByteArray) (base base' : Option Addr) (n c n' c' : Nat) (w W w2 : World)
    (hcc : Calls Tryz.prog 85 #[.pointer (some ⟨b, 0, none⟩)] w fun e w' => e = .returned (.tuple #[]) ∧ w' = W) (h1 : W.cell? ⟨b, 1, none⟩ = some (.slice base n c))
    (hrun : (Builtin.append_ #[22, 9] 22 #[.slice base n c, .string s]).run Tryz.prog W = .ok (.slice base' n' c') w2) (h2 : w2.cell? ⟨b, 1, none⟩ = some (.slice base n c)) (hf2 : w2.frozen? ⟨b, 1, none⟩ = false) :
    Calls Tryz.prog 72 #[.pointer (some ⟨b, 0, none⟩), .string s] w fun e w' => e = .returned (.tuple #[.int .i64 s.size, .nilIface]) ∧ w' = w2.setCell ⟨b, 1, none⟩ (.slice base' n' c') := by
  have u1 := run_underlying Tryz.underlying101
  have u2 := run_underlying Tryz.underlying99
  have u3 := run_underlying Tryz.underlying22
  have u4 := run_underlying Tryz.underlying9
  go_enter Tryz.func72, Tryz.ntmps72
  go_wp2_with (go_at_call 85; refine hcc.mono ?_)
  rintro e w1 ⟨rfl, rfl⟩
  go_wp2_with (at_builtin; refine wpList_append_run rfl _ _ 22 9 rfl rfl rfl hrun ?_)
  go_wp2
  go_ret2
  exact ⟨rfl, rfl⟩
theorem str_some (b g cap cells : Nat) (l : List UInt8) (w : World) (c0 : w.cell? ⟨b, 1, none⟩ = some (.slice (some ⟨g, 0, none⟩) l.length cap)) (h0 : l ≠ []) (hcap : l.length ≤ cap) (h63 : l.length ≤ 9223372036854775807) (hsh : w.shape? g = some (5, cells)) (hcl : l.length ≤ cells)
    (hcell : ∀ j x, l[j]? = some x → w.cell? ((⟨g, 0, none⟩ : Addr).add j) = some (.int .u8 x.toNat)) :
    Calls Tryz.prog 74 #[.pointer (some ⟨b, 0, none⟩)] w fun e w' => e = .returned (.string ⟨l.toArray⟩) ∧ w' = w.drew.freeze ⟨g, 0, none⟩ l.length := by
  have hl0 : l.length ≠ 0 := by simpa using h0
  have c1 : w.drew.cell? ⟨b, 1, none⟩ = some (.slice (some ⟨g, 0, none⟩) l.length cap) := c0
  have hSD : (Builtin.unsafeSliceData_ #[22] 113 #[.slice (some ⟨g, 0, none⟩) l.length cap]).run Tryz.prog w.drew = .ok (.pointer (some ⟨g, 0, none⟩)) w.drew :=
    Lib.run_unsafeSliceData_row _ _ _ _ _ _ (by omega)
  have hUS : (Builtin.unsafeString_ #[113, 3] 9 #[.pointer (some ⟨g, 0, none⟩), .int .i64 l.length]).run Tryz.prog w.drew = .ok (.string ⟨l.toArray⟩) (w.drew.freeze ⟨g, 0, none⟩ l.length) :=
    Lib.run_unsafeString_row w.drew 113 3 9 5 Tryz.underlying113 (by kernel_rfl) g cells hsh l h0 hcl h63 hcell
  have u1 := run_underlying Tryz.underlying101
  have u2 := run_underlying Tryz.underlying99
  have u3 := run_underlying Tryz.underlying22
  have u4 := run_underlying Tryz.underlying9
  have u5 := run_underlying Tryz.underlying5
  have u6 := run_underlying Tryz.underlying113
  have mixed : Tryz.prog.follows .mixedOrders = true := by kernel_rfl
  go_enter Tryz.func74, Tryz.ntmps74
  go_wp2
  go_region_o
  all_goals (go_wp2; go_ret; exact ⟨rfl, rfl⟩)
end Go.Proofs.YtlmgpkopcgcbgaaGreatDoorBld
