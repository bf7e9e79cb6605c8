/- What the proof needs, part 21: Layer 7: a session that is none; Layer 7: SendPlays' law. -/
import Derived.Test.YtlmgpkopcgcbgaaDoorQSendPlays17
import Derived.Test.YtlmgpkopcgcbgaaDoorQSendPlays18
import Derived.Shelf.Vars
import Derived.Test.YtlmgpkopcgcbgaaDoorRows
import Derived.Test.YtlmgpkopcgcbgaaDoorQSendPlays20
/- Layer 7: a session that is none. -/
namespace Go.Abs.F
open Go Go.Abs
set_option maxRecDepth 10000
set_option maxHeartbeats 20000000
set_option linter.unusedSimpArgs false
set_option linter.unusedVariables false
variable {w0 : World}
theorem maxLen_of {W : World} (h : W.ShapedOpen P) : MaxLen W :=
  Go.Proofs.cell_of_shapedOpen_int (zero := #[.int .i64 0]) (t := 3) h (by decide +kernel) (by kernel_rfl) (by kernel_rfl) (by kernel_rfl) (by kernel_rfl) (by kernel_rfl)
end Go.Abs.F
/- Layer 7: SendPlays' law. -/
namespace Go.Abs.F
open Go Go.Abs
set_option maxRecDepth 10000
set_option linter.unusedVariables false
theorem strs_mem (l : (Ty.slice .str).D) (hf : (Ty.slice .str).fit 140737488351232 l) : ∃ t : List L8, (Ty.slice .str).val l = .list 1 (srows t) .no ∧ t.length ≤ 140737488351232 ∧ ∀ x ∈ t, x.length ≤ 140737488351232 :=
  ⟨l, rfl, hf.1, hf.2⟩
theorem law_SendPlays (W : World) (hs : W.ShapedOpen P) (hL : laidMetH P Go.Proofs.YtlmgpkopcgcbgaaDoor.Rows.sendPlaysRow.laid W)
    (x0 : Ty.str.D) (h0 : Ty.str.wf x0) (g0 : Ty.str.fit 140737488351232 x0) (x1 : Ty.str.D) (h1 : Ty.str.wf x1) (g1 : Ty.str.fit 140737488351232 x1)
    (x2 : (Ty.slice .str).D) (h2 : (Ty.slice .str).wf x2) (g2 : (Ty.slice .str).fit 140737488351232 x2) (x3 : (Ty.slice .str).D) (h3 : (Ty.slice .str).wf x3) (g3 : (Ty.slice .str).fit 140737488351232 x3)
    (x4 : (Ty.slice (.slice (.int .u8))).D) (h4 : (Ty.slice (.slice (.int .u8))).wf x4) (g4 : (Ty.slice (.slice (.int .u8))).fit 140737488351232 x4) (x5 : (Ty.int .u8).D) (h5 : (Ty.int .u8).wf x5) (g5 : (Ty.int .u8).fit 140737488351232 x5) :
    Call P W law07_SendPlays [Ty.str.val x0, Ty.str.val x1, (Ty.slice .str).val x2, (Ty.slice .str).val x3, (Ty.slice (.slice (.int .u8))).val x4, (Ty.int .u8).val x5] AH.start fun v _ => v = .v (.bool true) := by
  obtain ⟨t2, e2, l2, m2⟩ := strs_mem x2 g2
  obtain ⟨t3, e3, l3, m3⟩ := strs_mem x3 g3
  obtain ⟨t4, e4, m4⟩ := lrows_ty x4 h4 g4
  have l4 : t4.length ≤ 140737488351232 := by
    have q := congrArg (fun a => match a with | AV.list _ r _ => r.length | _ => 0) e4
    have q3 : (List.map (Ty.slice (.int .u8)).enc x4).length = t4.length := by simpa [Ty.val, lrows] using q
    have q2 : List.length x4 = t4.length := (List.length_map _).symm.trans q3
    have := g4.1
    omega
  rw [e2, e3, e4]
  exact sendPlays_main W (maxLen_of hs) x0 x1 t2 t3 t4 x5 g0 g1 m2 l2 l3 m3 l4 m4 (u8_wf h5)
end Go.Abs.F
