/- What the proof needs, part 23: Layer 11: what its laws call first. Layer 11: what a law knows of the world; how long a message's parts are. -/
import Derived.Test.YtnpdmkbfphcioaaGreatDoorQTurn20
import Derived.Test.YtnpdmkbfphcioaaGreatDoorQTurn19
import Derived.Test.YtnpdmkbfphcioaaGreatDoorQTurn22
/- Layer 11: what its laws call first. Layer 11: what a law knows of the world; how long a message's parts are. -/
namespace Go.Abs.F
open Go Go.Abs
set_option maxRecDepth 10000
set_option maxHeartbeats 20000000
set_option linter.unusedSimpArgs false
set_option linter.unusedVariables false
variable {w0 : World}
def sumL : List L8 → Nat
  | [] => 0
  | s :: l => s.length + sumL l
theorem sumL_app (l m : List L8) : sumL (l ++ m) = sumL l + sumL m := by
  induction l with
  | nil => simp [sumL]
  | cons x l ih => simp only [List.cons_append, sumL, ih]; omega
theorem sumL_take {l : List L8} {i : Nat} {x : L8} (hx : l[i]? = some x) : sumL (l.take (i + 1)) = sumL (l.take i) + x.length := by
  rw [List.take_add_one, hx, Option.toList_some, sumL_app]
  simp [sumL]
theorem sumL_le (l : List L8) (i : Nat) : sumL (l.take i) ≤ sumL l := by
  conv => rhs; rw [← List.take_append_drop i l, sumL_app]
  omega
theorem sumL_mem {l : List L8} {s : L8} (h : s ∈ l) : s.length ≤ sumL l := by
  induction l with
  | nil => cases h
  | cons x l ih =>
    simp only [sumL]
    rcases List.mem_cons.1 h with rfl | h
    · omega
    · have := ih h; omega
def baseM (m : Msg) : Nat := m.2.2.2.2.2.1.length + m.2.2.2.2.2.2.1.length + m.2.2.2.2.2.2.2.1.length + m.2.2.2.2.2.2.2.2.length
def smallM (m : Msg) : Bool := decide (baseM m + sumL m.2.2.2.2.2.2.2.2 + sumL m.2.2.2.2.2.2.1 < 5000)
theorem small_ok {m : Msg} (h : smallM m = true) : MOk m := by
  have h := of_decide_eq_true h
  unfold baseM at h
  exact ⟨by omega, by omega, fun s hs => by have := sumL_mem hs; omega, by omega, by omega, fun s hs => by have := sumL_mem hs; omega⟩
theorem rcS_sum (l : List L8) : (rcS l).length = sumL l + 6 * l.length := by
  induction l with
  | nil => rfl
  | cons x l ih =>
    have h3 := kv_len K7 x
    have h4 : K7.length = 4 := rfl
    simp only [rcS, sumL, List.length_append, List.length_cons, ih]
    omega
theorem bdS_sum (l : List L8) : (bdS l).length = sumL l + l.length := by
  induction l with
  | nil => rfl
  | cons x l ih =>
    simp only [bdS, sumL, List.length_append, List.length_cons, ih]
    omega
theorem text_small {m : Msg} (hs : smallM m = true) (hg : goodM m = true) : (textM m).length ≤ 1000000 := by
  have g := goodP_of hg
  have h := of_decide_eq_true hs
  unfold baseM at h
  have d1 := decS_len _ g.t1.1 g.t1.2
  have d2 := decS_len _ g.t2.1 g.t2.2
  have d3 := decS_len _ g.t3.1 g.t3.2
  have d4 := decS_len _ g.t4.1 g.t4.2
  have d5 := decS_len _ g.t5.1 g.t5.2
  have a1 := rcS_sum m.2.2.2.2.2.2.1
  have a2 := bdS_sum m.2.2.2.2.2.2.2.2
  have a3 := mkS_len g.mks
  simp only [textM, numsT, restT, List.length_append, kv_len, List.length_cons, K1, K2, K3, K4, K5, K6, K8, List.length_nil]
  omega
structure MLen (m : Msg) : Prop where
  f : m.2.2.2.2.2.1.length ≤ 140737488351232
  rl : m.2.2.2.2.2.2.1.length ≤ 140737488351232
  rs : ∀ s ∈ m.2.2.2.2.2.2.1, s.length ≤ 140737488351232
  ml : m.2.2.2.2.2.2.2.1.length ≤ 140737488351232
  bl : m.2.2.2.2.2.2.2.2.length ≤ 140737488351232
  bs : ∀ s ∈ m.2.2.2.2.2.2.2.2, s.length ≤ 140737488351232
theorem encV_plain (m : Msg) : Plain (encV m) := by
  unfold encV
  split
  · refine Plain.tupv fun x hx => ?_
    simp only [List.mem_cons, List.not_mem_nil, or_false] at hx
    rcases hx with rfl | rfl
    · refine Plain.listv trivial fun r hr x hx => ?_
      simp only [brows, List.mem_map] at hr
      obtain ⟨b, _, rfl⟩ := hr
      rw [List.mem_singleton.1 hx]; exact .v _
    · exact .v _
  · refine Plain.tupv fun x hx => ?_
    simp only [List.mem_cons, List.not_mem_nil, or_false] at hx
    rcases hx with rfl | rfl
    · exact Plain.listv trivial fun r hr x hx => by cases hr
    · exact .v _
theorem encode_call (hP : PowTab w0) (m : Msg) (t1 t2 t3 : Tok) (h : AH) (hm : MOk m) : Call P w0 env_Encode [.agg (msgC m t1 t2 t3)] h (fun v h' => v = encV m ∧ h' = h) := Call.pure (encV_plain m) (encode_raw hP m t1 t2 t3 h hm)
def ansM : Msg := (1, 0, 0, 0, 0, [], [[97, 64, 98]], [], [])
theorem ansM_good : goodM ansM = true := by kernel_rfl
theorem ansM_small : smallM ansM = true := by kernel_rfl
abbrev MsgT : Ty := .pair (.int .i64) (.pair (.int .i64) (.pair (.int .i64) (.pair (.int .i64) (.pair (.int .i64) (.pair .str (.pair (.slice .str) (.pair (.slice (.int .i64)) (.pair (.slice .str) .unit))))))))
def msgOf (x : MsgT.D) : Msg := ((x.1 : Int), (x.2.1 : Int), (x.2.2.1 : Int), (x.2.2.2.1 : Int), (x.2.2.2.2.1 : Int), (x.2.2.2.2.2.1 : List UInt8), (x.2.2.2.2.2.2.1 : List (List UInt8)), (x.2.2.2.2.2.2.2.1 : List Int), (x.2.2.2.2.2.2.2.2.1 : List (List UInt8)))
theorem msg_ty (x : MsgT.D) (hf : MsgT.fit 140737488351232 x) : ∃ m : Msg, MsgT.val x = .agg (msgC m .no .no .no) ∧ MLen m := by
  refine ⟨msgOf x, rfl, ⟨hf.2.2.2.2.2.1, hf.2.2.2.2.2.2.1.1, fun s hs => hf.2.2.2.2.2.2.1.2 s hs, hf.2.2.2.2.2.2.2.1.1, hf.2.2.2.2.2.2.2.2.1.1, fun s hs => hf.2.2.2.2.2.2.2.2.1.2 s hs⟩⟩
end Go.Abs.F
namespace Go.Abs.F
open Go Go.Abs
set_option maxRecDepth 10000
set_option maxHeartbeats 20000000
set_option linter.unusedSimpArgs false
set_option linter.unusedVariables false
variable {w0 : World}
theorem errVars_of {l : List (String × DataW Unit)} {W : World} (hL : laidMetH P l W) (h1 : l.filter (fun x => x.1 == "strconv.ErrSyntax") = [("strconv.ErrSyntax", Go.Proofs.YtnpdmkbfphcioaaGreatDoor.Rows.laid_strconv_ErrSyntax)]) (h2 : l.filter (fun x => x.1 == "strconv.ErrRange") = [("strconv.ErrRange", Go.Proofs.YtnpdmkbfphcioaaGreatDoor.Rows.laid_strconv_ErrRange)]) : ErrVars W :=
  ⟨errSyntax_of hL h1 rfl, errRange_of hL h2 rfl⟩
end Go.Abs.F
