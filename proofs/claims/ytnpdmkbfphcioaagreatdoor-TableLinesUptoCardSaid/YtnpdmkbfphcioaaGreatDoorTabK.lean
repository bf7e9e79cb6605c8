/- Tables: what a program that does nothing does not answer. -/
import Derived.Test.YtnpdmkbfphcioaaGreatDoorTabD
import Derived.Test.YtnpdmkbfphcioaaGreatDoorDig
import Derived.Test.YtnpdmkbfphcioaaGreatDoorAbsW
namespace Go.Abs.F
open Go Go.Abs
set_option maxRecDepth 10000
set_option maxHeartbeats 20000000
set_option linter.unusedSimpArgs false
set_option linter.unusedVariables false
variable {w0 : World}
theorem sizeN_eq (w : List UInt8) : sizeN w = if w ≠ [] ∧ w.length ≤ 5 ∧ w.head? ≠ some 48 ∧ w.all digB = true ∧ 1 ≤ valB 0 w ∧ valB 0 w ≤ 65536 then some ((valB 0 w : Nat) : Int) else none := by
  by_cases hc : w ≠ [] ∧ w.length ≤ 5 ∧ w.head? ≠ some 48 ∧ w.all digB = true
  · obtain ⟨h1, h2, h3, h4⟩ := hc
    obtain ⟨h5, h6⟩ := udecS_val w.length w rfl h1 h3 h4
    rw [sizeN, atoi_dig h1 (by omega) h4]
    simp only [decS_nat, h5, true_and]
    by_cases h7 : valB 0 w ≤ 65536
    · rw [if_pos ⟨by omega, by omega⟩, if_pos ⟨h1, h2, h3, h4, h6, h7⟩]
    · rw [if_neg (fun e => h7 (by omega)), if_neg (fun e => h7 e.2.2.2.2.2)]
  · rw [if_neg (fun e => hc ⟨e.1, e.2.1, e.2.2.1, e.2.2.2.1⟩)]
    rw [sizeN]
    split
    · rename_i n hn
      rw [if_neg]
      rintro ⟨e1, e2, e3⟩
      apply hc
      have hw : w = udecS n.toNat := by rw [← e1, ← decS_nat, Int.toNat_of_nonneg (by omega)]
      have hl := udecS_len 4 n.toNat (by omega)
      rw [hw]
      exact ⟨udecS_ne _, by omega, udecS_head _ (by omega), udecS_dig _⟩
    · rfl
theorem errVars_of {l : List (String × DataW Unit)} {W : World} (hL : laidMetH P l W) (h1 : l.filter (fun x => x.1 == "strconv.ErrSyntax") = [("strconv.ErrSyntax", Go.Proofs.YtnpdmkbfphcioaaGreatDoor.Rows.laid_strconv_ErrSyntax)]) (h2 : l.filter (fun x => x.1 == "strconv.ErrRange") = [("strconv.ErrRange", Go.Proofs.YtnpdmkbfphcioaaGreatDoor.Rows.laid_strconv_ErrRange)]) : ErrVars W :=
  ⟨errSyntax_of hL h1 rfl, errRange_of hL h2 rfl⟩
theorem ans_t1 : tableS [104, 111, 112, 32, 42, 32, 109, 120, 46, 120, 10, 35, 32, 110, 111, 10, 115, 105, 122, 101, 32, 57] = (([], [([42], [109, 120, 46, 120])], [], 9), 0, 0) := by
  have e1 : tableS [104, 111, 112, 32, 42, 32, 109, 120, 46, 120, 10, 35, 32, 110, 111, 10, 115, 105, 122, 101, 32, 57] = tparse [[104, 111, 112, 32, 42, 32, 109, 120, 46, 120], [35, 32, 110, 111], [115, 105, 122, 101, 32, 57]] 0 0 zeroT := by
    rw [tableS, if_neg (by decide)]
    congr 1
  have e2 : lineO [104, 111, 112, 32, 42, 32, 109, 120, 46, 120] zeroT 0 = some (([], [([42], [109, 120, 46, 120])], [], 0), 1) := by kernel_rfl
  have e3 : lineO [35, 32, 110, 111] ([], [([42], [109, 120, 46, 120])], [], 0) 1 = some (([], [([42], [109, 120, 46, 120])], [], 0), 1) := by kernel_rfl
  have hs : sizeN [57] = some 9 := by rw [sizeN_eq]; rfl
  have e4 : lineO [115, 105, 122, 101, 32, 57] ([], [([42], [109, 120, 46, 120])], [], 0) 1 = some (([], [([42], [109, 120, 46, 120])], [], 9), 2) := by
    have q : entryO ([], [([42], [109, 120, 46, 120])], [], 0) (splB 32 [115, 105, 122, 101, 32, 57]) = some ([], [([42], [109, 120, 46, 120])], [], 9) := by
      show sizeO ([], [([42], [109, 120, 46, 120])], [], 0) [[57]] = _
      rw [sizeO, hs]
      rfl
    rw [lineO, if_neg (by decide), q]
    rfl
  rw [e1, tparse_cons, e2]
  simp only []
  rw [tparse_cons, e3]
  simp only []
  rw [tparse_cons, e4]
  rfl
theorem ans_t2 : tableS [10, 102, 114, 111, 98] = (zeroT, 2, 7) := by kernel_rfl
theorem answers14_call (hP : PowTab w0) (hE : ErrVars w0) (h : AH) : Call P w0 law14_answers [] h (fun v h' => v = .v (.bool true) ∧ h' = h) := by
  refine Call.pure (.v _) ?_
  have hp1 := fun h => table_call (w0 := w0) hP hE [104, 111, 112, 32, 42, 32, 109, 120, 46, 120, 10, 35, 32, 110, 111, 10, 115, 105, 122, 101, 32, 57] h (by decide)
  have hp2 := fun h => table_call (w0 := w0) hP hE [10, 102, 114, 111, 98] h (by decide)
  rw [ans_t1] at hp1
  rw [ans_t2] at hp2
  simp only [tabV, resV, tabC, zeroT, List.map_nil, List.map_cons, hrow] at hp1 hp2
  refine Call.bodyF b_law14_answers rfl rfl ?_
  unfold c_law14_answers
  repeat' (first
    | ((with_reducible apply opsF.op rfl); (case hs => (first | exact tHT | exact tHS)))
    | with_reducible (first | apply opsF.nil | apply seqF.nn | apply vcF.seq | apply vcF.region | apply vcF.skip | apply vcF.ret | apply seqF.r)
    | ((with_reducible apply opsF.call); (case hx => exact tAG))
    | ((with_reducible apply opsF.want); (case hg => exact tEV); (case hb => exact tNB))
    | ((with_reducible apply opsF.skip); (case hg => exact tEV); (case hb => exact tNB))
    | (first | ((with_reducible apply opsF.case); (case hg => exact tEV)) | ((with_reducible apply vcF.cond); (case hx => exact tEV))) <;> ((intro hc; try simp only [Int.reduceLT, Int.reduceLE, Int.reduceEq, Int.reduceNe, Int.cast_ofNat_Int, Int.reduceNeg, decide_true, decide_false, not_true_eq_false, not_false_eq_true, decide_eq_true_eq, decide_eq_false_iff_not, Bool.not_eq_true', Bool.not_eq_false', Bool.not_true, Bool.not_false, Bool.false_eq_true, Bool.true_eq_false, Bool.not_eq_true, Bool.not_eq_false, beq_iff_eq, beq_eq_false_iff_ne, bne_iff_ne, bne_eq_false_iff_eq, ne_eq, Int.not_lt, Int.not_le, ge_iff_le, gt_iff_lt, Decidable.not_not, reduceCtorEq, *] at hc) <;> (try (exfalso; omega)))
    | ((with_reducible apply opsF.und); (case hg => rfl))
    | ((with_reducible apply retF.r); (case hv => exact tRS))
    | ((with_reducible apply retF.nn); (case hv => exact tRS))
    | ((refine Call.use (hp1 _) ?_))
    | ((refine Call.use (hp2 _) ?_)))
  all_goals refine ⟨rfl, ?_⟩
  all_goals repeat' first
    | exact .refl _
    | refine Ext.set ?_ (by first | exact Nat.le_refl _ | omega | (simp only [alloc_n, set_n] at *; omega)) _
    | refine Ext.trans ?_ (Ext.alloc _ _)
end Go.Abs.F
