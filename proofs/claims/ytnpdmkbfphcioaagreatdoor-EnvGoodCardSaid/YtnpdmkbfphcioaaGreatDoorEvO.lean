/- Layer 11: EnvGood: which messages may be, and which are the same. -/
import Derived.Test.YtnpdmkbfphcioaaGreatDoorEvL
import Derived.Test.YtnpdmkbfphcioaaGreatDoorEvS
namespace Go.Abs.F
open Go Go.Abs
set_option maxRecDepth 10000
set_option maxHeartbeats 20000000
set_option linter.unusedSimpArgs false
set_option linter.unusedVariables false
variable {w0 : World}
theorem envGood_main (W : World) (hP : PowTab W) (hE : ErrVars W) (a b : Msg) (ha : MLen a) (hb : MLen b) : Call P W law11_EnvGood [.agg (msgC a .no .no .no), .agg (msgC b .no .no .no)] AH.start fun v _ => v = .v (.bool true) := by
  have hans := fun h => answers11_call (w0 := W) hP hE h
  have hsa := fun h => small_call (w0 := W) a .no .no .no h ha
  have hsb := fun h => small_call (w0 := W) b .no .no .no h hb
  refine Call.bodyF b_law11_EnvGood rfl rfl ?_
  unfold c_law11_EnvGood
  cases hqa : smallM a with
  | false =>
    rw [hqa] at hsa
    clear hqa
    unfold msgC at hsa hsb ⊢
    repeat' (first
    | ((with_reducible apply opsF.op rfl); (case hs => (first | exact tHT | exact tHS)))
    | with_reducible (first | apply opsF.nil | apply seqF.nn | apply vcF.seq | apply vcF.region | apply vcF.dregion | apply vcF.skip | apply vcF.ret | apply seqF.r | apply dopsF.nil | apply stabsF.nil | apply stabsF.cons | apply dopsF.cont)
    | ((with_reducible apply opsF.call); (case hx => exact tAG))
    | ((with_reducible apply opsF.want); (case hg => exact tEV); (case hb => exact tNB))
    | ((with_reducible apply opsF.skip); (case hg => exact tEV); (case hb => exact tNB))
    | (first | ((with_reducible apply opsF.case); (case hg => exact tEV)) | ((with_reducible apply vcF.cond); (case hx => exact tEV)) | ((with_reducible apply dopsF.case); (case hg => exact tEV))) <;> ((intro hc; try simp only [Int.reduceLT, Int.reduceLE, Int.reduceEq, Int.reduceNe, Int.cast_ofNat_Int, Int.reduceNeg, decide_true, decide_false, not_true_eq_false, not_false_eq_true, decide_eq_true_eq, decide_eq_false_iff_not, Bool.not_eq_true', Bool.not_eq_false', Bool.not_true, Bool.not_false, Bool.false_eq_true, Bool.true_eq_false, Bool.not_eq_true, Bool.not_eq_false, beq_iff_eq, beq_eq_false_iff_ne, bne_iff_ne, bne_eq_false_iff_eq, ne_eq, Int.not_lt, Int.not_le, ge_iff_le, gt_iff_lt, Decidable.not_not, reduceCtorEq, *] at hc) <;> (try (exfalso; omega)))
    | ((with_reducible apply opsF.und); (case hg => rfl))
    | ((with_reducible apply dopsF.op rfl); (case hs => (first | exact tHT | exact tHS)))
    | ((with_reducible apply dopsF.call); (case hx => exact tAG))
    | ((with_reducible apply dopsF.want); (case hg => exact tEV); (case hb => exact tNB))
    | ((with_reducible apply dopsF.skip); (case hg => exact tEV); (case hb => exact tNB))
    | ((with_reducible apply dopsF.und); (case hg => rfl))
    | ((with_reducible apply stabF.und); rfl)
    | ((with_reducible apply stabF.want); (case hg => exact tEV); (case hb => exact tNB))
    | ((with_reducible apply stabF.skip); (case hg => exact tEV); (case hb => exact tNB))
    | ((with_reducible apply stabF.op); (case hs => (first | exact tHT | exact tHS)); (case hv => exact tSV))
    | ((with_reducible apply retF.r); (case hv => exact tRS))
    | ((with_reducible apply retF.nn); (case hv => exact tRS))
    | ((refine Call.use (hsa _) ?_))
    | ((refine Call.use (hans _) ?_)))
    all_goals rfl
  | true =>
    cases hqb : smallM b with
    | false =>
      rw [hqa] at hsa
      rw [hqb] at hsb
      clear hqa hqb
      unfold msgC at hsa hsb ⊢
      repeat' (first
    | ((with_reducible apply opsF.op rfl); (case hs => (first | exact tHT | exact tHS)))
    | with_reducible (first | apply opsF.nil | apply seqF.nn | apply vcF.seq | apply vcF.region | apply vcF.dregion | apply vcF.skip | apply vcF.ret | apply seqF.r | apply dopsF.nil | apply stabsF.nil | apply stabsF.cons | apply dopsF.cont)
    | ((with_reducible apply opsF.call); (case hx => exact tAG))
    | ((with_reducible apply opsF.want); (case hg => exact tEV); (case hb => exact tNB))
    | ((with_reducible apply opsF.skip); (case hg => exact tEV); (case hb => exact tNB))
    | (first | ((with_reducible apply opsF.case); (case hg => exact tEV)) | ((with_reducible apply vcF.cond); (case hx => exact tEV)) | ((with_reducible apply dopsF.case); (case hg => exact tEV))) <;> ((intro hc; try simp only [Int.reduceLT, Int.reduceLE, Int.reduceEq, Int.reduceNe, Int.cast_ofNat_Int, Int.reduceNeg, decide_true, decide_false, not_true_eq_false, not_false_eq_true, decide_eq_true_eq, decide_eq_false_iff_not, Bool.not_eq_true', Bool.not_eq_false', Bool.not_true, Bool.not_false, Bool.false_eq_true, Bool.true_eq_false, Bool.not_eq_true, Bool.not_eq_false, beq_iff_eq, beq_eq_false_iff_ne, bne_iff_ne, bne_eq_false_iff_eq, ne_eq, Int.not_lt, Int.not_le, ge_iff_le, gt_iff_lt, Decidable.not_not, reduceCtorEq, *] at hc) <;> (try (exfalso; omega)))
    | ((with_reducible apply opsF.und); (case hg => rfl))
    | ((with_reducible apply dopsF.op rfl); (case hs => (first | exact tHT | exact tHS)))
    | ((with_reducible apply dopsF.call); (case hx => exact tAG))
    | ((with_reducible apply dopsF.want); (case hg => exact tEV); (case hb => exact tNB))
    | ((with_reducible apply dopsF.skip); (case hg => exact tEV); (case hb => exact tNB))
    | ((with_reducible apply dopsF.und); (case hg => rfl))
    | ((with_reducible apply stabF.und); rfl)
    | ((with_reducible apply stabF.want); (case hg => exact tEV); (case hb => exact tNB))
    | ((with_reducible apply stabF.skip); (case hg => exact tEV); (case hb => exact tNB))
    | ((with_reducible apply stabF.op); (case hs => (first | exact tHT | exact tHS)); (case hv => exact tSV))
    | ((with_reducible apply retF.r); (case hv => exact tRS))
    | ((with_reducible apply retF.nn); (case hv => exact tRS))
    | ((refine Call.use (hsa _) ?_))
    | ((refine Call.use (hsb _) ?_))
    | ((refine Call.use (hans _) ?_)))
      all_goals rfl
    | true =>
      have h1 := fun h => egood_call (w0 := W) a .no .no .no h (small_ok hqa)
      have h2 := fun h => refgood_call (w0 := W) a .no .no .no h (small_ok hqa)
      have h3 := fun h => esame_call (w0 := W) a b .no .no .no .no .no .no h ha.rl ha.ml ha.bl
      have h4 := fun h => rsame_call (w0 := W) a b .no .no .no .no .no .no h ha.rl ha.ml ha.bl
      have h5 := fun h => esame_call (w0 := W) a a .no .no .no .no .no .no h ha.rl ha.ml ha.bl
      rw [sameM_refl] at h5
      rw [hqa] at hsa
      rw [hqb] at hsb
      clear hqa hqb
      unfold msgC at hsa hsb h1 h2 h3 h4 h5 ⊢
      generalize goodM a = p at *
      generalize sameM a b = q at *
      repeat' (first
    | ((with_reducible apply opsF.op rfl); (case hs => (first | exact tHT | exact tHS)))
    | with_reducible (first | apply opsF.nil | apply seqF.nn | apply vcF.seq | apply vcF.region | apply vcF.dregion | apply vcF.skip | apply vcF.ret | apply seqF.r | apply dopsF.nil | apply stabsF.nil | apply stabsF.cons | apply dopsF.cont)
    | ((with_reducible apply opsF.call); (case hx => exact tAG))
    | ((with_reducible apply opsF.want); (case hg => exact tEV); (case hb => exact tNB))
    | ((with_reducible apply opsF.skip); (case hg => exact tEV); (case hb => exact tNB))
    | (first | ((with_reducible apply opsF.case); (case hg => exact tEV)) | ((with_reducible apply vcF.cond); (case hx => exact tEV)) | ((with_reducible apply dopsF.case); (case hg => exact tEV))) <;> ((intro hc; try simp only [Int.reduceLT, Int.reduceLE, Int.reduceEq, Int.reduceNe, Int.cast_ofNat_Int, Int.reduceNeg, decide_true, decide_false, not_true_eq_false, not_false_eq_true, decide_eq_true_eq, decide_eq_false_iff_not, Bool.not_eq_true', Bool.not_eq_false', Bool.not_true, Bool.not_false, Bool.false_eq_true, Bool.true_eq_false, Bool.not_eq_true, Bool.not_eq_false, beq_iff_eq, beq_eq_false_iff_ne, bne_iff_ne, bne_eq_false_iff_eq, ne_eq, Int.not_lt, Int.not_le, ge_iff_le, gt_iff_lt, Decidable.not_not, reduceCtorEq, *] at hc) <;> (try (exfalso; omega)))
    | ((with_reducible apply opsF.und); (case hg => rfl))
    | ((with_reducible apply dopsF.op rfl); (case hs => (first | exact tHT | exact tHS)))
    | ((with_reducible apply dopsF.call); (case hx => exact tAG))
    | ((with_reducible apply dopsF.want); (case hg => exact tEV); (case hb => exact tNB))
    | ((with_reducible apply dopsF.skip); (case hg => exact tEV); (case hb => exact tNB))
    | ((with_reducible apply dopsF.und); (case hg => rfl))
    | ((with_reducible apply stabF.und); rfl)
    | ((with_reducible apply stabF.want); (case hg => exact tEV); (case hb => exact tNB))
    | ((with_reducible apply stabF.skip); (case hg => exact tEV); (case hb => exact tNB))
    | ((with_reducible apply stabF.op); (case hs => (first | exact tHT | exact tHS)); (case hv => exact tSV))
    | ((with_reducible apply retF.r); (case hv => exact tRS))
    | ((with_reducible apply retF.nn); (case hv => exact tRS))
    | ((refine Call.use (hsa _) ?_))
    | ((refine Call.use (hsb _) ?_))
    | ((refine Call.use (hans _) ?_))
    | ((refine Call.use (h1 _) ?_))
    | ((refine Call.use (h2 _) ?_))
    | ((refine Call.use (h5 _) ?_))
    | ((refine Call.use (h3 _) ?_))
    | ((refine Call.use (h4 _) ?_)))
      all_goals first | rfl | (simp; done) | trace_state
theorem law_EnvGood (W : World) (hL : laidMetH P Go.Proofs.YtnpdmkbfphcioaaGreatDoor.Rows.envGoodRow.laid W) (x0 : MsgT.D) (h0 : MsgT.wf x0) (g0 : MsgT.fit 140737488351232 x0) (x1 : MsgT.D) (h1 : MsgT.wf x1) (g1 : MsgT.fit 140737488351232 x1) :
    Call P W law11_EnvGood [MsgT.val x0, MsgT.val x1] AH.start fun v _ => v = .v (.bool true) := by
  obtain ⟨a, e0, ha⟩ := msg_ty x0 g0
  obtain ⟨b, e1, hb⟩ := msg_ty x1 g1
  rw [e0, e1]
  exact envGood_main W (powTab_of hL (by kernel_rfl)) (errVars_of hL (by kernel_rfl) (by kernel_rfl)) a b ha hb
end Go.Abs.F
