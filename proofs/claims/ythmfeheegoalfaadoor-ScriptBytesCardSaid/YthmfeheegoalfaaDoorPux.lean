/- strconv.ParseUint of two hexadecimal digits; the texts of steps. -/
import Derived.Test.YthmfeheegoalfaaDoorTrm
namespace Go.Abs.F
open Go Go.Abs
set_option maxRecDepth 10000
set_option maxHeartbeats 20000000
set_option linter.unusedSimpArgs false
set_option linter.unusedVariables false
variable {w0 : World}
theorem lower_call (x : UInt8) (hx : 97 ≤ x.toNat ∧ x.toNat ≤ 102) (h : AH) : Call P w0 i_strconv_lower [.v (.int .u8 (x.toNat : Int))] h (fun v h' => v = .v (.int .u8 (x.toNat : Int)) ∧ h' = h) := by
  have hor : bits .or .u8 (x.toNat : Int) 32 = (x.toNat : Int) := by
    have : ∀ k : Fin 256, 97 ≤ k.val ∧ k.val ≤ 102 → bits .or .u8 ((k.val : Nat) : Int) 32 = ((k.val : Nat) : Int) := by decide
    exact this ⟨x.toNat, x.toNat_lt⟩ hx
  refine Call.bodyF b_i_strconv_lower rfl rfl ?_
  unfold c_i_strconv_lower
  repeat' (first
    | ((with_reducible apply opsF.op rfl); (case hs => (first | exact tHT | exact tHS)))
    | with_reducible (first | apply opsF.nil | apply seqF.nn | apply vcF.seq | apply vcF.region | apply vcF.dregion | apply vcF.skip | apply vcF.block | apply vcF.exit | apply vcF.ret | apply vcF.loop | apply seqF.e | apply seqF.r | apply blkF.nn | apply blkF.e | apply blkF.r | apply blkF.o rfl | apply dopsF.nil | apply stabsF.nil | apply stabsF.cons | apply dopsF.cont)
    | ((with_reducible apply opsF.call); (case hx => exact tAG))
    | ((with_reducible apply opsF.want); (case hg => exact tEV); (case hb => exact tNB))
    | ((with_reducible apply opsF.skip); (case hg => exact tEV); (case hb => exact tNB))
    | (first | ((with_reducible apply opsF.case); (case hg => exact tEV)) | ((with_reducible apply vcF.cond); (case hx => exact tEV)) | ((with_reducible apply dopsF.case); (case hg => exact tEV))) <;> ((intro hc; try simp only [Int.reduceLT, Int.reduceLE, Int.reduceEq, Int.reduceNe, Int.cast_ofNat_Int, Int.reduceNeg, decide_true, decide_false, not_true_eq_false, not_false_eq_true, decide_eq_true_eq, decide_eq_false_iff_not, Bool.not_eq_true', Bool.not_eq_false', Bool.not_true, Bool.not_false, Bool.false_eq_true, Bool.true_eq_false, Bool.not_eq_true, Bool.not_eq_false, beq_iff_eq, beq_eq_false_iff_ne, bne_iff_ne, bne_eq_false_iff_eq, ne_eq, Int.not_lt, Int.not_le, ge_iff_le, gt_iff_lt, Decidable.not_not, reduceCtorEq, *] at hc) <;> (try (exfalso; omega)))
    | ((with_reducible apply opsF.und); (case hg => rfl))
    | ((with_reducible apply opsF.callv); (case hf => exact tEV); (case hx => exact tCV))
    | ((with_reducible apply dopsF.op rfl); (case hs => (first | exact tHT | exact tHS)))
    | ((with_reducible apply dopsF.call); (case hx => exact tAG))
    | ((with_reducible apply dopsF.want); (case hg => exact tEV); (case hb => exact tNB))
    | ((with_reducible apply dopsF.skip); (case hg => exact tEV); (case hb => exact tNB))
    | ((with_reducible apply dopsF.und); (case hg => rfl))
    | ((with_reducible apply stabF.und); rfl)
    | ((with_reducible apply stabF.want); (case hg => exact tEV); (case hb => exact tNB))
    | ((with_reducible apply stabF.skip); (case hg => exact tEV); (case hb => exact tNB))
    | ((with_reducible apply stabF.op); (case hs => (first | exact tHT | exact tHS)); (case hv => exact tSV))
    | ((with_reducible apply retF.r); (case hv => exact tRS))
    | ((with_reducible apply retF.nn); (case hv => exact tRS)))
  all_goals exact ⟨rfl, rfl⟩
theorem ipu_call (a b : UInt8) (ha : isHexd a = true) (hb : isHexd b = true) (h : AH) : Call P w0 i_strconv_ParseUint [.v (.string (bs [a, b])), .v (.int .i64 16), .v (.int .i64 8)] h
    (fun v h' => v = .tup [.v (.int .u64 ((unhexd a * 16 + unhexd b : Nat) : Int)), .v .nilIface] ∧ h' = h) := by
  have hal := a.toNat_lt
  have hbl := b.toNat_lt
  simp only [isHexd, Bool.or_eq_true, Bool.and_eq_true, decide_eq_true_eq] at ha hb
  refine Call.bodyF b_i_strconv_ParseUint rfl rfl ?_
  unfold c_i_strconv_ParseUint
  rcases ha with ha | ha <;> rcases hb with hb | hb
  · have ea : unhexd a = a.toNat - 48 := by rw [unhexd, if_pos (by omega)]
    have eb : unhexd b = b.toNat - 48 := by rw [unhexd, if_pos (by omega)]
    repeat' (first
    | ((with_reducible apply opsF.op rfl); (case hs => (first | exact tHT | exact tHS)))
    | with_reducible (first | apply opsF.nil | apply seqF.nn | apply vcF.seq | apply vcF.region | apply vcF.dregion | apply vcF.skip | apply vcF.block | apply vcF.exit | apply vcF.ret | apply vcF.loop | apply seqF.e | apply seqF.r | apply blkF.nn | apply blkF.e | apply blkF.r | apply blkF.o rfl | apply dopsF.nil | apply stabsF.nil | apply stabsF.cons | apply dopsF.cont)
    | ((with_reducible apply opsF.call); (case hx => exact tAG))
    | ((with_reducible apply opsF.want); (case hg => exact tEV); (case hb => exact tNB))
    | ((with_reducible apply opsF.skip); (case hg => exact tEV); (case hb => exact tNB))
    | (first | ((with_reducible apply opsF.case); (case hg => exact tEV)) | ((with_reducible apply vcF.cond); (case hx => exact tEV)) | ((with_reducible apply dopsF.case); (case hg => exact tEV))) <;> ((intro hc; try simp only [Int.reduceLT, Int.reduceLE, Int.reduceEq, Int.reduceNe, Int.cast_ofNat_Int, Int.reduceNeg, decide_true, decide_false, not_true_eq_false, not_false_eq_true, decide_eq_true_eq, decide_eq_false_iff_not, Bool.not_eq_true', Bool.not_eq_false', Bool.not_true, Bool.not_false, Bool.false_eq_true, Bool.true_eq_false, Bool.not_eq_true, Bool.not_eq_false, beq_iff_eq, beq_eq_false_iff_ne, bne_iff_ne, bne_eq_false_iff_eq, ne_eq, Int.not_lt, Int.not_le, ge_iff_le, gt_iff_lt, Decidable.not_not, reduceCtorEq, *] at hc) <;> (try (exfalso; omega)))
    | ((with_reducible apply opsF.und); (case hg => rfl))
    | ((with_reducible apply opsF.callv); (case hf => exact tEV); (case hx => exact tCV))
    | ((with_reducible apply dopsF.op rfl); (case hs => (first | exact tHT | exact tHS)))
    | ((with_reducible apply dopsF.call); (case hx => exact tAG))
    | ((with_reducible apply dopsF.want); (case hg => exact tEV); (case hb => exact tNB))
    | ((with_reducible apply dopsF.skip); (case hg => exact tEV); (case hb => exact tNB))
    | ((with_reducible apply dopsF.und); (case hg => rfl))
    | ((with_reducible apply stabF.und); rfl)
    | ((with_reducible apply stabF.want); (case hg => exact tEV); (case hb => exact tNB))
    | ((with_reducible apply stabF.skip); (case hg => exact tEV); (case hb => exact tNB))
    | ((with_reducible apply stabF.op); (case hs => (first | exact tHT | exact tHS)); (case hv => exact tSV))
    | ((with_reducible apply retF.r); (case hv => exact tRS))
    | ((with_reducible apply retF.nn); (case hv => exact tRS))
    | with_reducible apply LpF.unfold rfl)
    refine ⟨?_, rfl⟩
    congr 4
    omega
  · have ea : unhexd a = a.toNat - 48 := by rw [unhexd, if_pos (by omega)]
    have eb : unhexd b = b.toNat - 87 := by rw [unhexd, if_neg (by omega)]
    repeat' (first
    | ((with_reducible apply opsF.op rfl); (case hs => (first | exact tHT | exact tHS)))
    | with_reducible (first | apply opsF.nil | apply seqF.nn | apply vcF.seq | apply vcF.region | apply vcF.dregion | apply vcF.skip | apply vcF.block | apply vcF.exit | apply vcF.ret | apply vcF.loop | apply seqF.e | apply seqF.r | apply blkF.nn | apply blkF.e | apply blkF.r | apply blkF.o rfl | apply dopsF.nil | apply stabsF.nil | apply stabsF.cons | apply dopsF.cont)
    | ((with_reducible apply opsF.call); (case hx => exact tAG))
    | ((with_reducible apply opsF.want); (case hg => exact tEV); (case hb => exact tNB))
    | ((with_reducible apply opsF.skip); (case hg => exact tEV); (case hb => exact tNB))
    | (first | ((with_reducible apply opsF.case); (case hg => exact tEV)) | ((with_reducible apply vcF.cond); (case hx => exact tEV)) | ((with_reducible apply dopsF.case); (case hg => exact tEV))) <;> ((intro hc; try simp only [Int.reduceLT, Int.reduceLE, Int.reduceEq, Int.reduceNe, Int.cast_ofNat_Int, Int.reduceNeg, decide_true, decide_false, not_true_eq_false, not_false_eq_true, decide_eq_true_eq, decide_eq_false_iff_not, Bool.not_eq_true', Bool.not_eq_false', Bool.not_true, Bool.not_false, Bool.false_eq_true, Bool.true_eq_false, Bool.not_eq_true, Bool.not_eq_false, beq_iff_eq, beq_eq_false_iff_ne, bne_iff_ne, bne_eq_false_iff_eq, ne_eq, Int.not_lt, Int.not_le, ge_iff_le, gt_iff_lt, Decidable.not_not, reduceCtorEq, *] at hc) <;> (try (exfalso; omega)))
    | ((with_reducible apply opsF.und); (case hg => rfl))
    | ((with_reducible apply opsF.callv); (case hf => exact tEV); (case hx => exact tCV))
    | ((with_reducible apply dopsF.op rfl); (case hs => (first | exact tHT | exact tHS)))
    | ((with_reducible apply dopsF.call); (case hx => exact tAG))
    | ((with_reducible apply dopsF.want); (case hg => exact tEV); (case hb => exact tNB))
    | ((with_reducible apply dopsF.skip); (case hg => exact tEV); (case hb => exact tNB))
    | ((with_reducible apply dopsF.und); (case hg => rfl))
    | ((with_reducible apply stabF.und); rfl)
    | ((with_reducible apply stabF.want); (case hg => exact tEV); (case hb => exact tNB))
    | ((with_reducible apply stabF.skip); (case hg => exact tEV); (case hb => exact tNB))
    | ((with_reducible apply stabF.op); (case hs => (first | exact tHT | exact tHS)); (case hv => exact tSV))
    | ((with_reducible apply retF.r); (case hv => exact tRS))
    | ((with_reducible apply retF.nn); (case hv => exact tRS))
    | with_reducible apply LpF.unfold rfl
    | ((refine (lower_call b (by omega) _).mono fun v h' hp => ?_); obtain ⟨rfl, rfl⟩ := hp))
    refine ⟨?_, rfl⟩
    congr 4
    omega
  · have ea : unhexd a = a.toNat - 87 := by rw [unhexd, if_neg (by omega)]
    have eb : unhexd b = b.toNat - 48 := by rw [unhexd, if_pos (by omega)]
    repeat' (first
    | ((with_reducible apply opsF.op rfl); (case hs => (first | exact tHT | exact tHS)))
    | with_reducible (first | apply opsF.nil | apply seqF.nn | apply vcF.seq | apply vcF.region | apply vcF.dregion | apply vcF.skip | apply vcF.block | apply vcF.exit | apply vcF.ret | apply vcF.loop | apply seqF.e | apply seqF.r | apply blkF.nn | apply blkF.e | apply blkF.r | apply blkF.o rfl | apply dopsF.nil | apply stabsF.nil | apply stabsF.cons | apply dopsF.cont)
    | ((with_reducible apply opsF.call); (case hx => exact tAG))
    | ((with_reducible apply opsF.want); (case hg => exact tEV); (case hb => exact tNB))
    | ((with_reducible apply opsF.skip); (case hg => exact tEV); (case hb => exact tNB))
    | (first | ((with_reducible apply opsF.case); (case hg => exact tEV)) | ((with_reducible apply vcF.cond); (case hx => exact tEV)) | ((with_reducible apply dopsF.case); (case hg => exact tEV))) <;> ((intro hc; try simp only [Int.reduceLT, Int.reduceLE, Int.reduceEq, Int.reduceNe, Int.cast_ofNat_Int, Int.reduceNeg, decide_true, decide_false, not_true_eq_false, not_false_eq_true, decide_eq_true_eq, decide_eq_false_iff_not, Bool.not_eq_true', Bool.not_eq_false', Bool.not_true, Bool.not_false, Bool.false_eq_true, Bool.true_eq_false, Bool.not_eq_true, Bool.not_eq_false, beq_iff_eq, beq_eq_false_iff_ne, bne_iff_ne, bne_eq_false_iff_eq, ne_eq, Int.not_lt, Int.not_le, ge_iff_le, gt_iff_lt, Decidable.not_not, reduceCtorEq, *] at hc) <;> (try (exfalso; omega)))
    | ((with_reducible apply opsF.und); (case hg => rfl))
    | ((with_reducible apply opsF.callv); (case hf => exact tEV); (case hx => exact tCV))
    | ((with_reducible apply dopsF.op rfl); (case hs => (first | exact tHT | exact tHS)))
    | ((with_reducible apply dopsF.call); (case hx => exact tAG))
    | ((with_reducible apply dopsF.want); (case hg => exact tEV); (case hb => exact tNB))
    | ((with_reducible apply dopsF.skip); (case hg => exact tEV); (case hb => exact tNB))
    | ((with_reducible apply dopsF.und); (case hg => rfl))
    | ((with_reducible apply stabF.und); rfl)
    | ((with_reducible apply stabF.want); (case hg => exact tEV); (case hb => exact tNB))
    | ((with_reducible apply stabF.skip); (case hg => exact tEV); (case hb => exact tNB))
    | ((with_reducible apply stabF.op); (case hs => (first | exact tHT | exact tHS)); (case hv => exact tSV))
    | ((with_reducible apply retF.r); (case hv => exact tRS))
    | ((with_reducible apply retF.nn); (case hv => exact tRS))
    | with_reducible apply LpF.unfold rfl
    | ((refine (lower_call a (by omega) _).mono fun v h' hp => ?_); obtain ⟨rfl, rfl⟩ := hp))
    refine ⟨?_, rfl⟩
    congr 4
    omega
  · have ea : unhexd a = a.toNat - 87 := by rw [unhexd, if_neg (by omega)]
    have eb : unhexd b = b.toNat - 87 := by rw [unhexd, if_neg (by omega)]
    repeat' (first
    | ((with_reducible apply opsF.op rfl); (case hs => (first | exact tHT | exact tHS)))
    | with_reducible (first | apply opsF.nil | apply seqF.nn | apply vcF.seq | apply vcF.region | apply vcF.dregion | apply vcF.skip | apply vcF.block | apply vcF.exit | apply vcF.ret | apply vcF.loop | apply seqF.e | apply seqF.r | apply blkF.nn | apply blkF.e | apply blkF.r | apply blkF.o rfl | apply dopsF.nil | apply stabsF.nil | apply stabsF.cons | apply dopsF.cont)
    | ((with_reducible apply opsF.call); (case hx => exact tAG))
    | ((with_reducible apply opsF.want); (case hg => exact tEV); (case hb => exact tNB))
    | ((with_reducible apply opsF.skip); (case hg => exact tEV); (case hb => exact tNB))
    | (first | ((with_reducible apply opsF.case); (case hg => exact tEV)) | ((with_reducible apply vcF.cond); (case hx => exact tEV)) | ((with_reducible apply dopsF.case); (case hg => exact tEV))) <;> ((intro hc; try simp only [Int.reduceLT, Int.reduceLE, Int.reduceEq, Int.reduceNe, Int.cast_ofNat_Int, Int.reduceNeg, decide_true, decide_false, not_true_eq_false, not_false_eq_true, decide_eq_true_eq, decide_eq_false_iff_not, Bool.not_eq_true', Bool.not_eq_false', Bool.not_true, Bool.not_false, Bool.false_eq_true, Bool.true_eq_false, Bool.not_eq_true, Bool.not_eq_false, beq_iff_eq, beq_eq_false_iff_ne, bne_iff_ne, bne_eq_false_iff_eq, ne_eq, Int.not_lt, Int.not_le, ge_iff_le, gt_iff_lt, Decidable.not_not, reduceCtorEq, *] at hc) <;> (try (exfalso; omega)))
    | ((with_reducible apply opsF.und); (case hg => rfl))
    | ((with_reducible apply opsF.callv); (case hf => exact tEV); (case hx => exact tCV))
    | ((with_reducible apply dopsF.op rfl); (case hs => (first | exact tHT | exact tHS)))
    | ((with_reducible apply dopsF.call); (case hx => exact tAG))
    | ((with_reducible apply dopsF.want); (case hg => exact tEV); (case hb => exact tNB))
    | ((with_reducible apply dopsF.skip); (case hg => exact tEV); (case hb => exact tNB))
    | ((with_reducible apply dopsF.und); (case hg => rfl))
    | ((with_reducible apply stabF.und); rfl)
    | ((with_reducible apply stabF.want); (case hg => exact tEV); (case hb => exact tNB))
    | ((with_reducible apply stabF.skip); (case hg => exact tEV); (case hb => exact tNB))
    | ((with_reducible apply stabF.op); (case hs => (first | exact tHT | exact tHS)); (case hv => exact tSV))
    | ((with_reducible apply retF.r); (case hv => exact tRS))
    | ((with_reducible apply retF.nn); (case hv => exact tRS))
    | with_reducible apply LpF.unfold rfl
    | ((refine (lower_call a (by omega) _).mono fun v h' hp => ?_); obtain ⟨rfl, rfl⟩ := hp)
    | ((refine (lower_call b (by omega) _).mono fun v h' hp => ?_); obtain ⟨rfl, rfl⟩ := hp))
    refine ⟨?_, rfl⟩
    congr 4
    omega
theorem pu_call (a b : UInt8) (ha : isHexd a = true) (hb : isHexd b = true) (h : AH) : Call P w0 strconv_ParseUint [.v (.string (bs [a, b])), .v (.int .i64 16), .v (.int .i64 8)] h
    (fun v h' => v = .tup [.v (.int .u64 ((unhexd a * 16 + unhexd b : Nat) : Int)), .v .nilIface] ∧ h' = h) := by
  refine Call.bodyF b_strconv_ParseUint rfl rfl ?_
  unfold c_strconv_ParseUint
  repeat' (first
    | ((with_reducible apply opsF.op rfl); (case hs => (first | exact tHT | exact tHS)))
    | with_reducible (first | apply opsF.nil | apply seqF.nn | apply vcF.seq | apply vcF.region | apply vcF.dregion | apply vcF.skip | apply vcF.block | apply vcF.exit | apply vcF.ret | apply vcF.loop | apply seqF.e | apply seqF.r | apply blkF.nn | apply blkF.e | apply blkF.r | apply blkF.o rfl | apply dopsF.nil | apply stabsF.nil | apply stabsF.cons | apply dopsF.cont)
    | ((with_reducible apply opsF.call); (case hx => exact tAG))
    | ((with_reducible apply opsF.want); (case hg => exact tEV); (case hb => exact tNB))
    | ((with_reducible apply opsF.skip); (case hg => exact tEV); (case hb => exact tNB))
    | (first | ((with_reducible apply opsF.case); (case hg => exact tEV)) | ((with_reducible apply vcF.cond); (case hx => exact tEV)) | ((with_reducible apply dopsF.case); (case hg => exact tEV))) <;> ((intro hc; try simp only [Int.reduceLT, Int.reduceLE, Int.reduceEq, Int.reduceNe, Int.cast_ofNat_Int, Int.reduceNeg, decide_true, decide_false, not_true_eq_false, not_false_eq_true, decide_eq_true_eq, decide_eq_false_iff_not, Bool.not_eq_true', Bool.not_eq_false', Bool.not_true, Bool.not_false, Bool.false_eq_true, Bool.true_eq_false, Bool.not_eq_true, Bool.not_eq_false, beq_iff_eq, beq_eq_false_iff_ne, bne_iff_ne, bne_eq_false_iff_eq, ne_eq, Int.not_lt, Int.not_le, ge_iff_le, gt_iff_lt, Decidable.not_not, reduceCtorEq, *] at hc) <;> (try (exfalso; omega)))
    | ((with_reducible apply opsF.und); (case hg => rfl))
    | ((with_reducible apply opsF.callv); (case hf => exact tEV); (case hx => exact tCV))
    | ((with_reducible apply dopsF.op rfl); (case hs => (first | exact tHT | exact tHS)))
    | ((with_reducible apply dopsF.call); (case hx => exact tAG))
    | ((with_reducible apply dopsF.want); (case hg => exact tEV); (case hb => exact tNB))
    | ((with_reducible apply dopsF.skip); (case hg => exact tEV); (case hb => exact tNB))
    | ((with_reducible apply dopsF.und); (case hg => rfl))
    | ((with_reducible apply stabF.und); rfl)
    | ((with_reducible apply stabF.want); (case hg => exact tEV); (case hb => exact tNB))
    | ((with_reducible apply stabF.skip); (case hg => exact tEV); (case hb => exact tNB))
    | ((with_reducible apply stabF.op); (case hs => (first | exact tHT | exact tHS)); (case hv => exact tSV))
    | ((with_reducible apply retF.r); (case hv => exact tRS))
    | ((with_reducible apply retF.nn); (case hv => exact tRS))
    | ((refine (ipu_call a b ha hb _).mono fun v h' hp => ?_); obtain ⟨rfl, rfl⟩ := hp))
  all_goals exact ⟨rfl, rfl⟩
end Go.Abs.F
