/- What the proof needs, part 20: The reference's numbers. -/
import Derived.Test.YtlmgpkopcgcbgaaDoorQSendStops10
import Derived.Test.YtlmgpkopcgcbgaaDoorQSendStops11
import Derived.Lib.AtoiAll
/- The reference's numbers. -/
namespace Go.Abs.F
open Go Go.Abs
set_option maxRecDepth 10000
set_option maxHeartbeats 20000000
set_option linter.unusedSimpArgs false
set_option linter.unusedVariables false
variable {w0 : World}
/-- A number's digits. -/
def udecS (n : Nat) : List UInt8 := if h : n < 10 then [UInt8.ofNat (48 + n)] else udecS (n / 10) ++ [UInt8.ofNat (48 + n % 10)]
termination_by n
decreasing_by omega
theorem udecS_len (k : Nat) : ∀ n, n < 10 ^ (k + 1) → (udecS n).length ≤ k + 1 := by
  induction k with
  | zero =>
    intro n hn
    rw [udecS, dif_pos (by omega)]
    simp
  | succ k ih =>
    intro n hn
    rw [udecS]
    split
    · simp
    · have := ih (n / 10) (by rw [Nat.pow_succ] at hn; omega)
      simp only [List.length_append, List.length_cons, List.length_nil]
      omega
theorem udecS_20 (n : Nat) (h : n ≤ 18446744073709551615) : (udecS n).length ≤ 20 := udecS_len 19 n (by omega)
theorem udec_call (n : Nat) : ∀ (h : AH), n ≤ 18446744073709551615 → Call P w0 ref01_udec [.v (.int .u64 (n : Int))] h (fun v h' => v = .v (.string (bs (udecS n))) ∧ h' = h) := by
  induction n using Nat.strongRecOn with
  | _ n ih =>
    intro h hn
    refine Call.bodyF b_ref01_udec rfl rfl ?_
    unfold c_ref01_udec
    rcases Nat.lt_or_ge n 10 with hlt | hge
    · have hq : (48 + (n : Int)).toNat = 48 + n := by omega
      repeat' (first
| ((with_reducible first | apply opsF.op rfl | apply dopsF.op rfl); case hs => first | exact tHT | exact tHS)
| (with_reducible first | apply opsF.nil | apply seqF.nn | apply vcF.seq | apply vcF.region | apply vcF.dregion | apply vcF.skip | apply vcF.ret | apply seqF.r | apply dopsF.nil | apply stabsF.nil | apply stabsF.cons | apply dopsF.cont)
| ((with_reducible first | apply opsF.call | apply dopsF.call); case hx => exact tAG)
| ((with_reducible first | apply opsF.want | apply dopsF.want | apply stabF.want); (case hg => exact tEV); case hb => exact tNB)
| ((with_reducible first | apply opsF.skip | apply dopsF.skip | apply stabF.skip); (case hg => exact tEV); case hb => exact tNB)
| (first | ((with_reducible first | apply opsF.case | apply dopsF.case); case hg => exact tEV) | ((with_reducible apply vcF.cond); case hx => exact tEV)) <;> ((intro hc; try simp only [Int.reduceLT, Int.reduceLE, Int.reduceEq, Int.reduceNe, Int.cast_ofNat_Int, Int.reduceNeg, reduceCtorEq, ne_eq, ge_iff_le, gt_iff_lt, beq_iff_eq, beq_eq_false_iff_ne, bne_iff_ne, bne_eq_false_iff_eq, nrm, *] at hc) <;> try (exfalso; omega))
| ((with_reducible first | apply opsF.und | apply dopsF.und); case hg => rfl)
| ((with_reducible apply stabF.und); rfl)
| ((with_reducible apply stabF.op); (case hs => first | exact tHT | exact tHS); case hv => exact tSV)
| ((with_reducible first | apply retF.r | apply retF.nn); case hv => exact tRS))
      refine ⟨?_, rfl⟩
      rw [udecS, dif_pos hlt]
      try rw [hq]
    · have hq : Int.tdiv (n : Int) 10 = ((n / 10 : Nat) : Int) := by rw [Int.tdiv_eq_ediv_of_nonneg (by omega)]; rfl
      have hr : Int.tmod (n : Int) 10 = ((n % 10 : Nat) : Int) := by rw [Int.tmod_eq_emod_of_nonneg (by omega)]; rfl
      have hr2 : n % 10 < 10 := Nat.mod_lt _ (by omega)
      have hq2 : n / 10 < n := by omega
      have hlen := udecS_20 (n / 10) (by omega)
      repeat' (first
| ((with_reducible first | apply opsF.op rfl | apply dopsF.op rfl); case hs => first | exact tHT | exact tHS)
| (with_reducible first | apply opsF.nil | apply seqF.nn | apply vcF.seq | apply vcF.region | apply vcF.dregion | apply vcF.skip | apply vcF.ret | apply seqF.r | apply dopsF.nil | apply stabsF.nil | apply stabsF.cons | apply dopsF.cont)
| ((with_reducible first | apply opsF.call | apply dopsF.call); case hx => exact tAG)
| ((with_reducible first | apply opsF.want | apply dopsF.want | apply stabF.want); (case hg => exact tEV); case hb => exact tNB)
| ((with_reducible first | apply opsF.skip | apply dopsF.skip | apply stabF.skip); (case hg => exact tEV); case hb => exact tNB)
| (first | ((with_reducible first | apply opsF.case | apply dopsF.case); case hg => exact tEV) | ((with_reducible apply vcF.cond); case hx => exact tEV)) <;> ((intro hc; try simp only [Int.reduceLT, Int.reduceLE, Int.reduceEq, Int.reduceNe, Int.cast_ofNat_Int, Int.reduceNeg, reduceCtorEq, ne_eq, ge_iff_le, gt_iff_lt, beq_iff_eq, beq_eq_false_iff_ne, bne_iff_ne, bne_eq_false_iff_eq, nrm, *] at hc) <;> try (exfalso; omega))
| ((with_reducible first | apply opsF.und | apply dopsF.und); case hg => rfl)
| ((with_reducible apply stabF.und); rfl)
| ((with_reducible apply stabF.op); (case hs => first | exact tHT | exact tHS); case hv => exact tSV)
| ((with_reducible first | apply retF.r | apply retF.nn); case hv => exact tRS)
| ((refine (ih (n / 10) hq2 _ (by omega)).mono fun v h' hp => ?_); obtain ⟨rfl, rfl⟩ := hp))
      refine ⟨?_, rfl⟩
      conv => rhs; rw [udecS]
      rw [dif_neg (by omega)]
      first | rfl | (rw [show (48 + ((n % 10 : Nat) : Int)).toNat = 48 + n % 10 by omega])
theorem dec_call (n : Nat) (h : AH) (hn : n ≤ 9223372036854775807) : Call P w0 ref01_Dec [.v (.int .i64 (n : Int))] h (fun v h' => v = .v (.string (bs (udecS n))) ∧ h' = h) := by
  refine Call.bodyF b_ref01_Dec rfl rfl ?_
  unfold c_ref01_Dec
  repeat' (first
| ((with_reducible apply opsF.op rfl); case hs => first | exact tHT | exact tHS)
| (with_reducible first | apply opsF.nil | apply seqF.nn | apply vcF.seq | apply vcF.region | apply vcF.skip | apply vcF.ret | apply seqF.r)
| ((with_reducible apply opsF.call); case hx => exact tAG)
| ((with_reducible apply vcF.cond); case hx => exact tEV) <;> ((intro hc; try simp only [Int.reduceLT, Int.reduceLE, Int.reduceEq, Int.reduceNe, Int.cast_ofNat_Int, Int.reduceNeg, reduceCtorEq, ne_eq, ge_iff_le, gt_iff_lt, beq_iff_eq, beq_eq_false_iff_ne, bne_iff_ne, bne_eq_false_iff_eq, nrm, *] at hc) <;> try (exfalso; omega))
| ((with_reducible first | apply retF.r | apply retF.nn); case hv => exact tRS)
| ((refine (udec_call n _ (by omega)).mono fun v h' hp => ?_); obtain ⟨rfl, rfl⟩ := hp))
  all_goals exact ⟨rfl, rfl⟩
/-! numbers read back -/
end Go.Abs.F
