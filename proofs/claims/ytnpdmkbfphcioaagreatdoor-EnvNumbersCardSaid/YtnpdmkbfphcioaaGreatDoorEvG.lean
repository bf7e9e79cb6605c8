/- Layer 11: the reader of texts. Layer 11: numbers and marks of texts. -/
import Derived.Test.YtnpdmkbfphcioaaGreatDoorEvC
namespace Go.Abs.F
open Go Go.Abs
set_option maxRecDepth 10000
set_option maxHeartbeats 20000000
set_option linter.unusedSimpArgs false
set_option linter.unusedVariables false
variable {w0 : World}
theorem set_twice (h : AH) (id : Nat) (a b : AObj) : (h.set id a).set id b = h.set id b := by
  have e : ∀ i o, (h.set id o).objs i = if i = id then some o else h.objs i := fun i o => rfl
  unfold AH.set
  congr 1
  funext i
  by_cases hi : i = id <;> simp [hi]
theorem preB_short {p s : L8} (h : ¬ p.length ≤ s.length) : preB p s = false := by
  refine decide_eq_false fun e => h ?_
  have := congrArg List.length e
  rw [List.length_take] at this
  omega
theorem hasPG (s p : L8) (h : AH) : Call P w0 i_stringslite_HasPrefix [.v (.string (bs s)), .v (.string (bs p))] h (fun v h' => v = .v (.bool (preB p s)) ∧ h' = h) := by
  refine Call.bodyF b_i_stringslite_HasPrefix rfl rfl ?_
  unfold c_i_stringslite_HasPrefix
  by_cases hl : p.length ≤ s.length
  · have hl2 : (p.length : Int) ≤ s.length := by omega
    by_cases hp : s.take p.length = p
    · have : preB p s = true := decide_eq_true hp
      rw [this]
      clear this
      repeat' (first
    | ((with_reducible apply opsF.op rfl); (case hs => (first | exact tHT | exact tHS)))
    | with_reducible (first | apply opsF.nil | apply seqF.nn | apply vcF.seq | apply vcF.region | apply vcF.skip | apply vcF.ret | apply seqF.r)
    | ((with_reducible apply opsF.call); (case hx => exact tAG))
    | ((with_reducible apply opsF.want); (case hg => exact tEV); (case hb => exact tNB))
    | ((with_reducible apply opsF.skip); (case hg => exact tEV); (case hb => exact tNB))
    | (first | ((with_reducible apply opsF.case); (case hg => exact tEV)) | ((with_reducible apply vcF.cond); (case hx => exact tEV))) <;> ((intro hc; try simp only [Int.reduceLT, Int.reduceLE, Int.reduceEq, Int.reduceNe, Int.cast_ofNat_Int, Int.reduceNeg, decide_true, decide_false, not_true_eq_false, not_false_eq_true, decide_eq_true_eq, decide_eq_false_iff_not, Bool.not_eq_true', Bool.not_eq_false', Bool.not_true, Bool.not_false, Bool.false_eq_true, Bool.true_eq_false, Bool.not_eq_true, Bool.not_eq_false, beq_iff_eq, beq_eq_false_iff_ne, bne_iff_ne, bne_eq_false_iff_eq, ne_eq, Int.not_lt, Int.not_le, ge_iff_le, gt_iff_lt, Decidable.not_not, reduceCtorEq, *] at hc) <;> (try (exfalso; omega)))
    | ((with_reducible apply opsF.und); (case hg => rfl))
    | ((with_reducible apply retF.r); (case hv => exact tRS))
    | ((with_reducible apply retF.nn); (case hv => exact tRS)))
      all_goals first | exact ⟨rfl, rfl⟩ | exact ⟨by simp [hp], rfl⟩
    · have : preB p s = false := decide_eq_false hp
      rw [this]
      clear this
      repeat' (first
    | ((with_reducible apply opsF.op rfl); (case hs => (first | exact tHT | exact tHS)))
    | with_reducible (first | apply opsF.nil | apply seqF.nn | apply vcF.seq | apply vcF.region | apply vcF.skip | apply vcF.ret | apply seqF.r)
    | ((with_reducible apply opsF.call); (case hx => exact tAG))
    | ((with_reducible apply opsF.want); (case hg => exact tEV); (case hb => exact tNB))
    | ((with_reducible apply opsF.skip); (case hg => exact tEV); (case hb => exact tNB))
    | (first | ((with_reducible apply opsF.case); (case hg => exact tEV)) | ((with_reducible apply vcF.cond); (case hx => exact tEV))) <;> ((intro hc; try simp only [Int.reduceLT, Int.reduceLE, Int.reduceEq, Int.reduceNe, Int.cast_ofNat_Int, Int.reduceNeg, decide_true, decide_false, not_true_eq_false, not_false_eq_true, decide_eq_true_eq, decide_eq_false_iff_not, Bool.not_eq_true', Bool.not_eq_false', Bool.not_true, Bool.not_false, Bool.false_eq_true, Bool.true_eq_false, Bool.not_eq_true, Bool.not_eq_false, beq_iff_eq, beq_eq_false_iff_ne, bne_iff_ne, bne_eq_false_iff_eq, ne_eq, Int.not_lt, Int.not_le, ge_iff_le, gt_iff_lt, Decidable.not_not, reduceCtorEq, *] at hc) <;> (try (exfalso; omega)))
    | ((with_reducible apply opsF.und); (case hg => rfl))
    | ((with_reducible apply retF.r); (case hv => exact tRS))
    | ((with_reducible apply retF.nn); (case hv => exact tRS)))
      all_goals first | exact ⟨rfl, rfl⟩ | exact ⟨by simp [hp], rfl⟩
  · have hl2 : ¬ (p.length : Int) ≤ s.length := by omega
    rw [preB_short hl]
    repeat' (first
    | ((with_reducible apply opsF.op rfl); (case hs => (first | exact tHT | exact tHS)))
    | with_reducible (first | apply opsF.nil | apply seqF.nn | apply vcF.seq | apply vcF.region | apply vcF.skip | apply vcF.ret | apply seqF.r)
    | ((with_reducible apply opsF.call); (case hx => exact tAG))
    | ((with_reducible apply opsF.want); (case hg => exact tEV); (case hb => exact tNB))
    | ((with_reducible apply opsF.skip); (case hg => exact tEV); (case hb => exact tNB))
    | (first | ((with_reducible apply opsF.case); (case hg => exact tEV)) | ((with_reducible apply vcF.cond); (case hx => exact tEV))) <;> ((intro hc; try simp only [Int.reduceLT, Int.reduceLE, Int.reduceEq, Int.reduceNe, Int.cast_ofNat_Int, Int.reduceNeg, decide_true, decide_false, not_true_eq_false, not_false_eq_true, decide_eq_true_eq, decide_eq_false_iff_not, Bool.not_eq_true', Bool.not_eq_false', Bool.not_true, Bool.not_false, Bool.false_eq_true, Bool.true_eq_false, Bool.not_eq_true, Bool.not_eq_false, beq_iff_eq, beq_eq_false_iff_ne, bne_iff_ne, bne_eq_false_iff_eq, ne_eq, Int.not_lt, Int.not_le, ge_iff_le, gt_iff_lt, Decidable.not_not, reduceCtorEq, *] at hc) <;> (try (exfalso; omega)))
    | ((with_reducible apply opsF.und); (case hg => rfl))
    | ((with_reducible apply retF.r); (case hv => exact tRS))
    | ((with_reducible apply retF.nn); (case hv => exact tRS)))
    all_goals exact ⟨rfl, rfl⟩
theorem shasPG (s p : L8) (h : AH) : Call P w0 strings_HasPrefix [.v (.string (bs s)), .v (.string (bs p))] h (fun v h' => v = .v (.bool (preB p s)) ∧ h' = h) := by
  refine Call.bodyF b_strings_HasPrefix rfl rfl ?_
  unfold c_strings_HasPrefix
  repeat' (first
    | ((with_reducible apply opsF.op rfl); (case hs => (first | exact tHT | exact tHS)))
    | with_reducible (first | apply opsF.nil | apply seqF.nn | apply vcF.seq | apply vcF.region | apply vcF.skip | apply vcF.ret | apply seqF.r)
    | ((with_reducible apply opsF.call); (case hx => exact tAG))
    | (first | ((with_reducible apply vcF.cond); (case hx => exact tEV))) <;> ((intro hc; try simp only [Int.reduceLT, Int.reduceLE, Int.reduceEq, Int.reduceNe, Int.cast_ofNat_Int, Int.reduceNeg, decide_true, decide_false, not_true_eq_false, not_false_eq_true, decide_eq_true_eq, decide_eq_false_iff_not, Bool.not_eq_true', Bool.not_eq_false', Bool.not_true, Bool.not_false, Bool.false_eq_true, Bool.true_eq_false, Bool.not_eq_true, Bool.not_eq_false, beq_iff_eq, beq_eq_false_iff_ne, bne_iff_ne, bne_eq_false_iff_eq, ne_eq, Int.not_lt, Int.not_le, ge_iff_le, gt_iff_lt, Decidable.not_not, reduceCtorEq, *] at hc) <;> (try (exfalso; omega)))
    | ((with_reducible apply retF.r); (case hv => exact tRS))
    | ((with_reducible apply retF.nn); (case hv => exact tRS))
    | ((refine Call.use (hasPG s p _) ?_)))
  all_goals exact ⟨rfl, rfl⟩
theorem lcutPG (s p : L8) (h : AH) (hl : s.length ≤ 9000000000) : Call P w0 i_stringslite_CutPrefix [.v (.string (bs s)), .v (.string (bs p))] h
    (fun v h' => v = .tup [.v (.string (bs (if preB p s then s.drop p.length else s))), .v (.bool (preB p s))] ∧ h' = h) := by
  refine Call.bodyF b_i_stringslite_CutPrefix rfl rfl ?_
  unfold c_i_stringslite_CutPrefix
  have hp := fun h => hasPG (w0 := w0) s p h
  have hlen : preB p s = true → p.length ≤ s.length := fun e => by
    apply Classical.byContradiction
    intro hn
    rw [preB_short hn] at e
    cases e
  cases hq : preB p s with
  | true =>
    have hl2 : (p.length : Int) ≤ s.length := by have := hlen hq; omega
    rw [hq] at hp
    clear hlen hq
    repeat' (first
    | ((with_reducible apply opsF.op rfl); (case hs => (first | exact tHT | exact tHS)))
    | with_reducible (first | apply opsF.nil | apply seqF.nn | apply vcF.seq | apply vcF.region | apply vcF.skip | apply vcF.ret | apply seqF.r)
    | ((with_reducible apply opsF.call); (case hx => exact tAG))
    | (first | ((with_reducible apply vcF.cond); (case hx => exact tEV))) <;> ((intro hc; try simp only [Int.reduceLT, Int.reduceLE, Int.reduceEq, Int.reduceNe, Int.cast_ofNat_Int, Int.reduceNeg, decide_true, decide_false, not_true_eq_false, not_false_eq_true, decide_eq_true_eq, decide_eq_false_iff_not, Bool.not_eq_true', Bool.not_eq_false', Bool.not_true, Bool.not_false, Bool.false_eq_true, Bool.true_eq_false, Bool.not_eq_true, Bool.not_eq_false, beq_iff_eq, beq_eq_false_iff_ne, bne_iff_ne, bne_eq_false_iff_eq, ne_eq, Int.not_lt, Int.not_le, ge_iff_le, gt_iff_lt, Decidable.not_not, reduceCtorEq, *] at hc) <;> (try (exfalso; omega)))
    | ((with_reducible apply retF.r); (case hv => exact tRS))
    | ((with_reducible apply retF.nn); (case hv => exact tRS))
    | ((refine Call.use (hp _) ?_)))
    all_goals (refine ⟨?_, rfl⟩; simp [List.take_length])
  | false =>
    rw [hq] at hp
    clear hlen hq
    repeat' (first
    | ((with_reducible apply opsF.op rfl); (case hs => (first | exact tHT | exact tHS)))
    | with_reducible (first | apply opsF.nil | apply seqF.nn | apply vcF.seq | apply vcF.region | apply vcF.skip | apply vcF.ret | apply seqF.r)
    | ((with_reducible apply opsF.call); (case hx => exact tAG))
    | (first | ((with_reducible apply vcF.cond); (case hx => exact tEV))) <;> ((intro hc; try simp only [Int.reduceLT, Int.reduceLE, Int.reduceEq, Int.reduceNe, Int.cast_ofNat_Int, Int.reduceNeg, decide_true, decide_false, not_true_eq_false, not_false_eq_true, decide_eq_true_eq, decide_eq_false_iff_not, Bool.not_eq_true', Bool.not_eq_false', Bool.not_true, Bool.not_false, Bool.false_eq_true, Bool.true_eq_false, Bool.not_eq_true, Bool.not_eq_false, beq_iff_eq, beq_eq_false_iff_ne, bne_iff_ne, bne_eq_false_iff_eq, ne_eq, Int.not_lt, Int.not_le, ge_iff_le, gt_iff_lt, Decidable.not_not, reduceCtorEq, *] at hc) <;> (try (exfalso; omega)))
    | ((with_reducible apply retF.r); (case hv => exact tRS))
    | ((with_reducible apply retF.nn); (case hv => exact tRS))
    | ((refine Call.use (hp _) ?_)))
    all_goals (refine ⟨?_, rfl⟩; simp)
theorem scutPG (s p : L8) (h : AH) (hl : s.length ≤ 9000000000) : Call P w0 strings_CutPrefix [.v (.string (bs s)), .v (.string (bs p))] h
    (fun v h' => v = .tup [.v (.string (bs (if preB p s then s.drop p.length else s))), .v (.bool (preB p s))] ∧ h' = h) := by
  refine Call.bodyF b_strings_CutPrefix rfl rfl ?_
  unfold c_strings_CutPrefix
  have hp := fun h => lcutPG (w0 := w0) s p h hl
  generalize (if preB p s then s.drop p.length else s) = x at *
  generalize preB p s = y at *
  repeat' (first
    | ((with_reducible apply opsF.op rfl); (case hs => (first | exact tHT | exact tHS)))
    | with_reducible (first | apply opsF.nil | apply seqF.nn | apply vcF.seq | apply vcF.region | apply vcF.skip | apply vcF.ret | apply seqF.r)
    | ((with_reducible apply opsF.call); (case hx => exact tAG))
    | (first | ((with_reducible apply vcF.cond); (case hx => exact tEV))) <;> ((intro hc; try simp only [Int.reduceLT, Int.reduceLE, Int.reduceEq, Int.reduceNe, Int.cast_ofNat_Int, Int.reduceNeg, decide_true, decide_false, not_true_eq_false, not_false_eq_true, decide_eq_true_eq, decide_eq_false_iff_not, Bool.not_eq_true', Bool.not_eq_false', Bool.not_true, Bool.not_false, Bool.false_eq_true, Bool.true_eq_false, Bool.not_eq_true, Bool.not_eq_false, beq_iff_eq, beq_eq_false_iff_ne, bne_iff_ne, bne_eq_false_iff_eq, ne_eq, Int.not_lt, Int.not_le, ge_iff_le, gt_iff_lt, Decidable.not_not, reduceCtorEq, *] at hc) <;> (try (exfalso; omega)))
    | ((with_reducible apply retF.r); (case hv => exact tRS))
    | ((with_reducible apply retF.nn); (case hv => exact tRS))
    | ((refine Call.use (hp _) ?_)))
  all_goals exact ⟨rfl, rfl⟩
/-! the reader -/
def rdC (s : L8) (bad : Bool) : AObj := .cells [.v (.string (bs s)), .v (.bool bad)]
theorem rline_call (id : Nat) (s : L8) (bad : Bool) (h : AH) (ho : h.objs id = some (rdC s bad)) (hlt : id < h.n) (hl : s.length ≤ 9000000000) :
    Call P w0 env_reader_line [.ptr id 0] h (fun v h' => v = .v (.string (bs (cutB 10 s).1)) ∧ h' = h.set id (rdC (cutB 10 s).2.1 (bad || !(cutB 10 s).2.2))) := by
  have hc := fun h => cut_call (w0 := w0) s 10 h (by omega)
  unfold rdC at ho
  refine Call.bodyF b_env_reader_line rfl rfl ?_
  unfold c_env_reader_line
  generalize cutB 10 s = q at *
  obtain ⟨a, r, ok⟩ := q
  simp only at hc ⊢
  cases bad with
  | true =>
    repeat' (first
    | ((with_reducible apply opsF.op rfl); (case hs => (first | exact tHT | exact tHS)))
    | with_reducible (first | apply opsF.nil | apply seqF.nn | apply vcF.seq | apply vcF.region | apply vcF.skip | apply vcF.ret | apply seqF.r)
    | ((with_reducible apply opsF.call); (case hx => exact tAG))
    | ((with_reducible apply opsF.want); (case hg => exact tEV); (case hb => exact tNB))
    | ((with_reducible apply opsF.skip); (case hg => exact tEV); (case hb => exact tNB))
    | (first | ((with_reducible apply opsF.case); (case hg => exact tEV)) | ((with_reducible apply vcF.cond); (case hx => exact tEV))) <;> ((intro hc; try simp only [Int.reduceLT, Int.reduceLE, Int.reduceEq, Int.reduceNe, Int.cast_ofNat_Int, Int.reduceNeg, decide_true, decide_false, not_true_eq_false, not_false_eq_true, decide_eq_true_eq, decide_eq_false_iff_not, Bool.not_eq_true', Bool.not_eq_false', Bool.not_true, Bool.not_false, Bool.false_eq_true, Bool.true_eq_false, Bool.not_eq_true, Bool.not_eq_false, beq_iff_eq, beq_eq_false_iff_ne, bne_iff_ne, bne_eq_false_iff_eq, ne_eq, Int.not_lt, Int.not_le, ge_iff_le, gt_iff_lt, Decidable.not_not, reduceCtorEq, *] at hc) <;> (try (exfalso; omega)))
    | ((with_reducible apply opsF.und); (case hg => rfl))
    | ((with_reducible apply retF.r); (case hv => exact tRS))
    | ((with_reducible apply retF.nn); (case hv => exact tRS))
    | ((refine Call.use (hc _) ?_)))
    all_goals exact ⟨rfl, by rw [set_twice]; rfl⟩
  | false =>
    cases ok with
    | true =>
      repeat' (first
    | ((with_reducible apply opsF.op rfl); (case hs => (first | exact tHT | exact tHS)))
    | with_reducible (first | apply opsF.nil | apply seqF.nn | apply vcF.seq | apply vcF.region | apply vcF.skip | apply vcF.ret | apply seqF.r)
    | ((with_reducible apply opsF.call); (case hx => exact tAG))
    | ((with_reducible apply opsF.want); (case hg => exact tEV); (case hb => exact tNB))
    | ((with_reducible apply opsF.skip); (case hg => exact tEV); (case hb => exact tNB))
    | (first | ((with_reducible apply opsF.case); (case hg => exact tEV)) | ((with_reducible apply vcF.cond); (case hx => exact tEV))) <;> ((intro hc; try simp only [Int.reduceLT, Int.reduceLE, Int.reduceEq, Int.reduceNe, Int.cast_ofNat_Int, Int.reduceNeg, decide_true, decide_false, not_true_eq_false, not_false_eq_true, decide_eq_true_eq, decide_eq_false_iff_not, Bool.not_eq_true', Bool.not_eq_false', Bool.not_true, Bool.not_false, Bool.false_eq_true, Bool.true_eq_false, Bool.not_eq_true, Bool.not_eq_false, beq_iff_eq, beq_eq_false_iff_ne, bne_iff_ne, bne_eq_false_iff_eq, ne_eq, Int.not_lt, Int.not_le, ge_iff_le, gt_iff_lt, Decidable.not_not, reduceCtorEq, *] at hc) <;> (try (exfalso; omega)))
    | ((with_reducible apply opsF.und); (case hg => rfl))
    | ((with_reducible apply retF.r); (case hv => exact tRS))
    | ((with_reducible apply retF.nn); (case hv => exact tRS))
    | ((refine Call.use (hc _) ?_)))
      all_goals exact ⟨rfl, by rw [set_twice]; rfl⟩
    | false =>
      repeat' (first
    | ((with_reducible apply opsF.op rfl); (case hs => (first | exact tHT | exact tHS)))
    | with_reducible (first | apply opsF.nil | apply seqF.nn | apply vcF.seq | apply vcF.region | apply vcF.skip | apply vcF.ret | apply seqF.r)
    | ((with_reducible apply opsF.call); (case hx => exact tAG))
    | ((with_reducible apply opsF.want); (case hg => exact tEV); (case hb => exact tNB))
    | ((with_reducible apply opsF.skip); (case hg => exact tEV); (case hb => exact tNB))
    | (first | ((with_reducible apply opsF.case); (case hg => exact tEV)) | ((with_reducible apply vcF.cond); (case hx => exact tEV))) <;> ((intro hc; try simp only [Int.reduceLT, Int.reduceLE, Int.reduceEq, Int.reduceNe, Int.cast_ofNat_Int, Int.reduceNeg, decide_true, decide_false, not_true_eq_false, not_false_eq_true, decide_eq_true_eq, decide_eq_false_iff_not, Bool.not_eq_true', Bool.not_eq_false', Bool.not_true, Bool.not_false, Bool.false_eq_true, Bool.true_eq_false, Bool.not_eq_true, Bool.not_eq_false, beq_iff_eq, beq_eq_false_iff_ne, bne_iff_ne, bne_eq_false_iff_eq, ne_eq, Int.not_lt, Int.not_le, ge_iff_le, gt_iff_lt, Decidable.not_not, reduceCtorEq, *] at hc) <;> (try (exfalso; omega)))
    | ((with_reducible apply opsF.und); (case hg => rfl))
    | ((with_reducible apply retF.r); (case hv => exact tRS))
    | ((with_reducible apply retF.nn); (case hv => exact tRS))
    | ((refine Call.use (hc _) ?_)))
      all_goals exact ⟨rfl, by rw [set_twice]; rfl⟩
def valR (k s : L8) : L8 := if preB (k ++ [32]) (cutB 10 s).1 then (cutB 10 s).1.drop (k ++ [32]).length else (cutB 10 s).1
theorem fldO_is (k s : L8) : (fldO k s).isSome = ((cutB 10 s).2.2 && preB (k ++ [32]) (cutB 10 s).1) := by
  unfold fldO
  cases (cutB 10 s).2.2 <;> cases preB (k ++ [32]) (cutB 10 s).1 <;> rfl
theorem fldO_val {k s : L8} {x : L8 × L8} (h : fldO k s = some x) : x = (valR k s, (cutB 10 s).2.1) := by
  unfold fldO at h
  split at h
  · rename_i hh
    injection h with h
    subst h
    rw [valR, hh.2, if_pos rfl]
    simp
  · cases h
theorem valR_len (k s : L8) : (valR k s).length ≤ s.length := by
  have := (cutB_le 10 s).1
  unfold valR
  split
  · rw [List.length_drop]; omega
  · exact this
theorem rvalue_call (id : Nat) (k s : L8) (bad : Bool) (h : AH) (ho : h.objs id = some (rdC s bad)) (hlt : id < h.n) (hl : s.length ≤ 9000000000) (hk : k.length ≤ 1000) :
    Call P w0 env_reader_value [.ptr id 0, .v (.string (bs k))] h (fun v h' => v = .v (.string (bs (valR k s))) ∧ h' = h.set id (rdC (cutB 10 s).2.1 (bad || !(fldO k s).isSome))) := by
  have hle := cutB_le 10 s
  have hln := rline_call (w0 := w0) id s bad h ho hlt hl
  have hcp := fun h => scutPG (w0 := w0) (cutB 10 s).1 (k ++ [32]) h (by omega)
  rw [fldO_is]
  unfold valR
  generalize (if preB (k ++ [32]) (cutB 10 s).1 then (cutB 10 s).1.drop (k ++ [32]).length else (cutB 10 s).1) = vv at *
  generalize preB (k ++ [32]) (cutB 10 s).1 = pp at *
  generalize cutB 10 s = q at *
  obtain ⟨a, r, ok⟩ := q
  simp only at hle hln hcp ⊢
  unfold rdC at *
  refine Call.bodyF b_env_reader_value rfl rfl ?_
  unfold c_env_reader_value
  cases bad with
  | true =>
    repeat' (first
    | ((with_reducible apply opsF.op rfl); (case hs => (first | exact tHT | exact tHS)))
    | with_reducible (first | apply opsF.nil | apply seqF.nn | apply vcF.seq | apply vcF.region | apply vcF.skip | apply vcF.ret | apply seqF.r)
    | ((with_reducible apply opsF.call); (case hx => exact tAG))
    | ((with_reducible apply opsF.want); (case hg => exact tEV); (case hb => exact tNB))
    | ((with_reducible apply opsF.skip); (case hg => exact tEV); (case hb => exact tNB))
    | (first | ((with_reducible apply opsF.case); (case hg => exact tEV)) | ((with_reducible apply vcF.cond); (case hx => exact tEV))) <;> ((intro hc; try simp only [Int.reduceLT, Int.reduceLE, Int.reduceEq, Int.reduceNe, Int.cast_ofNat_Int, Int.reduceNeg, decide_true, decide_false, not_true_eq_false, not_false_eq_true, decide_eq_true_eq, decide_eq_false_iff_not, Bool.not_eq_true', Bool.not_eq_false', Bool.not_true, Bool.not_false, Bool.false_eq_true, Bool.true_eq_false, Bool.not_eq_true, Bool.not_eq_false, beq_iff_eq, beq_eq_false_iff_ne, bne_iff_ne, bne_eq_false_iff_eq, ne_eq, Int.not_lt, Int.not_le, ge_iff_le, gt_iff_lt, Decidable.not_not, reduceCtorEq, *] at hc) <;> (try (exfalso; omega)))
    | ((with_reducible apply opsF.und); (case hg => rfl))
    | ((with_reducible apply retF.r); (case hv => exact tRS))
    | ((with_reducible apply retF.nn); (case hv => exact tRS))
    | ((refine hln.mono fun v h2 hp => ?_); obtain ⟨rfl, rfl⟩ := hp)
    | ((refine Call.use (hcp _) ?_)))
    all_goals exact ⟨rfl, by rw [set_twice]; rfl⟩
  | false =>
    cases ok with
    | false =>
      repeat' (first
    | ((with_reducible apply opsF.op rfl); (case hs => (first | exact tHT | exact tHS)))
    | with_reducible (first | apply opsF.nil | apply seqF.nn | apply vcF.seq | apply vcF.region | apply vcF.skip | apply vcF.ret | apply seqF.r)
    | ((with_reducible apply opsF.call); (case hx => exact tAG))
    | ((with_reducible apply opsF.want); (case hg => exact tEV); (case hb => exact tNB))
    | ((with_reducible apply opsF.skip); (case hg => exact tEV); (case hb => exact tNB))
    | (first | ((with_reducible apply opsF.case); (case hg => exact tEV)) | ((with_reducible apply vcF.cond); (case hx => exact tEV))) <;> ((intro hc; try simp only [Int.reduceLT, Int.reduceLE, Int.reduceEq, Int.reduceNe, Int.cast_ofNat_Int, Int.reduceNeg, decide_true, decide_false, not_true_eq_false, not_false_eq_true, decide_eq_true_eq, decide_eq_false_iff_not, Bool.not_eq_true', Bool.not_eq_false', Bool.not_true, Bool.not_false, Bool.false_eq_true, Bool.true_eq_false, Bool.not_eq_true, Bool.not_eq_false, beq_iff_eq, beq_eq_false_iff_ne, bne_iff_ne, bne_eq_false_iff_eq, ne_eq, Int.not_lt, Int.not_le, ge_iff_le, gt_iff_lt, Decidable.not_not, reduceCtorEq, *] at hc) <;> (try (exfalso; omega)))
    | ((with_reducible apply opsF.und); (case hg => rfl))
    | ((with_reducible apply retF.r); (case hv => exact tRS))
    | ((with_reducible apply retF.nn); (case hv => exact tRS))
    | ((refine hln.mono fun v h2 hp => ?_); obtain ⟨rfl, rfl⟩ := hp)
    | ((refine Call.use (hcp _) ?_)))
      all_goals exact ⟨rfl, by rw [set_twice]; rfl⟩
    | true =>
      cases pp with
      | true =>
        repeat' (first
    | ((with_reducible apply opsF.op rfl); (case hs => (first | exact tHT | exact tHS)))
    | with_reducible (first | apply opsF.nil | apply seqF.nn | apply vcF.seq | apply vcF.region | apply vcF.skip | apply vcF.ret | apply seqF.r)
    | ((with_reducible apply opsF.call); (case hx => exact tAG))
    | ((with_reducible apply opsF.want); (case hg => exact tEV); (case hb => exact tNB))
    | ((with_reducible apply opsF.skip); (case hg => exact tEV); (case hb => exact tNB))
    | (first | ((with_reducible apply opsF.case); (case hg => exact tEV)) | ((with_reducible apply vcF.cond); (case hx => exact tEV))) <;> ((intro hc; try simp only [Int.reduceLT, Int.reduceLE, Int.reduceEq, Int.reduceNe, Int.cast_ofNat_Int, Int.reduceNeg, decide_true, decide_false, not_true_eq_false, not_false_eq_true, decide_eq_true_eq, decide_eq_false_iff_not, Bool.not_eq_true', Bool.not_eq_false', Bool.not_true, Bool.not_false, Bool.false_eq_true, Bool.true_eq_false, Bool.not_eq_true, Bool.not_eq_false, beq_iff_eq, beq_eq_false_iff_ne, bne_iff_ne, bne_eq_false_iff_eq, ne_eq, Int.not_lt, Int.not_le, ge_iff_le, gt_iff_lt, Decidable.not_not, reduceCtorEq, *] at hc) <;> (try (exfalso; omega)))
    | ((with_reducible apply opsF.und); (case hg => rfl))
    | ((with_reducible apply retF.r); (case hv => exact tRS))
    | ((with_reducible apply retF.nn); (case hv => exact tRS))
    | ((refine hln.mono fun v h2 hp => ?_); obtain ⟨rfl, rfl⟩ := hp)
    | ((refine Call.use (hcp _) ?_)))
        all_goals exact ⟨rfl, by rw [set_twice]; rfl⟩
      | false =>
        repeat' (first
    | ((with_reducible apply opsF.op rfl); (case hs => (first | exact tHT | exact tHS)))
    | with_reducible (first | apply opsF.nil | apply seqF.nn | apply vcF.seq | apply vcF.region | apply vcF.skip | apply vcF.ret | apply seqF.r)
    | ((with_reducible apply opsF.call); (case hx => exact tAG))
    | ((with_reducible apply opsF.want); (case hg => exact tEV); (case hb => exact tNB))
    | ((with_reducible apply opsF.skip); (case hg => exact tEV); (case hb => exact tNB))
    | (first | ((with_reducible apply opsF.case); (case hg => exact tEV)) | ((with_reducible apply vcF.cond); (case hx => exact tEV))) <;> ((intro hc; try simp only [Int.reduceLT, Int.reduceLE, Int.reduceEq, Int.reduceNe, Int.cast_ofNat_Int, Int.reduceNeg, decide_true, decide_false, not_true_eq_false, not_false_eq_true, decide_eq_true_eq, decide_eq_false_iff_not, Bool.not_eq_true', Bool.not_eq_false', Bool.not_true, Bool.not_false, Bool.false_eq_true, Bool.true_eq_false, Bool.not_eq_true, Bool.not_eq_false, beq_iff_eq, beq_eq_false_iff_ne, bne_iff_ne, bne_eq_false_iff_eq, ne_eq, Int.not_lt, Int.not_le, ge_iff_le, gt_iff_lt, Decidable.not_not, reduceCtorEq, *] at hc) <;> (try (exfalso; omega)))
    | ((with_reducible apply opsF.und); (case hg => rfl))
    | ((with_reducible apply retF.r); (case hv => exact tRS))
    | ((with_reducible apply retF.nn); (case hv => exact tRS))
    | ((refine hln.mono fun v h2 hp => ?_); obtain ⟨rfl, rfl⟩ := hp)
    | ((refine Call.use (hcp _) ?_)))
        all_goals exact ⟨rfl, by rw [set_twice]; rfl⟩
end Go.Abs.F
namespace Go.Abs.F
open Go Go.Abs
set_option maxRecDepth 10000
set_option maxHeartbeats 20000000
set_option linter.unusedSimpArgs false
set_option linter.unusedVariables false
variable {w0 : World}
theorem rnum_call (hP : PowTab w0) (hE : ErrVars w0) (id : Nat) (k s : L8) (bad : Bool) (h : AH) (ho : h.objs id = some (rdC s bad)) (hlt : id < h.n) (hl : s.length ≤ 1000000000) (hk : k.length ≤ 1000) :
    Call P w0 env_reader_num [.ptr id 0, .v (.string (bs k))] h (fun v h' => ∃ n : Int, v = .v (.int .i64 n) ∧ h' = h.set id (rdC (cutB 10 s).2.1 (bad || !(numF k s).isSome)) ∧ ∀ x, numF k s = some x → x = (n, (cutB 10 s).2.1)) := by
  have hv := rvalue_call (w0 := w0) id k s bad h ho hlt (by omega) hk
  have hvl := valR_len k s
  have hA := fun h => atoiA_call (w0 := w0) hE (valR k s) h (by omega)
  have hno : (fldO k s).isSome = false → numF k s = none := fun e => by
    cases hf : fldO k s with
    | none => rw [numF, hf]; rfl
    | some x => rw [hf] at e; cases e
  have hyes : (fldO k s).isSome = true → numF k s = (numG (valR k s)).map fun n => (n, (cutB 10 s).2.1) := fun e => by
    cases hf : fldO k s with
    | none => rw [hf] at e; cases e
    | some x => rw [numF, hf, fldO_val hf]; rfl
  have hg : numG (valR k s) = match Lib.atoiAll (valR k s) with
    | .ok n => if decS n = valR k s then some n else none
    | _ => none := rfl
  generalize valR k s = vv at *
  generalize (fldO k s).isSome = fb at *
  generalize (cutB 10 s).2.1 = r at *
  generalize numF k s = nf at *
  unfold rdC at *
  refine Call.bodyF b_env_reader_num rfl rfl ?_
  unfold c_env_reader_num
  by_cases hex : ∃ n, Lib.atoiAll vv = .ok n
  · obtain ⟨n, hn⟩ := hex
    have hr := atoi_range hn
    have hA2 : ∀ h, Call P w0 strconv_Atoi [.v (.string (bs vv))] h fun v h' => v = .tup [.v (.int .i64 n), .v .nilIface] ∧ h' = h := fun h => (hA h).mono fun v h' hq => by
      obtain ⟨hq, rfl⟩ := hq
      rcases hq with ⟨m, hm, rfl⟩ | ⟨hm, _⟩
      · rw [hn] at hm; cases hm; exact ⟨rfl, rfl⟩
      · exact absurd hn (hm n)
    clear hA
    have hI := fun h => itoa_call (w0 := w0) hP n h hr.1 hr.2
    rw [hn] at hg
    simp only at hg
    cases bad with
    | true =>
      have hF : ∀ x, nf = some x → x = (n, r) := by
        intro x hx
        cases fb with
        | false => rw [hno rfl] at hx; cases hx
        | true =>
          rw [hyes rfl, hg] at hx
          split at hx
          · cases hx; rfl
          · cases hx
      clear hno hyes hg hn
      repeat' (first
    | ((with_reducible apply opsF.op rfl); (case hs => (first | exact tHT | exact tHS)))
    | with_reducible (first | apply opsF.nil | apply seqF.nn | apply vcF.seq | apply vcF.region | apply vcF.skip | apply vcF.ret | apply seqF.r)
    | ((with_reducible apply opsF.call); (case hx => exact tAG))
    | ((with_reducible apply opsF.want); (case hg => exact tEV); (case hb => exact tNB))
    | ((with_reducible apply opsF.skip); (case hg => exact tEV); (case hb => exact tNB))
    | (first | ((with_reducible apply opsF.case); (case hg => exact tEV)) | ((with_reducible apply vcF.cond); (case hx => exact tEV))) <;> ((intro hc; try simp only [Int.reduceLT, Int.reduceLE, Int.reduceEq, Int.reduceNe, Int.cast_ofNat_Int, Int.reduceNeg, decide_true, decide_false, not_true_eq_false, not_false_eq_true, decide_eq_true_eq, decide_eq_false_iff_not, Bool.not_eq_true', Bool.not_eq_false', Bool.not_true, Bool.not_false, Bool.false_eq_true, Bool.true_eq_false, Bool.not_eq_true, Bool.not_eq_false, beq_iff_eq, beq_eq_false_iff_ne, bne_iff_ne, bne_eq_false_iff_eq, ne_eq, Int.not_lt, Int.not_le, ge_iff_le, gt_iff_lt, Decidable.not_not, reduceCtorEq, *] at hc) <;> (try (exfalso; omega)))
    | ((with_reducible apply opsF.und); (case hg => rfl))
    | ((with_reducible apply retF.r); (case hv => exact tRS))
    | ((with_reducible apply retF.nn); (case hv => exact tRS))
    | ((refine hv.mono fun v h2 hp => ?_); obtain ⟨rfl, rfl⟩ := hp)
    | ((refine Call.use (hA2 _) ?_))
    | ((refine Call.use (hI _) ?_)))
      all_goals exact ⟨n, rfl, by rw [set_twice]; rfl, hF⟩
    | false =>
      cases fb with
      | false =>
        have hnf := hno rfl
        clear hno hyes hg
        subst hnf
        repeat' (first
    | ((with_reducible apply opsF.op rfl); (case hs => (first | exact tHT | exact tHS)))
    | with_reducible (first | apply opsF.nil | apply seqF.nn | apply vcF.seq | apply vcF.region | apply vcF.skip | apply vcF.ret | apply seqF.r)
    | ((with_reducible apply opsF.call); (case hx => exact tAG))
    | ((with_reducible apply opsF.want); (case hg => exact tEV); (case hb => exact tNB))
    | ((with_reducible apply opsF.skip); (case hg => exact tEV); (case hb => exact tNB))
    | (first | ((with_reducible apply opsF.case); (case hg => exact tEV)) | ((with_reducible apply vcF.cond); (case hx => exact tEV))) <;> ((intro hc; try simp only [Int.reduceLT, Int.reduceLE, Int.reduceEq, Int.reduceNe, Int.cast_ofNat_Int, Int.reduceNeg, decide_true, decide_false, not_true_eq_false, not_false_eq_true, decide_eq_true_eq, decide_eq_false_iff_not, Bool.not_eq_true', Bool.not_eq_false', Bool.not_true, Bool.not_false, Bool.false_eq_true, Bool.true_eq_false, Bool.not_eq_true, Bool.not_eq_false, beq_iff_eq, beq_eq_false_iff_ne, bne_iff_ne, bne_eq_false_iff_eq, ne_eq, Int.not_lt, Int.not_le, ge_iff_le, gt_iff_lt, Decidable.not_not, reduceCtorEq, *] at hc) <;> (try (exfalso; omega)))
    | ((with_reducible apply opsF.und); (case hg => rfl))
    | ((with_reducible apply retF.r); (case hv => exact tRS))
    | ((with_reducible apply retF.nn); (case hv => exact tRS))
    | ((refine hv.mono fun v h2 hp => ?_); obtain ⟨rfl, rfl⟩ := hp)
    | ((refine Call.use (hA2 _) ?_))
    | ((refine Call.use (hI _) ?_)))
        all_goals exact ⟨n, rfl, by rw [set_twice]; rfl, fun x hx => by cases hx⟩
      | true =>
        have hnf := hyes rfl
        clear hno hyes
        by_cases hd : decS n = vv
        · rw [if_pos hd] at hg
          rw [hg] at hnf
          simp only [Option.map_some] at hnf
          clear hg
          subst hnf
          clear hn
          repeat' (first
    | ((with_reducible apply opsF.op rfl); (case hs => (first | exact tHT | exact tHS)))
    | with_reducible (first | apply opsF.nil | apply seqF.nn | apply vcF.seq | apply vcF.region | apply vcF.skip | apply vcF.ret | apply seqF.r)
    | ((with_reducible apply opsF.call); (case hx => exact tAG))
    | ((with_reducible apply opsF.want); (case hg => exact tEV); (case hb => exact tNB))
    | ((with_reducible apply opsF.skip); (case hg => exact tEV); (case hb => exact tNB))
    | (first | ((with_reducible apply opsF.case); (case hg => exact tEV)) | ((with_reducible apply vcF.cond); (case hx => exact tEV))) <;> ((intro hc; try simp only [Int.reduceLT, Int.reduceLE, Int.reduceEq, Int.reduceNe, Int.cast_ofNat_Int, Int.reduceNeg, decide_true, decide_false, not_true_eq_false, not_false_eq_true, decide_eq_true_eq, decide_eq_false_iff_not, Bool.not_eq_true', Bool.not_eq_false', Bool.not_true, Bool.not_false, Bool.false_eq_true, Bool.true_eq_false, Bool.not_eq_true, Bool.not_eq_false, beq_iff_eq, beq_eq_false_iff_ne, bne_iff_ne, bne_eq_false_iff_eq, ne_eq, Int.not_lt, Int.not_le, ge_iff_le, gt_iff_lt, Decidable.not_not, reduceCtorEq, *] at hc) <;> (try (exfalso; omega)))
    | ((with_reducible apply opsF.und); (case hg => rfl))
    | ((with_reducible apply retF.r); (case hv => exact tRS))
    | ((with_reducible apply retF.nn); (case hv => exact tRS))
    | ((refine hv.mono fun v h2 hp => ?_); obtain ⟨rfl, rfl⟩ := hp)
    | ((refine Call.use (hA2 _) ?_))
    | ((refine Call.use (hI _) ?_)))
          all_goals exact ⟨n, rfl, by rw [set_twice]; rfl, fun x hx => by cases hx; rfl⟩
        · rw [if_neg hd] at hg
          rw [hg] at hnf
          simp only [Option.map_none] at hnf
          clear hg
          subst hnf
          clear hn
          repeat' (first
    | ((with_reducible apply opsF.op rfl); (case hs => (first | exact tHT | exact tHS)))
    | with_reducible (first | apply opsF.nil | apply seqF.nn | apply vcF.seq | apply vcF.region | apply vcF.skip | apply vcF.ret | apply seqF.r)
    | ((with_reducible apply opsF.call); (case hx => exact tAG))
    | ((with_reducible apply opsF.want); (case hg => exact tEV); (case hb => exact tNB))
    | ((with_reducible apply opsF.skip); (case hg => exact tEV); (case hb => exact tNB))
    | (first | ((with_reducible apply opsF.case); (case hg => exact tEV)) | ((with_reducible apply vcF.cond); (case hx => exact tEV))) <;> ((intro hc; try simp only [Int.reduceLT, Int.reduceLE, Int.reduceEq, Int.reduceNe, Int.cast_ofNat_Int, Int.reduceNeg, decide_true, decide_false, not_true_eq_false, not_false_eq_true, decide_eq_true_eq, decide_eq_false_iff_not, Bool.not_eq_true', Bool.not_eq_false', Bool.not_true, Bool.not_false, Bool.false_eq_true, Bool.true_eq_false, Bool.not_eq_true, Bool.not_eq_false, beq_iff_eq, beq_eq_false_iff_ne, bne_iff_ne, bne_eq_false_iff_eq, ne_eq, Int.not_lt, Int.not_le, ge_iff_le, gt_iff_lt, Decidable.not_not, reduceCtorEq, *] at hc) <;> (try (exfalso; omega)))
    | ((with_reducible apply opsF.und); (case hg => rfl))
    | ((with_reducible apply retF.r); (case hv => exact tRS))
    | ((with_reducible apply retF.nn); (case hv => exact tRS))
    | ((refine hv.mono fun v h2 hp => ?_); obtain ⟨rfl, rfl⟩ := hp)
    | ((refine Call.use (hA2 _) ?_))
    | ((refine Call.use (hI _) ?_)))
          all_goals exact ⟨n, rfl, by rw [set_twice]; rfl, fun x hx => by cases hx⟩
  · have hA2 : ∀ h, Call P w0 strconv_Atoi [.v (.string (bs vv))] h fun v h' => (∃ j te, v = .tup [.v (.int .i64 j), .iface te (.lptr [] 0)]) ∧ h' = h := fun h => (hA h).mono fun v h' hq => by
      obtain ⟨hq, rfl⟩ := hq
      rcases hq with ⟨m, hm, rfl⟩ | ⟨hm, hq⟩
      · exact absurd ⟨m, hm⟩ hex
      · exact ⟨hq, rfl⟩
    have hg2 : numG vv = none := by
      rw [hg]
      split
      · rename_i m hm; exact absurd ⟨m, hm⟩ hex
      · rfl
    have hnf : nf = none := by
      cases fb with
      | false => exact hno rfl
      | true => rw [hyes rfl, hg2]; rfl
    clear hno hyes hA hex hg hg2
    subst hnf
    cases bad with
    | true =>
      repeat' (first
    | ((with_reducible apply opsF.op rfl); (case hs => (first | exact tHT | exact tHS)))
    | with_reducible (first | apply opsF.nil | apply seqF.nn | apply vcF.seq | apply vcF.region | apply vcF.skip | apply vcF.ret | apply seqF.r)
    | ((with_reducible apply opsF.call); (case hx => exact tAG))
    | ((with_reducible apply opsF.want); (case hg => exact tEV); (case hb => exact tNB))
    | ((with_reducible apply opsF.skip); (case hg => exact tEV); (case hb => exact tNB))
    | (first | ((with_reducible apply opsF.case); (case hg => exact tEV)) | ((with_reducible apply vcF.cond); (case hx => exact tEV))) <;> ((intro hc; try simp only [Int.reduceLT, Int.reduceLE, Int.reduceEq, Int.reduceNe, Int.cast_ofNat_Int, Int.reduceNeg, decide_true, decide_false, not_true_eq_false, not_false_eq_true, decide_eq_true_eq, decide_eq_false_iff_not, Bool.not_eq_true', Bool.not_eq_false', Bool.not_true, Bool.not_false, Bool.false_eq_true, Bool.true_eq_false, Bool.not_eq_true, Bool.not_eq_false, beq_iff_eq, beq_eq_false_iff_ne, bne_iff_ne, bne_eq_false_iff_eq, ne_eq, Int.not_lt, Int.not_le, ge_iff_le, gt_iff_lt, Decidable.not_not, reduceCtorEq, *] at hc) <;> (try (exfalso; omega)))
    | ((with_reducible apply opsF.und); (case hg => rfl))
    | ((with_reducible apply retF.r); (case hv => exact tRS))
    | ((with_reducible apply retF.nn); (case hv => exact tRS))
    | ((refine hv.mono fun v h2 hp => ?_); obtain ⟨rfl, rfl⟩ := hp)
    | ((refine (hA2 _).mono fun v h2 hp => ?_); obtain ⟨⟨j, te, rfl⟩, rfl⟩ := hp))
      all_goals exact ⟨j, rfl, by rw [set_twice]; rfl, fun x hx => by cases hx⟩
    | false =>
      cases fb with
      | true =>
        repeat' (first
    | ((with_reducible apply opsF.op rfl); (case hs => (first | exact tHT | exact tHS)))
    | with_reducible (first | apply opsF.nil | apply seqF.nn | apply vcF.seq | apply vcF.region | apply vcF.skip | apply vcF.ret | apply seqF.r)
    | ((with_reducible apply opsF.call); (case hx => exact tAG))
    | ((with_reducible apply opsF.want); (case hg => exact tEV); (case hb => exact tNB))
    | ((with_reducible apply opsF.skip); (case hg => exact tEV); (case hb => exact tNB))
    | (first | ((with_reducible apply opsF.case); (case hg => exact tEV)) | ((with_reducible apply vcF.cond); (case hx => exact tEV))) <;> ((intro hc; try simp only [Int.reduceLT, Int.reduceLE, Int.reduceEq, Int.reduceNe, Int.cast_ofNat_Int, Int.reduceNeg, decide_true, decide_false, not_true_eq_false, not_false_eq_true, decide_eq_true_eq, decide_eq_false_iff_not, Bool.not_eq_true', Bool.not_eq_false', Bool.not_true, Bool.not_false, Bool.false_eq_true, Bool.true_eq_false, Bool.not_eq_true, Bool.not_eq_false, beq_iff_eq, beq_eq_false_iff_ne, bne_iff_ne, bne_eq_false_iff_eq, ne_eq, Int.not_lt, Int.not_le, ge_iff_le, gt_iff_lt, Decidable.not_not, reduceCtorEq, *] at hc) <;> (try (exfalso; omega)))
    | ((with_reducible apply opsF.und); (case hg => rfl))
    | ((with_reducible apply retF.r); (case hv => exact tRS))
    | ((with_reducible apply retF.nn); (case hv => exact tRS))
    | ((refine hv.mono fun v h2 hp => ?_); obtain ⟨rfl, rfl⟩ := hp)
    | ((refine (hA2 _).mono fun v h2 hp => ?_); obtain ⟨⟨j, te, rfl⟩, rfl⟩ := hp))
        all_goals exact ⟨j, rfl, by rw [set_twice]; rfl, fun x hx => by cases hx⟩
      | false =>
        repeat' (first
    | ((with_reducible apply opsF.op rfl); (case hs => (first | exact tHT | exact tHS)))
    | with_reducible (first | apply opsF.nil | apply seqF.nn | apply vcF.seq | apply vcF.region | apply vcF.skip | apply vcF.ret | apply seqF.r)
    | ((with_reducible apply opsF.call); (case hx => exact tAG))
    | ((with_reducible apply opsF.want); (case hg => exact tEV); (case hb => exact tNB))
    | ((with_reducible apply opsF.skip); (case hg => exact tEV); (case hb => exact tNB))
    | (first | ((with_reducible apply opsF.case); (case hg => exact tEV)) | ((with_reducible apply vcF.cond); (case hx => exact tEV))) <;> ((intro hc; try simp only [Int.reduceLT, Int.reduceLE, Int.reduceEq, Int.reduceNe, Int.cast_ofNat_Int, Int.reduceNeg, decide_true, decide_false, not_true_eq_false, not_false_eq_true, decide_eq_true_eq, decide_eq_false_iff_not, Bool.not_eq_true', Bool.not_eq_false', Bool.not_true, Bool.not_false, Bool.false_eq_true, Bool.true_eq_false, Bool.not_eq_true, Bool.not_eq_false, beq_iff_eq, beq_eq_false_iff_ne, bne_iff_ne, bne_eq_false_iff_eq, ne_eq, Int.not_lt, Int.not_le, ge_iff_le, gt_iff_lt, Decidable.not_not, reduceCtorEq, *] at hc) <;> (try (exfalso; omega)))
    | ((with_reducible apply opsF.und); (case hg => rfl))
    | ((with_reducible apply retF.r); (case hv => exact tRS))
    | ((with_reducible apply retF.nn); (case hv => exact tRS))
    | ((refine hv.mono fun v h2 hp => ?_); obtain ⟨rfl, rfl⟩ := hp)
    | ((refine (hA2 _).mono fun v h2 hp => ?_); obtain ⟨⟨j, te, rfl⟩, rfl⟩ := hp))
        all_goals exact ⟨j, rfl, by rw [set_twice]; rfl, fun x hx => by cases hx⟩
theorem mkO_take {v : L8} {i : Nat} {c : UInt8} (hc : v[i]? = some c) : mkO (v.take (i + 1)) = mkO (v.take i) ++ [(c.toNat : Int) - 48] := by
  rw [mkO, mkO, List.take_add_one, hc, List.map_append]
  rfl
theorem rmarks_call (id : Nat) (s : L8) (bad : Bool) (h : AH) (ho : h.objs id = some (rdC s bad)) (hlt : id < h.n) (hl : s.length ≤ 1000000000) :
    Call P w0 env_reader_marks [.ptr id 0] h (fun v h' => (∃ tk, v = .list 1 (irows (mkO (valR K8 s))) tk) ∧ Ext (h.set id (rdC (cutB 10 s).2.1 (bad || !(fldO K8 s).isSome))) h') := by
  have hv := rvalue_call (w0 := w0) id K8 s bad h ho hlt (by omega) (by decide)
  have hvl := valR_len K8 s
  generalize rdC (cutB 10 s).2.1 (bad || !(fldO K8 s).isSome) = nr at *
  generalize valR K8 s = vv at *
  unfold K8 at hv
  have yl := irows_len
  have bl := brows_len
  have bg := brows_get
  have m1 := brows_len vv
  refine Call.bodyF b_env_reader_marks rfl rfl ?_
  unfold c_env_reader_marks
  repeat' (first
    | ((with_reducible apply opsF.op rfl); (case hs => (first | exact tHT | exact tHS)))
    | with_reducible (first | apply opsF.nil | apply seqF.nn | apply vcF.seq | apply vcF.region | apply vcF.skip | apply vcF.block | apply vcF.exit | apply vcF.ret | apply vcF.loop | apply seqF.e | apply seqF.r | apply blkF.nn | apply blkF.e | apply blkF.r | apply blkF.o rfl)
    | ((with_reducible apply opsF.call); (case hx => exact tAG))
    | (first | ((with_reducible apply vcF.cond); (case hx => exact tEV))) <;> ((intro hc; try simp only [Int.reduceLT, Int.reduceLE, Int.reduceEq, Int.reduceNe, Int.cast_ofNat_Int, Int.reduceNeg, decide_true, decide_false, not_true_eq_false, not_false_eq_true, decide_eq_true_eq, decide_eq_false_iff_not, Bool.not_eq_true', Bool.not_eq_false', Bool.not_true, Bool.not_false, Bool.false_eq_true, Bool.true_eq_false, Bool.not_eq_true, Bool.not_eq_false, beq_iff_eq, beq_eq_false_iff_ne, bne_iff_ne, bne_eq_false_iff_eq, ne_eq, Int.not_lt, Int.not_le, ge_iff_le, gt_iff_lt, Decidable.not_not, reduceCtorEq, *] at hc) <;> (try (exfalso; omega)))
    | ((with_reducible apply retF.r); (case hv => exact tRS))
    | ((with_reducible apply retF.nn); (case hv => exact tRS))
    | ((refine hv.mono fun v h2 hp => ?_); obtain ⟨rfl, rfl⟩ := hp))
  refine LpF.ind rfl (fun i : Nat => vv.length - i) (fun i σ hh => ∃ (tk : Tok), Ext (h.set id nr) hh ∧ σ 3 = .list 1 (irows (mkO (vv.take i))) tk ∧ TokU hh tk ∧ (∀ t, tk.owner = some t → h.nt ≤ t) ∧ σ 8 = .list 1 (brows vv) .no ∧ σ 9 = .v (.int .i64 (vv.length : Nat)) ∧ σ 10 = .v (.int .i64 (i : Nat)) ∧ i ≤ vv.length) ?_ (i := 0) ⟨.full, .refl _, rfl, trivial, (fun t ht => by cases ht), rfl, by first | rfl | (rw [← m1]; rfl), rfl, Nat.zero_le _⟩
  rintro i σ hh ⟨tk, hE, h3, hT, hF, h8, h9, h10, hi⟩
  rcases Nat.lt_or_ge i vv.length with hlt2 | hge
  · obtain ⟨x, hx⟩ : ∃ x, vv[i]? = some x := ⟨_, List.getElem?_eq_getElem hlt2⟩
    have hxl := x.toNat_lt
    have hfn := mkO_take hx
    have hfl : (mkO (vv.take i)).length = i := by simp [mkO]; omega
    obtain ⟨tk1, h2, hap, hT2, hT3, hT4, hT5, hT6⟩ := hT.app
    generalize mkO (vv.take i) = L at *
    repeat' (first
    | ((with_reducible apply opsF.op rfl); (case hs => (first | exact tHT | exact tHS)))
    | with_reducible (first | apply opsF.nil | apply seqF.nn | apply vcF.seq | apply vcF.region | apply vcF.skip | apply vcF.block | apply vcF.exit | apply vcF.ret | apply vcF.loop | apply seqF.e | apply seqF.r | apply blkF.nn | apply blkF.e | apply blkF.r | apply blkF.o rfl)
    | ((with_reducible apply opsF.call); (case hx => exact tAG))
    | (first | ((with_reducible apply vcF.cond); (case hx => exact tEV))) <;> ((intro hc; try simp only [Int.reduceLT, Int.reduceLE, Int.reduceEq, Int.reduceNe, Int.cast_ofNat_Int, Int.reduceNeg, decide_true, decide_false, not_true_eq_false, not_false_eq_true, decide_eq_true_eq, decide_eq_false_iff_not, Bool.not_eq_true', Bool.not_eq_false', Bool.not_true, Bool.not_false, Bool.false_eq_true, Bool.true_eq_false, Bool.not_eq_true, Bool.not_eq_false, beq_iff_eq, beq_eq_false_iff_ne, bne_iff_ne, bne_eq_false_iff_eq, ne_eq, Int.not_lt, Int.not_le, ge_iff_le, gt_iff_lt, Decidable.not_not, reduceCtorEq, *] at hc) <;> (try (exfalso; omega)))
    | ((with_reducible apply retF.r); (case hv => exact tRS))
    | ((with_reducible apply retF.nn); (case hv => exact tRS)))
    refine ⟨i + 1, by omega, tk1, Ext.transX hE hT6 (fun _ x => x.elim) hF, ?_, hT2, ?_, h8, h9, rfl, by omega⟩
    · conv => lhs; whnf
      rw [hfn]
      simp [irows]
    · intro t ht
      rcases hT3 t ht with hz | hz
      · exact hF t hz
      · exact Nat.le_trans hE.nt hz
  · obtain rfl : i = vv.length := by omega
    rw [List.take_length] at h3
    repeat' (first
    | ((with_reducible apply opsF.op rfl); (case hs => (first | exact tHT | exact tHS)))
    | with_reducible (first | apply opsF.nil | apply seqF.nn | apply vcF.seq | apply vcF.region | apply vcF.skip | apply vcF.block | apply vcF.exit | apply vcF.ret | apply vcF.loop | apply seqF.e | apply seqF.r | apply blkF.nn | apply blkF.e | apply blkF.r | apply blkF.o rfl)
    | ((with_reducible apply opsF.call); (case hx => exact tAG))
    | (first | ((with_reducible apply vcF.cond); (case hx => exact tEV))) <;> ((intro hc; try simp only [Int.reduceLT, Int.reduceLE, Int.reduceEq, Int.reduceNe, Int.cast_ofNat_Int, Int.reduceNeg, decide_true, decide_false, not_true_eq_false, not_false_eq_true, decide_eq_true_eq, decide_eq_false_iff_not, Bool.not_eq_true', Bool.not_eq_false', Bool.not_true, Bool.not_false, Bool.false_eq_true, Bool.true_eq_false, Bool.not_eq_true, Bool.not_eq_false, beq_iff_eq, beq_eq_false_iff_ne, bne_iff_ne, bne_eq_false_iff_eq, ne_eq, Int.not_lt, Int.not_le, ge_iff_le, gt_iff_lt, Decidable.not_not, reduceCtorEq, *] at hc) <;> (try (exfalso; omega)))
    | ((with_reducible apply retF.r); (case hv => exact tRS))
    | ((with_reducible apply retF.nn); (case hv => exact tRS)))
    exact ⟨⟨tk, rfl⟩, hE⟩
end Go.Abs.F
