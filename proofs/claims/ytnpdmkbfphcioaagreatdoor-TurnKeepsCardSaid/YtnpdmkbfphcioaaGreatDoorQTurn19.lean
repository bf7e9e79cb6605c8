/- What the proof needs, part 19: Layer 11: the reader of texts. Layer 11: numbers and marks of texts; Layer 11: Encode. Layer 11: the document's text; Layer 11: which messages may be, the document's. -/
import Derived.Test.YtnpdmkbfphcioaaGreatDoorQTurn15
import Derived.Test.YtnpdmkbfphcioaaGreatDoorQTurn14
import Derived.Test.YtnpdmkbfphcioaaGreatDoorQTurn18
/- Layer 11: the reader of texts. Layer 11: numbers and marks of texts. -/
namespace Go.Abs.F
open Go Go.Abs
set_option maxRecDepth 10000
set_option maxHeartbeats 20000000
set_option linter.unusedSimpArgs false
set_option linter.unusedVariables false
variable {w0 : World}
theorem set_twice (h : AH) (id : Nat) (a b : AObj) : (h.set id a).set id b = h.set id b := by
  have e : ∀ i o, (h.set id o).objs i = if i = id then some o else h.objs i := fun i o => rfl
  unfold AH.set
  congr 1
  funext i
  by_cases hi : i = id <;> simp [hi]
theorem preB_short {p s : L8} (h : ¬ p.length ≤ s.length) : preB p s = false := by
  refine decide_eq_false fun e => h ?_
  have := congrArg List.length e
  rw [List.length_take] at this
  omega
theorem hasPG (s p : L8) (h : AH) : Call P w0 i_stringslite_HasPrefix [.v (.string (bs s)), .v (.string (bs p))] h (fun v h' => v = .v (.bool (preB p s)) ∧ h' = h) := by
  refine Call.bodyF b_i_stringslite_HasPrefix rfl rfl ?_
  unfold c_i_stringslite_HasPrefix
  by_cases hl : p.length ≤ s.length
  · have hl2 : (p.length : Int) ≤ s.length := by omega
    by_cases hp : s.take p.length = p
    · have : preB p s = true := decide_eq_true hp
      rw [this]
      clear this
      repeat' (first
| ((with_reducible apply opsF.op rfl); case hs => first | exact tHT | exact tHS)
| (with_reducible first | apply opsF.nil | apply seqF.nn | apply vcF.seq | apply vcF.region | apply vcF.skip | apply vcF.ret | apply seqF.r)
| ((with_reducible apply opsF.call); case hx => exact tAG)
| ((with_reducible apply opsF.want); (case hg => exact tEV); case hb => exact tNB)
| ((with_reducible apply opsF.skip); (case hg => exact tEV); case hb => exact tNB)
| (first | ((with_reducible apply opsF.case); case hg => exact tEV) | ((with_reducible apply vcF.cond); case hx => exact tEV)) <;> ((intro hc; try simp only [Int.reduceLT, Int.reduceLE, Int.reduceEq, Int.reduceNe, Int.cast_ofNat_Int, Int.reduceNeg, reduceCtorEq, ne_eq, ge_iff_le, gt_iff_lt, beq_iff_eq, beq_eq_false_iff_ne, bne_iff_ne, bne_eq_false_iff_eq, nrm, *] at hc) <;> try (exfalso; omega))
| ((with_reducible apply opsF.und); case hg => rfl)
| ((with_reducible first | apply retF.r | apply retF.nn); case hv => exact tRS))
      all_goals first | exact ⟨rfl, rfl⟩ | exact ⟨by simp [hp], rfl⟩
    · have : preB p s = false := decide_eq_false hp
      rw [this]
      clear this
      repeat' (first
| ((with_reducible apply opsF.op rfl); case hs => first | exact tHT | exact tHS)
| (with_reducible first | apply opsF.nil | apply seqF.nn | apply vcF.seq | apply vcF.region | apply vcF.skip | apply vcF.ret | apply seqF.r)
| ((with_reducible apply opsF.call); case hx => exact tAG)
| ((with_reducible apply opsF.want); (case hg => exact tEV); case hb => exact tNB)
| ((with_reducible apply opsF.skip); (case hg => exact tEV); case hb => exact tNB)
| (first | ((with_reducible apply opsF.case); case hg => exact tEV) | ((with_reducible apply vcF.cond); case hx => exact tEV)) <;> ((intro hc; try simp only [Int.reduceLT, Int.reduceLE, Int.reduceEq, Int.reduceNe, Int.cast_ofNat_Int, Int.reduceNeg, reduceCtorEq, ne_eq, ge_iff_le, gt_iff_lt, beq_iff_eq, beq_eq_false_iff_ne, bne_iff_ne, bne_eq_false_iff_eq, nrm, *] at hc) <;> try (exfalso; omega))
| ((with_reducible apply opsF.und); case hg => rfl)
| ((with_reducible first | apply retF.r | apply retF.nn); case hv => exact tRS))
      all_goals first | exact ⟨rfl, rfl⟩ | exact ⟨by simp [hp], rfl⟩
  · have hl2 : ¬ (p.length : Int) ≤ s.length := by omega
    rw [preB_short hl]
    repeat' (first
| ((with_reducible apply opsF.op rfl); case hs => first | exact tHT | exact tHS)
| (with_reducible first | apply opsF.nil | apply seqF.nn | apply vcF.seq | apply vcF.region | apply vcF.skip | apply vcF.ret | apply seqF.r)
| ((with_reducible apply opsF.call); case hx => exact tAG)
| ((with_reducible apply opsF.want); (case hg => exact tEV); case hb => exact tNB)
| ((with_reducible apply opsF.skip); (case hg => exact tEV); case hb => exact tNB)
| (first | ((with_reducible apply opsF.case); case hg => exact tEV) | ((with_reducible apply vcF.cond); case hx => exact tEV)) <;> ((intro hc; try simp only [Int.reduceLT, Int.reduceLE, Int.reduceEq, Int.reduceNe, Int.cast_ofNat_Int, Int.reduceNeg, reduceCtorEq, ne_eq, ge_iff_le, gt_iff_lt, beq_iff_eq, beq_eq_false_iff_ne, bne_iff_ne, bne_eq_false_iff_eq, nrm, *] at hc) <;> try (exfalso; omega))
| ((with_reducible apply opsF.und); case hg => rfl)
| ((with_reducible first | apply retF.r | apply retF.nn); case hv => exact tRS))
    all_goals exact ⟨rfl, rfl⟩
theorem shasPG (s p : L8) (h : AH) : Call P w0 strings_HasPrefix [.v (.string (bs s)), .v (.string (bs p))] h (fun v h' => v = .v (.bool (preB p s)) ∧ h' = h) := by
  refine Call.bodyF b_strings_HasPrefix rfl rfl ?_
  unfold c_strings_HasPrefix
  repeat' (first
| ((with_reducible apply opsF.op rfl); case hs => first | exact tHT | exact tHS)
| (with_reducible first | apply opsF.nil | apply seqF.nn | apply vcF.seq | apply vcF.region | apply vcF.skip | apply vcF.ret | apply seqF.r)
| ((with_reducible apply opsF.call); case hx => exact tAG)
| ((with_reducible apply vcF.cond); case hx => exact tEV) <;> ((intro hc; try simp only [Int.reduceLT, Int.reduceLE, Int.reduceEq, Int.reduceNe, Int.cast_ofNat_Int, Int.reduceNeg, reduceCtorEq, ne_eq, ge_iff_le, gt_iff_lt, beq_iff_eq, beq_eq_false_iff_ne, bne_iff_ne, bne_eq_false_iff_eq, nrm, *] at hc) <;> try (exfalso; omega))
| ((with_reducible first | apply retF.r | apply retF.nn); case hv => exact tRS)
| ((refine Call.use (hasPG s p _) ?_)))
  all_goals exact ⟨rfl, rfl⟩
theorem lcutPG (s p : L8) (h : AH) (hl : s.length ≤ 9000000000) : Call P w0 i_stringslite_CutPrefix [.v (.string (bs s)), .v (.string (bs p))] h
    (fun v h' => v = .tup [.v (.string (bs (if preB p s then s.drop p.length else s))), .v (.bool (preB p s))] ∧ h' = h) := by
  refine Call.bodyF b_i_stringslite_CutPrefix rfl rfl ?_
  unfold c_i_stringslite_CutPrefix
  have hp := fun h => hasPG (w0 := w0) s p h
  have hlen : preB p s = true → p.length ≤ s.length := fun e => by
    apply Classical.byContradiction
    intro hn
    rw [preB_short hn] at e
    cases e
  cases hq : preB p s with
  | true =>
    have hl2 : (p.length : Int) ≤ s.length := by have := hlen hq; omega
    rw [hq] at hp
    clear hlen hq
    repeat' (first
| ((with_reducible apply opsF.op rfl); case hs => first | exact tHT | exact tHS)
| (with_reducible first | apply opsF.nil | apply seqF.nn | apply vcF.seq | apply vcF.region | apply vcF.skip | apply vcF.ret | apply seqF.r)
| ((with_reducible apply opsF.call); case hx => exact tAG)
| ((with_reducible apply vcF.cond); case hx => exact tEV) <;> ((intro hc; try simp only [Int.reduceLT, Int.reduceLE, Int.reduceEq, Int.reduceNe, Int.cast_ofNat_Int, Int.reduceNeg, reduceCtorEq, ne_eq, ge_iff_le, gt_iff_lt, beq_iff_eq, beq_eq_false_iff_ne, bne_iff_ne, bne_eq_false_iff_eq, nrm, *] at hc) <;> try (exfalso; omega))
| ((with_reducible first | apply retF.r | apply retF.nn); case hv => exact tRS)
| ((refine Call.use (hp _) ?_)))
    all_goals (refine ⟨?_, rfl⟩; simp [List.take_length])
  | false =>
    rw [hq] at hp
    clear hlen hq
    repeat' (first
| ((with_reducible apply opsF.op rfl); case hs => first | exact tHT | exact tHS)
| (with_reducible first | apply opsF.nil | apply seqF.nn | apply vcF.seq | apply vcF.region | apply vcF.skip | apply vcF.ret | apply seqF.r)
| ((with_reducible apply opsF.call); case hx => exact tAG)
| ((with_reducible apply vcF.cond); case hx => exact tEV) <;> ((intro hc; try simp only [Int.reduceLT, Int.reduceLE, Int.reduceEq, Int.reduceNe, Int.cast_ofNat_Int, Int.reduceNeg, reduceCtorEq, ne_eq, ge_iff_le, gt_iff_lt, beq_iff_eq, beq_eq_false_iff_ne, bne_iff_ne, bne_eq_false_iff_eq, nrm, *] at hc) <;> try (exfalso; omega))
| ((with_reducible first | apply retF.r | apply retF.nn); case hv => exact tRS)
| ((refine Call.use (hp _) ?_)))
    all_goals (refine ⟨?_, rfl⟩; simp)
theorem scutPG (s p : L8) (h : AH) (hl : s.length ≤ 9000000000) : Call P w0 strings_CutPrefix [.v (.string (bs s)), .v (.string (bs p))] h
    (fun v h' => v = .tup [.v (.string (bs (if preB p s then s.drop p.length else s))), .v (.bool (preB p s))] ∧ h' = h) := by
  refine Call.bodyF b_strings_CutPrefix rfl rfl ?_
  unfold c_strings_CutPrefix
  have hp := fun h => lcutPG (w0 := w0) s p h hl
  generalize (if preB p s then s.drop p.length else s) = x at *
  generalize preB p s = y at *
  repeat' (first
| ((with_reducible apply opsF.op rfl); case hs => first | exact tHT | exact tHS)
| (with_reducible first | apply opsF.nil | apply seqF.nn | apply vcF.seq | apply vcF.region | apply vcF.skip | apply vcF.ret | apply seqF.r)
| ((with_reducible apply opsF.call); case hx => exact tAG)
| ((with_reducible apply vcF.cond); case hx => exact tEV) <;> ((intro hc; try simp only [Int.reduceLT, Int.reduceLE, Int.reduceEq, Int.reduceNe, Int.cast_ofNat_Int, Int.reduceNeg, reduceCtorEq, ne_eq, ge_iff_le, gt_iff_lt, beq_iff_eq, beq_eq_false_iff_ne, bne_iff_ne, bne_eq_false_iff_eq, nrm, *] at hc) <;> try (exfalso; omega))
| ((with_reducible first | apply retF.r | apply retF.nn); case hv => exact tRS)
| ((refine Call.use (hp _) ?_)))
  all_goals exact ⟨rfl, rfl⟩
/-! the reader -/
def rdC (s : L8) (bad : Bool) : AObj := .cells [.v (.string (bs s)), .v (.bool bad)]
theorem rline_call (id : Nat) (s : L8) (bad : Bool) (h : AH) (ho : h.objs id = some (rdC s bad)) (hlt : id < h.n) (hl : s.length ≤ 9000000000) :
    Call P w0 env_reader_line [.ptr id 0] h (fun v h' => v = .v (.string (bs (cutB 10 s).1)) ∧ h' = h.set id (rdC (cutB 10 s).2.1 (bad || !(cutB 10 s).2.2))) := by
  have hc := fun h => cut_call (w0 := w0) s 10 h (by omega)
  unfold rdC at ho
  refine Call.bodyF b_env_reader_line rfl rfl ?_
  unfold c_env_reader_line
  generalize cutB 10 s = q at *
  obtain ⟨a, r, ok⟩ := q
  simp only at hc ⊢
  cases bad with
  | true =>
    repeat' (first
| ((with_reducible apply opsF.op rfl); case hs => first | exact tHT | exact tHS)
| (with_reducible first | apply opsF.nil | apply seqF.nn | apply vcF.seq | apply vcF.region | apply vcF.skip | apply vcF.ret | apply seqF.r)
| ((with_reducible apply opsF.call); case hx => exact tAG)
| ((with_reducible apply opsF.want); (case hg => exact tEV); case hb => exact tNB)
| ((with_reducible apply opsF.skip); (case hg => exact tEV); case hb => exact tNB)
| (first | ((with_reducible apply opsF.case); case hg => exact tEV) | ((with_reducible apply vcF.cond); case hx => exact tEV)) <;> ((intro hc; try simp only [Int.reduceLT, Int.reduceLE, Int.reduceEq, Int.reduceNe, Int.cast_ofNat_Int, Int.reduceNeg, reduceCtorEq, ne_eq, ge_iff_le, gt_iff_lt, beq_iff_eq, beq_eq_false_iff_ne, bne_iff_ne, bne_eq_false_iff_eq, nrm, *] at hc) <;> try (exfalso; omega))
| ((with_reducible apply opsF.und); case hg => rfl)
| ((with_reducible first | apply retF.r | apply retF.nn); case hv => exact tRS)
| ((refine Call.use (hc _) ?_)))
    all_goals exact ⟨rfl, by rw [set_twice]; rfl⟩
  | false =>
    cases ok with
    | true =>
      repeat' (first
| ((with_reducible apply opsF.op rfl); case hs => first | exact tHT | exact tHS)
| (with_reducible first | apply opsF.nil | apply seqF.nn | apply vcF.seq | apply vcF.region | apply vcF.skip | apply vcF.ret | apply seqF.r)
| ((with_reducible apply opsF.call); case hx => exact tAG)
| ((with_reducible apply opsF.want); (case hg => exact tEV); case hb => exact tNB)
| ((with_reducible apply opsF.skip); (case hg => exact tEV); case hb => exact tNB)
| (first | ((with_reducible apply opsF.case); case hg => exact tEV) | ((with_reducible apply vcF.cond); case hx => exact tEV)) <;> ((intro hc; try simp only [Int.reduceLT, Int.reduceLE, Int.reduceEq, Int.reduceNe, Int.cast_ofNat_Int, Int.reduceNeg, reduceCtorEq, ne_eq, ge_iff_le, gt_iff_lt, beq_iff_eq, beq_eq_false_iff_ne, bne_iff_ne, bne_eq_false_iff_eq, nrm, *] at hc) <;> try (exfalso; omega))
| ((with_reducible apply opsF.und); case hg => rfl)
| ((with_reducible first | apply retF.r | apply retF.nn); case hv => exact tRS)
| ((refine Call.use (hc _) ?_)))
      all_goals exact ⟨rfl, by rw [set_twice]; rfl⟩
    | false =>
      repeat' (first
| ((with_reducible apply opsF.op rfl); case hs => first | exact tHT | exact tHS)
| (with_reducible first | apply opsF.nil | apply seqF.nn | apply vcF.seq | apply vcF.region | apply vcF.skip | apply vcF.ret | apply seqF.r)
| ((with_reducible apply opsF.call); case hx => exact tAG)
| ((with_reducible apply opsF.want); (case hg => exact tEV); case hb => exact tNB)
| ((with_reducible apply opsF.skip); (case hg => exact tEV); case hb => exact tNB)
| (first | ((with_reducible apply opsF.case); case hg => exact tEV) | ((with_reducible apply vcF.cond); case hx => exact tEV)) <;> ((intro hc; try simp only [Int.reduceLT, Int.reduceLE, Int.reduceEq, Int.reduceNe, Int.cast_ofNat_Int, Int.reduceNeg, reduceCtorEq, ne_eq, ge_iff_le, gt_iff_lt, beq_iff_eq, beq_eq_false_iff_ne, bne_iff_ne, bne_eq_false_iff_eq, nrm, *] at hc) <;> try (exfalso; omega))
| ((with_reducible apply opsF.und); case hg => rfl)
| ((with_reducible first | apply retF.r | apply retF.nn); case hv => exact tRS)
| ((refine Call.use (hc _) ?_)))
      all_goals exact ⟨rfl, by rw [set_twice]; rfl⟩
def valR (k s : L8) : L8 := if preB (k ++ [32]) (cutB 10 s).1 then (cutB 10 s).1.drop (k ++ [32]).length else (cutB 10 s).1
theorem fldO_is (k s : L8) : (fldO k s).isSome = ((cutB 10 s).2.2 && preB (k ++ [32]) (cutB 10 s).1) := by
  unfold fldO
  cases (cutB 10 s).2.2 <;> cases preB (k ++ [32]) (cutB 10 s).1 <;> rfl
theorem fldO_val {k s : L8} {x : L8 × L8} (h : fldO k s = some x) : x = (valR k s, (cutB 10 s).2.1) := by
  unfold fldO at h
  split at h
  · rename_i hh
    injection h with h
    subst h
    rw [valR, hh.2, if_pos rfl]
    simp
  · cases h
theorem valR_len (k s : L8) : (valR k s).length ≤ s.length := by
  have := (cutB_le 10 s).1
  unfold valR
  split
  · rw [List.length_drop]; omega
  · exact this
theorem rvalue_call (id : Nat) (k s : L8) (bad : Bool) (h : AH) (ho : h.objs id = some (rdC s bad)) (hlt : id < h.n) (hl : s.length ≤ 9000000000) (hk : k.length ≤ 1000) :
    Call P w0 env_reader_value [.ptr id 0, .v (.string (bs k))] h (fun v h' => v = .v (.string (bs (valR k s))) ∧ h' = h.set id (rdC (cutB 10 s).2.1 (bad || !(fldO k s).isSome))) := by
  have hle := cutB_le 10 s
  have hln := rline_call (w0 := w0) id s bad h ho hlt hl
  have hcp := fun h => scutPG (w0 := w0) (cutB 10 s).1 (k ++ [32]) h (by omega)
  rw [fldO_is]
  unfold valR
  generalize (if preB (k ++ [32]) (cutB 10 s).1 then (cutB 10 s).1.drop (k ++ [32]).length else (cutB 10 s).1) = vv at *
  generalize preB (k ++ [32]) (cutB 10 s).1 = pp at *
  generalize cutB 10 s = q at *
  obtain ⟨a, r, ok⟩ := q
  simp only at hle hln hcp ⊢
  unfold rdC at *
  refine Call.bodyF b_env_reader_value rfl rfl ?_
  unfold c_env_reader_value
  cases bad with
  | true =>
    repeat' (first
| ((with_reducible apply opsF.op rfl); case hs => first | exact tHT | exact tHS)
| (with_reducible first | apply opsF.nil | apply seqF.nn | apply vcF.seq | apply vcF.region | apply vcF.skip | apply vcF.ret | apply seqF.r)
| ((with_reducible apply opsF.call); case hx => exact tAG)
| ((with_reducible apply opsF.want); (case hg => exact tEV); case hb => exact tNB)
| ((with_reducible apply opsF.skip); (case hg => exact tEV); case hb => exact tNB)
| (first | ((with_reducible apply opsF.case); case hg => exact tEV) | ((with_reducible apply vcF.cond); case hx => exact tEV)) <;> ((intro hc; try simp only [Int.reduceLT, Int.reduceLE, Int.reduceEq, Int.reduceNe, Int.cast_ofNat_Int, Int.reduceNeg, reduceCtorEq, ne_eq, ge_iff_le, gt_iff_lt, beq_iff_eq, beq_eq_false_iff_ne, bne_iff_ne, bne_eq_false_iff_eq, nrm, *] at hc) <;> try (exfalso; omega))
| ((with_reducible apply opsF.und); case hg => rfl)
| ((with_reducible first | apply retF.r | apply retF.nn); case hv => exact tRS)
| ((refine hln.mono fun v h2 hp => ?_); obtain ⟨rfl, rfl⟩ := hp)
| ((refine Call.use (hcp _) ?_)))
    all_goals exact ⟨rfl, by rw [set_twice]; rfl⟩
  | false =>
    cases ok with
    | false =>
      repeat' (first
| ((with_reducible apply opsF.op rfl); case hs => first | exact tHT | exact tHS)
| (with_reducible first | apply opsF.nil | apply seqF.nn | apply vcF.seq | apply vcF.region | apply vcF.skip | apply vcF.ret | apply seqF.r)
| ((with_reducible apply opsF.call); case hx => exact tAG)
| ((with_reducible apply opsF.want); (case hg => exact tEV); case hb => exact tNB)
| ((with_reducible apply opsF.skip); (case hg => exact tEV); case hb => exact tNB)
| (first | ((with_reducible apply opsF.case); case hg => exact tEV) | ((with_reducible apply vcF.cond); case hx => exact tEV)) <;> ((intro hc; try simp only [Int.reduceLT, Int.reduceLE, Int.reduceEq, Int.reduceNe, Int.cast_ofNat_Int, Int.reduceNeg, reduceCtorEq, ne_eq, ge_iff_le, gt_iff_lt, beq_iff_eq, beq_eq_false_iff_ne, bne_iff_ne, bne_eq_false_iff_eq, nrm, *] at hc) <;> try (exfalso; omega))
| ((with_reducible apply opsF.und); case hg => rfl)
| ((with_reducible first | apply retF.r | apply retF.nn); case hv => exact tRS)
| ((refine hln.mono fun v h2 hp => ?_); obtain ⟨rfl, rfl⟩ := hp)
| ((refine Call.use (hcp _) ?_)))
      all_goals exact ⟨rfl, by rw [set_twice]; rfl⟩
    | true =>
      cases pp with
      | true =>
        repeat' (first
| ((with_reducible apply opsF.op rfl); case hs => first | exact tHT | exact tHS)
| (with_reducible first | apply opsF.nil | apply seqF.nn | apply vcF.seq | apply vcF.region | apply vcF.skip | apply vcF.ret | apply seqF.r)
| ((with_reducible apply opsF.call); case hx => exact tAG)
| ((with_reducible apply opsF.want); (case hg => exact tEV); case hb => exact tNB)
| ((with_reducible apply opsF.skip); (case hg => exact tEV); case hb => exact tNB)
| (first | ((with_reducible apply opsF.case); case hg => exact tEV) | ((with_reducible apply vcF.cond); case hx => exact tEV)) <;> ((intro hc; try simp only [Int.reduceLT, Int.reduceLE, Int.reduceEq, Int.reduceNe, Int.cast_ofNat_Int, Int.reduceNeg, reduceCtorEq, ne_eq, ge_iff_le, gt_iff_lt, beq_iff_eq, beq_eq_false_iff_ne, bne_iff_ne, bne_eq_false_iff_eq, nrm, *] at hc) <;> try (exfalso; omega))
| ((with_reducible apply opsF.und); case hg => rfl)
| ((with_reducible first | apply retF.r | apply retF.nn); case hv => exact tRS)
| ((refine hln.mono fun v h2 hp => ?_); obtain ⟨rfl, rfl⟩ := hp)
| ((refine Call.use (hcp _) ?_)))
        all_goals exact ⟨rfl, by rw [set_twice]; rfl⟩
      | false =>
        repeat' (first
| ((with_reducible apply opsF.op rfl); case hs => first | exact tHT | exact tHS)
| (with_reducible first | apply opsF.nil | apply seqF.nn | apply vcF.seq | apply vcF.region | apply vcF.skip | apply vcF.ret | apply seqF.r)
| ((with_reducible apply opsF.call); case hx => exact tAG)
| ((with_reducible apply opsF.want); (case hg => exact tEV); case hb => exact tNB)
| ((with_reducible apply opsF.skip); (case hg => exact tEV); case hb => exact tNB)
| (first | ((with_reducible apply opsF.case); case hg => exact tEV) | ((with_reducible apply vcF.cond); case hx => exact tEV)) <;> ((intro hc; try simp only [Int.reduceLT, Int.reduceLE, Int.reduceEq, Int.reduceNe, Int.cast_ofNat_Int, Int.reduceNeg, reduceCtorEq, ne_eq, ge_iff_le, gt_iff_lt, beq_iff_eq, beq_eq_false_iff_ne, bne_iff_ne, bne_eq_false_iff_eq, nrm, *] at hc) <;> try (exfalso; omega))
| ((with_reducible apply opsF.und); case hg => rfl)
| ((with_reducible first | apply retF.r | apply retF.nn); case hv => exact tRS)
| ((refine hln.mono fun v h2 hp => ?_); obtain ⟨rfl, rfl⟩ := hp)
| ((refine Call.use (hcp _) ?_)))
        all_goals exact ⟨rfl, by rw [set_twice]; rfl⟩
end Go.Abs.F
namespace Go.Abs.F
open Go Go.Abs
set_option maxRecDepth 10000
set_option maxHeartbeats 20000000
set_option linter.unusedSimpArgs false
set_option linter.unusedVariables false
variable {w0 : World}
theorem rnum_call (hP : PowTab w0) (hE : ErrVars w0) (id : Nat) (k s : L8) (bad : Bool) (h : AH) (ho : h.objs id = some (rdC s bad)) (hlt : id < h.n) (hl : s.length ≤ 1000000000) (hk : k.length ≤ 1000) :
    Call P w0 env_reader_num [.ptr id 0, .v (.string (bs k))] h (fun v h' => ∃ n : Int, v = .v (.int .i64 n) ∧ h' = h.set id (rdC (cutB 10 s).2.1 (bad || !(numF k s).isSome)) ∧ ∀ x, numF k s = some x → x = (n, (cutB 10 s).2.1)) := by
  have hv := rvalue_call (w0 := w0) id k s bad h ho hlt (by omega) hk
  have hvl := valR_len k s
  have hA := fun h => atoiA_call (w0 := w0) hE (valR k s) h (by omega)
  have hno : (fldO k s).isSome = false → numF k s = none := fun e => by
    cases hf : fldO k s with
    | none => rw [numF, hf]; rfl
    | some x => rw [hf] at e; cases e
  have hyes : (fldO k s).isSome = true → numF k s = (numG (valR k s)).map fun n => (n, (cutB 10 s).2.1) := fun e => by
    cases hf : fldO k s with
    | none => rw [hf] at e; cases e
    | some x => rw [numF, hf, fldO_val hf]; rfl
  have hg : numG (valR k s) = match Lib.atoiAll (valR k s) with
    | .ok n => if decS n = valR k s then some n else none
    | _ => none := rfl
  generalize valR k s = vv at *
  generalize (fldO k s).isSome = fb at *
  generalize (cutB 10 s).2.1 = r at *
  generalize numF k s = nf at *
  unfold rdC at *
  refine Call.bodyF b_env_reader_num rfl rfl ?_
  unfold c_env_reader_num
  by_cases hex : ∃ n, Lib.atoiAll vv = .ok n
  · obtain ⟨n, hn⟩ := hex
    have hr := atoi_range hn
    have hA2 : ∀ h, Call P w0 strconv_Atoi [.v (.string (bs vv))] h fun v h' => v = .tup [.v (.int .i64 n), .v .nilIface] ∧ h' = h := fun h => (hA h).mono fun v h' hq => by
      obtain ⟨hq, rfl⟩ := hq
      rcases hq with ⟨m, hm, rfl⟩ | ⟨hm, _⟩
      · rw [hn] at hm; cases hm; exact ⟨rfl, rfl⟩
      · exact absurd hn (hm n)
    clear hA
    have hI := fun h => itoa_call (w0 := w0) hP n h hr.1 hr.2
    rw [hn] at hg
    simp only at hg
    cases bad with
    | true =>
      have hF : ∀ x, nf = some x → x = (n, r) := by
        intro x hx
        cases fb with
        | false => rw [hno rfl] at hx; cases hx
        | true =>
          rw [hyes rfl, hg] at hx
          split at hx
          · cases hx; rfl
          · cases hx
      clear hno hyes hg hn
      repeat' (first
| ((with_reducible apply opsF.op rfl); case hs => first | exact tHT | exact tHS)
| (with_reducible first | apply opsF.nil | apply seqF.nn | apply vcF.seq | apply vcF.region | apply vcF.skip | apply vcF.ret | apply seqF.r)
| ((with_reducible apply opsF.call); case hx => exact tAG)
| ((with_reducible apply opsF.want); (case hg => exact tEV); case hb => exact tNB)
| ((with_reducible apply opsF.skip); (case hg => exact tEV); case hb => exact tNB)
| (first | ((with_reducible apply opsF.case); case hg => exact tEV) | ((with_reducible apply vcF.cond); case hx => exact tEV)) <;> ((intro hc; try simp only [Int.reduceLT, Int.reduceLE, Int.reduceEq, Int.reduceNe, Int.cast_ofNat_Int, Int.reduceNeg, reduceCtorEq, ne_eq, ge_iff_le, gt_iff_lt, beq_iff_eq, beq_eq_false_iff_ne, bne_iff_ne, bne_eq_false_iff_eq, nrm, *] at hc) <;> try (exfalso; omega))
| ((with_reducible apply opsF.und); case hg => rfl)
| ((with_reducible first | apply retF.r | apply retF.nn); case hv => exact tRS)
| ((refine hv.mono fun v h2 hp => ?_); obtain ⟨rfl, rfl⟩ := hp)
| ((refine Call.use (hA2 _) ?_))
| ((refine Call.use (hI _) ?_)))
      all_goals exact ⟨n, rfl, by rw [set_twice]; rfl, hF⟩
    | false =>
      cases fb with
      | false =>
        have hnf := hno rfl
        clear hno hyes hg
        subst hnf
        repeat' (first
| ((with_reducible apply opsF.op rfl); case hs => first | exact tHT | exact tHS)
| (with_reducible first | apply opsF.nil | apply seqF.nn | apply vcF.seq | apply vcF.region | apply vcF.skip | apply vcF.ret | apply seqF.r)
| ((with_reducible apply opsF.call); case hx => exact tAG)
| ((with_reducible apply opsF.want); (case hg => exact tEV); case hb => exact tNB)
| ((with_reducible apply opsF.skip); (case hg => exact tEV); case hb => exact tNB)
| (first | ((with_reducible apply opsF.case); case hg => exact tEV) | ((with_reducible apply vcF.cond); case hx => exact tEV)) <;> ((intro hc; try simp only [Int.reduceLT, Int.reduceLE, Int.reduceEq, Int.reduceNe, Int.cast_ofNat_Int, Int.reduceNeg, reduceCtorEq, ne_eq, ge_iff_le, gt_iff_lt, beq_iff_eq, beq_eq_false_iff_ne, bne_iff_ne, bne_eq_false_iff_eq, nrm, *] at hc) <;> try (exfalso; omega))
| ((with_reducible apply opsF.und); case hg => rfl)
| ((with_reducible first | apply retF.r | apply retF.nn); case hv => exact tRS)
| ((refine hv.mono fun v h2 hp => ?_); obtain ⟨rfl, rfl⟩ := hp)
| ((refine Call.use (hA2 _) ?_))
| ((refine Call.use (hI _) ?_)))
        all_goals exact ⟨n, rfl, by rw [set_twice]; rfl, fun x hx => by cases hx⟩
      | true =>
        have hnf := hyes rfl
        clear hno hyes
        by_cases hd : decS n = vv
        · rw [if_pos hd] at hg
          rw [hg] at hnf
          simp only [Option.map_some] at hnf
          clear hg
          subst hnf
          clear hn
          repeat' (first
| ((with_reducible apply opsF.op rfl); case hs => first | exact tHT | exact tHS)
| (with_reducible first | apply opsF.nil | apply seqF.nn | apply vcF.seq | apply vcF.region | apply vcF.skip | apply vcF.ret | apply seqF.r)
| ((with_reducible apply opsF.call); case hx => exact tAG)
| ((with_reducible apply opsF.want); (case hg => exact tEV); case hb => exact tNB)
| ((with_reducible apply opsF.skip); (case hg => exact tEV); case hb => exact tNB)
| (first | ((with_reducible apply opsF.case); case hg => exact tEV) | ((with_reducible apply vcF.cond); case hx => exact tEV)) <;> ((intro hc; try simp only [Int.reduceLT, Int.reduceLE, Int.reduceEq, Int.reduceNe, Int.cast_ofNat_Int, Int.reduceNeg, reduceCtorEq, ne_eq, ge_iff_le, gt_iff_lt, beq_iff_eq, beq_eq_false_iff_ne, bne_iff_ne, bne_eq_false_iff_eq, nrm, *] at hc) <;> try (exfalso; omega))
| ((with_reducible apply opsF.und); case hg => rfl)
| ((with_reducible first | apply retF.r | apply retF.nn); case hv => exact tRS)
| ((refine hv.mono fun v h2 hp => ?_); obtain ⟨rfl, rfl⟩ := hp)
| ((refine Call.use (hA2 _) ?_))
| ((refine Call.use (hI _) ?_)))
          all_goals exact ⟨n, rfl, by rw [set_twice]; rfl, fun x hx => by cases hx; rfl⟩
        · rw [if_neg hd] at hg
          rw [hg] at hnf
          simp only [Option.map_none] at hnf
          clear hg
          subst hnf
          clear hn
          repeat' (first
| ((with_reducible apply opsF.op rfl); case hs => first | exact tHT | exact tHS)
| (with_reducible first | apply opsF.nil | apply seqF.nn | apply vcF.seq | apply vcF.region | apply vcF.skip | apply vcF.ret | apply seqF.r)
| ((with_reducible apply opsF.call); case hx => exact tAG)
| ((with_reducible apply opsF.want); (case hg => exact tEV); case hb => exact tNB)
| ((with_reducible apply opsF.skip); (case hg => exact tEV); case hb => exact tNB)
| (first | ((with_reducible apply opsF.case); case hg => exact tEV) | ((with_reducible apply vcF.cond); case hx => exact tEV)) <;> ((intro hc; try simp only [Int.reduceLT, Int.reduceLE, Int.reduceEq, Int.reduceNe, Int.cast_ofNat_Int, Int.reduceNeg, reduceCtorEq, ne_eq, ge_iff_le, gt_iff_lt, beq_iff_eq, beq_eq_false_iff_ne, bne_iff_ne, bne_eq_false_iff_eq, nrm, *] at hc) <;> try (exfalso; omega))
| ((with_reducible apply opsF.und); case hg => rfl)
| ((with_reducible first | apply retF.r | apply retF.nn); case hv => exact tRS)
| ((refine hv.mono fun v h2 hp => ?_); obtain ⟨rfl, rfl⟩ := hp)
| ((refine Call.use (hA2 _) ?_))
| ((refine Call.use (hI _) ?_)))
          all_goals exact ⟨n, rfl, by rw [set_twice]; rfl, fun x hx => by cases hx⟩
  · have hA2 : ∀ h, Call P w0 strconv_Atoi [.v (.string (bs vv))] h fun v h' => (∃ j te, v = .tup [.v (.int .i64 j), .iface te (.lptr [] 0)]) ∧ h' = h := fun h => (hA h).mono fun v h' hq => by
      obtain ⟨hq, rfl⟩ := hq
      rcases hq with ⟨m, hm, rfl⟩ | ⟨hm, hq⟩
      · exact absurd ⟨m, hm⟩ hex
      · exact ⟨hq, rfl⟩
    have hg2 : numG vv = none := by
      rw [hg]
      split
      · rename_i m hm; exact absurd ⟨m, hm⟩ hex
      · rfl
    have hnf : nf = none := by
      cases fb with
      | false => exact hno rfl
      | true => rw [hyes rfl, hg2]; rfl
    clear hno hyes hA hex hg hg2
    subst hnf
    cases bad with
    | true =>
      repeat' (first
| ((with_reducible apply opsF.op rfl); case hs => first | exact tHT | exact tHS)
| (with_reducible first | apply opsF.nil | apply seqF.nn | apply vcF.seq | apply vcF.region | apply vcF.skip | apply vcF.ret | apply seqF.r)
| ((with_reducible apply opsF.call); case hx => exact tAG)
| ((with_reducible apply opsF.want); (case hg => exact tEV); case hb => exact tNB)
| ((with_reducible apply opsF.skip); (case hg => exact tEV); case hb => exact tNB)
| (first | ((with_reducible apply opsF.case); case hg => exact tEV) | ((with_reducible apply vcF.cond); case hx => exact tEV)) <;> ((intro hc; try simp only [Int.reduceLT, Int.reduceLE, Int.reduceEq, Int.reduceNe, Int.cast_ofNat_Int, Int.reduceNeg, reduceCtorEq, ne_eq, ge_iff_le, gt_iff_lt, beq_iff_eq, beq_eq_false_iff_ne, bne_iff_ne, bne_eq_false_iff_eq, nrm, *] at hc) <;> try (exfalso; omega))
| ((with_reducible apply opsF.und); case hg => rfl)
| ((with_reducible first | apply retF.r | apply retF.nn); case hv => exact tRS)
| ((refine hv.mono fun v h2 hp => ?_); obtain ⟨rfl, rfl⟩ := hp)
| ((refine (hA2 _).mono fun v h2 hp => ?_); obtain ⟨⟨j, te, rfl⟩, rfl⟩ := hp))
      all_goals exact ⟨j, rfl, by rw [set_twice]; rfl, fun x hx => by cases hx⟩
    | false =>
      cases fb with
      | true =>
        repeat' (first
| ((with_reducible apply opsF.op rfl); case hs => first | exact tHT | exact tHS)
| (with_reducible first | apply opsF.nil | apply seqF.nn | apply vcF.seq | apply vcF.region | apply vcF.skip | apply vcF.ret | apply seqF.r)
| ((with_reducible apply opsF.call); case hx => exact tAG)
| ((with_reducible apply opsF.want); (case hg => exact tEV); case hb => exact tNB)
| ((with_reducible apply opsF.skip); (case hg => exact tEV); case hb => exact tNB)
| (first | ((with_reducible apply opsF.case); case hg => exact tEV) | ((with_reducible apply vcF.cond); case hx => exact tEV)) <;> ((intro hc; try simp only [Int.reduceLT, Int.reduceLE, Int.reduceEq, Int.reduceNe, Int.cast_ofNat_Int, Int.reduceNeg, reduceCtorEq, ne_eq, ge_iff_le, gt_iff_lt, beq_iff_eq, beq_eq_false_iff_ne, bne_iff_ne, bne_eq_false_iff_eq, nrm, *] at hc) <;> try (exfalso; omega))
| ((with_reducible apply opsF.und); case hg => rfl)
| ((with_reducible first | apply retF.r | apply retF.nn); case hv => exact tRS)
| ((refine hv.mono fun v h2 hp => ?_); obtain ⟨rfl, rfl⟩ := hp)
| ((refine (hA2 _).mono fun v h2 hp => ?_); obtain ⟨⟨j, te, rfl⟩, rfl⟩ := hp))
        all_goals exact ⟨j, rfl, by rw [set_twice]; rfl, fun x hx => by cases hx⟩
      | false =>
        repeat' (first
| ((with_reducible apply opsF.op rfl); case hs => first | exact tHT | exact tHS)
| (with_reducible first | apply opsF.nil | apply seqF.nn | apply vcF.seq | apply vcF.region | apply vcF.skip | apply vcF.ret | apply seqF.r)
| ((with_reducible apply opsF.call); case hx => exact tAG)
| ((with_reducible apply opsF.want); (case hg => exact tEV); case hb => exact tNB)
| ((with_reducible apply opsF.skip); (case hg => exact tEV); case hb => exact tNB)
| (first | ((with_reducible apply opsF.case); case hg => exact tEV) | ((with_reducible apply vcF.cond); case hx => exact tEV)) <;> ((intro hc; try simp only [Int.reduceLT, Int.reduceLE, Int.reduceEq, Int.reduceNe, Int.cast_ofNat_Int, Int.reduceNeg, reduceCtorEq, ne_eq, ge_iff_le, gt_iff_lt, beq_iff_eq, beq_eq_false_iff_ne, bne_iff_ne, bne_eq_false_iff_eq, nrm, *] at hc) <;> try (exfalso; omega))
| ((with_reducible apply opsF.und); case hg => rfl)
| ((with_reducible first | apply retF.r | apply retF.nn); case hv => exact tRS)
| ((refine hv.mono fun v h2 hp => ?_); obtain ⟨rfl, rfl⟩ := hp)
| ((refine (hA2 _).mono fun v h2 hp => ?_); obtain ⟨⟨j, te, rfl⟩, rfl⟩ := hp))
        all_goals exact ⟨j, rfl, by rw [set_twice]; rfl, fun x hx => by cases hx⟩
theorem mkO_take {v : L8} {i : Nat} {c : UInt8} (hc : v[i]? = some c) : mkO (v.take (i + 1)) = mkO (v.take i) ++ [(c.toNat : Int) - 48] := by
  rw [mkO, mkO, List.take_add_one, hc, List.map_append]
  rfl
theorem rmarks_call (id : Nat) (s : L8) (bad : Bool) (h : AH) (ho : h.objs id = some (rdC s bad)) (hlt : id < h.n) (hl : s.length ≤ 1000000000) :
    Call P w0 env_reader_marks [.ptr id 0] h (fun v h' => (∃ tk, v = .list 1 (irows (mkO (valR K8 s))) tk) ∧ Ext (h.set id (rdC (cutB 10 s).2.1 (bad || !(fldO K8 s).isSome))) h') := by
  have hv := rvalue_call (w0 := w0) id K8 s bad h ho hlt (by omega) (by decide)
  have hvl := valR_len K8 s
  generalize rdC (cutB 10 s).2.1 (bad || !(fldO K8 s).isSome) = nr at *
  generalize valR K8 s = vv at *
  unfold K8 at hv
  have yl := irows_len
  have bl := brows_len
  have bg := brows_get
  have m1 := brows_len vv
  refine Call.bodyF b_env_reader_marks rfl rfl ?_
  unfold c_env_reader_marks
  repeat' (first
| ((with_reducible apply opsF.op rfl); case hs => first | exact tHT | exact tHS)
| (with_reducible first | apply opsF.nil | apply seqF.nn | apply vcF.seq | apply vcF.region | apply vcF.skip | apply vcF.block | apply vcF.exit | apply vcF.ret | apply vcF.loop | apply seqF.e | apply seqF.r | apply blkF.nn | apply blkF.e | apply blkF.r | apply blkF.o rfl)
| ((with_reducible apply opsF.call); case hx => exact tAG)
| ((with_reducible apply vcF.cond); case hx => exact tEV) <;> ((intro hc; try simp only [Int.reduceLT, Int.reduceLE, Int.reduceEq, Int.reduceNe, Int.cast_ofNat_Int, Int.reduceNeg, reduceCtorEq, ne_eq, ge_iff_le, gt_iff_lt, beq_iff_eq, beq_eq_false_iff_ne, bne_iff_ne, bne_eq_false_iff_eq, nrm, *] at hc) <;> try (exfalso; omega))
| ((with_reducible first | apply retF.r | apply retF.nn); case hv => exact tRS)
| ((refine hv.mono fun v h2 hp => ?_); obtain ⟨rfl, rfl⟩ := hp))
  refine LpF.ind rfl (fun i : Nat => vv.length - i) (fun i σ hh => ∃ (tk : Tok), Ext (h.set id nr) hh ∧ σ 3 = .list 1 (irows (mkO (vv.take i))) tk ∧ TokU hh tk ∧ (∀ t, tk.owner = some t → h.nt ≤ t) ∧ σ 8 = .list 1 (brows vv) .no ∧ σ 9 = .v (.int .i64 (vv.length : Nat)) ∧ σ 10 = .v (.int .i64 (i : Nat)) ∧ i ≤ vv.length) ?_ (i := 0) ⟨.full, .refl _, rfl, trivial, (fun t ht => by cases ht), rfl, by first | rfl | (rw [← m1]; rfl), rfl, Nat.zero_le _⟩
  rintro i σ hh ⟨tk, hE, h3, hT, hF, h8, h9, h10, hi⟩
  rcases Nat.lt_or_ge i vv.length with hlt2 | hge
  · obtain ⟨x, hx⟩ : ∃ x, vv[i]? = some x := ⟨_, List.getElem?_eq_getElem hlt2⟩
    have hxl := x.toNat_lt
    have hfn := mkO_take hx
    have hfl : (mkO (vv.take i)).length = i := by simp [mkO]; omega
    obtain ⟨tk1, h2, hap, hT2, hT3, hT4, hT5, hT6⟩ := hT.app
    generalize mkO (vv.take i) = L at *
    repeat' (first
| ((with_reducible apply opsF.op rfl); case hs => first | exact tHT | exact tHS)
| (with_reducible first | apply opsF.nil | apply seqF.nn | apply vcF.seq | apply vcF.region | apply vcF.skip | apply vcF.block | apply vcF.exit | apply vcF.ret | apply vcF.loop | apply seqF.e | apply seqF.r | apply blkF.nn | apply blkF.e | apply blkF.r | apply blkF.o rfl)
| ((with_reducible apply opsF.call); case hx => exact tAG)
| ((with_reducible apply vcF.cond); case hx => exact tEV) <;> ((intro hc; try simp only [Int.reduceLT, Int.reduceLE, Int.reduceEq, Int.reduceNe, Int.cast_ofNat_Int, Int.reduceNeg, reduceCtorEq, ne_eq, ge_iff_le, gt_iff_lt, beq_iff_eq, beq_eq_false_iff_ne, bne_iff_ne, bne_eq_false_iff_eq, nrm, *] at hc) <;> try (exfalso; omega))
| ((with_reducible first | apply retF.r | apply retF.nn); case hv => exact tRS))
    refine ⟨i + 1, by omega, tk1, Ext.transX hE hT6 (fun _ x => x.elim) hF, ?_, hT2, ?_, h8, h9, rfl, by omega⟩
    · conv => lhs; whnf
      rw [hfn]
      simp [irows]
    · intro t ht
      rcases hT3 t ht with hz | hz
      · exact hF t hz
      · exact Nat.le_trans hE.nt hz
  · obtain rfl : i = vv.length := by omega
    rw [List.take_length] at h3
    repeat' (first
| ((with_reducible apply opsF.op rfl); case hs => first | exact tHT | exact tHS)
| (with_reducible first | apply opsF.nil | apply seqF.nn | apply vcF.seq | apply vcF.region | apply vcF.skip | apply vcF.block | apply vcF.exit | apply vcF.ret | apply vcF.loop | apply seqF.e | apply seqF.r | apply blkF.nn | apply blkF.e | apply blkF.r | apply blkF.o rfl)
| ((with_reducible apply opsF.call); case hx => exact tAG)
| ((with_reducible apply vcF.cond); case hx => exact tEV) <;> ((intro hc; try simp only [Int.reduceLT, Int.reduceLE, Int.reduceEq, Int.reduceNe, Int.cast_ofNat_Int, Int.reduceNeg, reduceCtorEq, ne_eq, ge_iff_le, gt_iff_lt, beq_iff_eq, beq_eq_false_iff_ne, bne_iff_ne, bne_eq_false_iff_eq, nrm, *] at hc) <;> try (exfalso; omega))
| ((with_reducible first | apply retF.r | apply retF.nn); case hv => exact tRS))
    exact ⟨⟨tk, rfl⟩, hE⟩
end Go.Abs.F
/- Layer 11: Encode. Layer 11: the document's text. -/
namespace Go.Abs.F
open Go Go.Abs
set_option maxRecDepth 10000
set_option maxHeartbeats 20000000
set_option linter.unusedSimpArgs false
set_option linter.unusedVariables false
variable {w0 : World}
theorem kv_len (k v : L8) : (kv k v).length = k.length + v.length + 2 := by simp [kv]; omega
theorem eline_call (id : Nat) (l k v : L8) (h : AH) (hb : Bld h id l) (hl : l.length + (kv k v).length ≤ 140737488355328) : Call P w0 env_Encode_1 [.v (.string (bs k)), .v (.string (bs v)), .ptr id 0] h (fun u h' => Bld h' id (l ++ kv k v) ∧ ExtX (fun i => id ≤ i) (fun _ => False) h h') := by
  rw [kv_len] at hl
  have e : ((k ++ [32]) ++ v) ++ [10] = kv k v := by simp [kv]
  refine Call.bodyF b_env_Encode_1 rfl rfl ?_
  unfold c_env_Encode_1
  repeat' (first
| ((with_reducible apply opsF.op rfl); case hs => first | exact tHT | exact tHS)
| (with_reducible first | apply opsF.nil | apply seqF.nn | apply vcF.seq | apply vcF.region | apply vcF.skip | apply vcF.ret | apply seqF.r)
| ((with_reducible apply opsF.call); case hx => exact tAG)
| ((with_reducible apply vcF.cond); case hx => exact tEV) <;> ((intro hc; try simp only [Int.reduceLT, Int.reduceLE, Int.reduceEq, Int.reduceNe, Int.cast_ofNat_Int, Int.reduceNeg, reduceCtorEq, ne_eq, ge_iff_le, gt_iff_lt, beq_iff_eq, beq_eq_false_iff_ne, bne_iff_ne, bne_eq_false_iff_eq, nrm, *] at hc) <;> try (exfalso; omega))
| ((with_reducible first | apply retF.r | apply retF.nn); case hv => exact tRS)
| ((refine (ws_call id l _ _ hb (by rw [kv_len]; omega)).mono fun v h2 hp => ?_); obtain ⟨rfl, hB2, hx2⟩ := hp))
  exact ⟨hB2, hx2⟩
theorem rcS_len {l : List L8} {K : Nat} (h : ∀ s ∈ l, s.length ≤ K) : (rcS l).length ≤ l.length * (K + 6) := by
  induction l with
  | nil => simp [rcS]
  | cons x l ih =>
    have h1 := h x (by simp)
    have h2 := ih fun s hs => h s (by simp [hs])
    have h3 := kv_len K7 x
    have h4 : K7.length = 4 := rfl
    simp only [rcS, List.length_append, List.length_cons, Nat.add_mul]
    omega
theorem bdS_len {l : List L8} {K : Nat} (h : ∀ s ∈ l, s.length ≤ K) : (bdS l).length ≤ l.length * (K + 6) := by
  induction l with
  | nil => simp [bdS]
  | cons x l ih =>
    have h1 := h x (by simp)
    have h2 := ih fun s hs => h s (by simp [hs])
    simp only [bdS, List.length_append, List.length_cons, Nat.add_mul]
    omega
theorem mkS_len {l : List Int} (h : l.all markS = true) : (mkS l).length ≤ l.length * 21 := by
  induction l with
  | nil => simp [mkS]
  | cons x l ih =>
    simp only [List.all_cons, Bool.and_eq_true] at h
    have h2 := ih h.2
    have h3 := h.1
    simp only [markS, Bool.and_eq_true, decide_eq_true_eq] at h3
    have h1 := decS_len x (by omega) (by omega)
    simp only [mkS, List.length_append, List.length_cons, Nat.add_mul]
    omega
structure GoodP (m : Msg) : Prop where
  t1 : -9223372036854775808 ≤ m.1 ∧ m.1 ≤ 9223372036854775807
  t2 : -9223372036854775808 ≤ m.2.1 ∧ m.2.1 ≤ 9223372036854775807
  t3 : -9223372036854775808 ≤ m.2.2.1 ∧ m.2.2.1 ≤ 9223372036854775807
  t4 : -9223372036854775808 ≤ m.2.2.2.1 ∧ m.2.2.2.1 ≤ 9223372036854775807
  t5 : -9223372036854775808 ≤ m.2.2.2.2.1 ∧ m.2.2.2.2.1 ≤ 9223372036854775807
  mks : m.2.2.2.2.2.2.2.1.all markS = true
  z1 : 0 ≤ m.1
  z2 : 0 ≤ m.2.1
  z3 : 0 ≤ m.2.2.1
  z4 : 0 ≤ m.2.2.2.1
  z5 : 0 ≤ m.2.2.2.2.1
theorem time_nn {n : Int} (h : timeS n = true) : 0 ≤ n := by
  simp only [timeS, Bool.and_eq_true, decide_eq_true_eq] at h
  omega
theorem goodP_of {m : Msg} (h : goodM m = true) : GoodP m := by
  simp only [goodM, numsS, Bool.and_eq_true] at h
  obtain ⟨⟨⟨⟨⟨⟨⟨⟨⟨⟨⟨t1, t2⟩, t3⟩, t4⟩, t5⟩, hf⟩, h1⟩, h2⟩, hr⟩, h3⟩, hm⟩, hb⟩ := h
  exact ⟨time_rng t1, time_rng t2, time_rng t3, time_rng t4, time_rng t5, hm, time_nn t1, time_nn t2, time_nn t3, time_nn t4, time_nn t5⟩
theorem text_len {m : Msg} (hm : MOk m) (g : GoodP m) : (textM m).length ≤ 10000000000000 := by
  have d1 := decS_len _ g.t1.1 g.t1.2
  have d2 := decS_len _ g.t2.1 g.t2.2
  have d3 := decS_len _ g.t3.1 g.t3.2
  have d4 := decS_len _ g.t4.1 g.t4.2
  have d5 := decS_len _ g.t5.1 g.t5.2
  have a1 := rcS_len hm.rs
  have a2 := bdS_len hm.bs
  have a3 := mkS_len g.mks
  have m1 : m.2.2.2.2.2.2.1.length * (1000000 + 6) ≤ 1000000 * (1000000 + 6) := Nat.mul_le_mul_right _ hm.rl
  have m2 : m.2.2.2.2.2.2.2.2.length * (1000000 + 6) ≤ 1000000 * (1000000 + 6) := Nat.mul_le_mul_right _ hm.bl
  have m3 : m.2.2.2.2.2.2.2.1.length * 21 ≤ 1000000 * 21 := Nat.mul_le_mul_right _ hm.ml
  have hf := hm.f
  simp only [textM, numsT, restT, List.length_append, kv_len, List.length_cons, K1, K2, K3, K4, K5, K6, K8, List.length_nil]
  omega
def encV (m : Msg) : AV := if goodM m = true then .tup [.list 1 (brows (textM m)) .no, .v (.int .i64 0)] else .tup [.list 1 [] .full, .v (.int .i64 2)]
theorem rcS_drop {l : List L8} {i : Nat} {x : L8} (hx : l[i]? = some x) : rcS (l.drop i) = kv K7 x ++ rcS (l.drop (i + 1)) := by rw [drop_step hx, rcS]
theorem bdS_drop {l : List L8} {i : Nat} {x : L8} (hx : l[i]? = some x) : bdS (l.drop i) = x ++ 10 :: bdS (l.drop (i + 1)) := by rw [drop_step hx, bdS]
theorem mkS_app (l m : List Int) : mkS (l ++ m) = mkS l ++ mkS m := by
  induction l with
  | nil => rfl
  | cons x l ih => simp only [List.cons_append, mkS, ih, List.append_assoc]
theorem mkS_take {l : List Int} {i : Nat} {x : Int} (hx : l[i]? = some x) : mkS (l.take (i + 1)) = mkS (l.take i) ++ decS x := by
  rw [List.take_add_one, hx, Option.toList_some, mkS_app]
  simp [mkS]
theorem mkS_le {l : List Int} (i : Nat) : (mkS (l.take i)).length ≤ (mkS l).length := by
  have : mkS l = mkS (l.take i) ++ mkS (l.drop i) := by rw [← mkS_app, List.take_append_drop]
  rw [this, List.length_append]
  omega
theorem encode_raw (hP : PowTab w0) (m : Msg) (t1 t2 t3 : Tok) (h : AH) (hm : MOk m) : Call P w0 env_Encode [.agg (msgC m t1 t2 t3)] h (fun v h' => v = encV m ∧ Ext h h') := by
  have hG := fun h => egood_call (w0 := w0) m t1 t2 t3 h hm
  have xl := srows_len
  have xg := srows_get
  have yl := irows_len
  have yg := irows_get
  rw [encV]
  refine Call.bodyF b_env_Encode rfl rfl ?_
  unfold c_env_Encode
  cases hg : goodM m with
  | false =>
    rw [hg] at hG
    obtain ⟨n1, n2, n3, n4, n5, f, rc, mk, bd⟩ := m
    unfold msgC at hG ⊢
    dsimp only at hG ⊢
    clear hg
    repeat' (first
| ((with_reducible apply opsF.op rfl); case hs => first | exact tHT | exact tHS)
| (with_reducible first | apply opsF.nil | apply seqF.nn | apply vcF.seq | apply vcF.region | apply vcF.skip | apply vcF.block | apply vcF.exit | apply vcF.ret | apply vcF.loop | apply seqF.e | apply seqF.r | apply blkF.nn | apply blkF.e | apply blkF.r | apply blkF.o rfl)
| ((with_reducible apply opsF.call); case hx => exact tAG)
| ((with_reducible apply vcF.cond); case hx => exact tEV) <;> ((intro hc; try simp only [Int.reduceLT, Int.reduceLE, Int.reduceEq, Int.reduceNe, Int.cast_ofNat_Int, Int.reduceNeg, reduceCtorEq, ne_eq, ge_iff_le, gt_iff_lt, beq_iff_eq, beq_eq_false_iff_ne, bne_iff_ne, bne_eq_false_iff_eq, nrm, *] at hc) <;> try (exfalso; omega))
| ((with_reducible apply opsF.callv); (case hf => exact tEV); case hx => exact tCV)
| ((with_reducible first | apply retF.r | apply retF.nn); case hv => exact tRS)
| ((refine Call.use (hG _) ?_)))
    all_goals exact ⟨by first | rfl | simp, Ext.alloc _ _⟩
  | true =>
    have gp := goodP_of hg
    have htl := text_len hm gp
    rw [hg] at hG
    obtain ⟨n1, n2, n3, n4, n5, f, rc, mk, bd⟩ := m
    obtain ⟨r1, r2, r3, r4, r5, rm, _, _, _, _, _⟩ := gp
    obtain ⟨_, zr, _, zm, zb, _⟩ := hm
    simp only at zr zm zb
    simp only at r1 r2 r3 r4 r5 rm
    have e1 := srows_len rc
    have e2 := irows_len mk
    have e3 := srows_len bd
    obtain ⟨T, hT⟩ : ∃ T, textM (n1, n2, n3, n4, n5, f, rc, mk, bd) = T := ⟨_, rfl⟩
    rw [hT] at htl
    rw [if_pos rfl, hT]
    have hS : ((((((([] ++ kv K1 (decS n1)) ++ kv K2 (decS n2)) ++ kv K3 (decS n3)) ++ kv K4 (decS n4)) ++ kv K5 (decS n5)) ++ kv K6 f) ++ (rcS rc ++ (kv K8 (mkS mk) ++ 10 :: bdS bd))) = T := by
      rw [← hT]; simp [textM, numsT, restT]
    have hSl := congrArg List.length hS
    simp only [List.length_append, List.length_nil, List.length_cons] at hSl
    clear hT hg
    unfold msgC at hG ⊢
    dsimp only at hG ⊢
    unfold K1 K2 K3 K4 K5 K6 at hS hSl
    have hE : Ext h ((h.alloc (.cells [.v (.int .i64 n1), .v (.int .i64 n2), .v (.int .i64 n3), .v (.int .i64 n4), .v (.int .i64 n5), .v (.string (bs f)), .list 1 (srows rc) t1, .list 1 (irows mk) t2, .list 1 (srows bd) t3])).alloc (.bld 58 none 0 0)) := (Ext.alloc _ _).trans (Ext.alloc _ _)
    have hM : ((h.alloc (.cells [.v (.int .i64 n1), .v (.int .i64 n2), .v (.int .i64 n3), .v (.int .i64 n4), .v (.int .i64 n5), .v (.string (bs f)), .list 1 (srows rc) t1, .list 1 (irows mk) t2, .list 1 (srows bd) t3])).alloc (.bld 58 none 0 0)).objs h.n = some (.cells [.v (.int .i64 n1), .v (.int .i64 n2), .v (.int .i64 n3), .v (.int .i64 n4), .v (.int .i64 n5), .v (.string (bs f)), .list 1 (srows rc) t1, .list 1 (irows mk) t2, .list 1 (srows bd) t3]) := by simp [alloc_at, alloc_n]
    have hB : Bld ((h.alloc (.cells [.v (.int .i64 n1), .v (.int .i64 n2), .v (.int .i64 n3), .v (.int .i64 n4), .v (.int .i64 n5), .v (.string (bs f)), .list 1 (srows rc) t1, .list 1 (irows mk) t2, .list 1 (srows bd) t3])).alloc (.bld 58 none 0 0)) (h.n + 1) [] := ⟨by simp [alloc_n], .inl ⟨by simp [alloc_at, alloc_n], rfl⟩⟩
    repeat' (first
| ((with_reducible apply opsF.op rfl); case hs => first | exact tHT | exact tHS)
| (with_reducible first | apply opsF.nil | apply seqF.nn | apply vcF.seq | apply vcF.region | apply vcF.skip | apply vcF.block | apply vcF.exit | apply vcF.ret | apply vcF.loop | apply seqF.e | apply seqF.r | apply blkF.nn | apply blkF.e | apply blkF.r | apply blkF.o rfl)
| ((with_reducible apply opsF.call); case hx => exact tAG)
| ((with_reducible apply vcF.cond); case hx => exact tEV) <;> ((intro hc; try simp only [Int.reduceLT, Int.reduceLE, Int.reduceEq, Int.reduceNe, Int.cast_ofNat_Int, Int.reduceNeg, reduceCtorEq, ne_eq, ge_iff_le, gt_iff_lt, beq_iff_eq, beq_eq_false_iff_ne, bne_iff_ne, bne_eq_false_iff_eq, nrm, *] at hc) <;> try (exfalso; omega))
| ((with_reducible apply opsF.callv); (case hf => exact tEV); case hx => exact tCV)
| ((with_reducible first | apply retF.r | apply retF.nn); case hv => exact tRS)
| ((refine Call.use (hG _) ?_))
| ((refine Call.use (itoa_call hP n1 _ r1.1 r1.2) ?_))
| ((refine Call.use (itoa_call hP n2 _ r2.1 r2.2) ?_))
| ((refine Call.use (itoa_call hP n3 _ r3.1 r3.2) ?_))
| ((refine Call.use (itoa_call hP n4 _ r4.1 r4.2) ?_))
| ((refine Call.use (itoa_call hP n5 _ r5.1 r5.2) ?_))
| ((refine (eline_call (h.n + 1) _ _ _ _ hB (by simp only [List.length_append, List.length_nil]; omega)).mono fun u h2 hp => ?_); obtain ⟨hB2, hx⟩ := hp; replace hM := (hx.objs h.n (by have := hB.1; omega) (by omega)).trans hM; replace hE := Ext.transX hE hx (fun i (hi : h.n + 1 ≤ i) => (by omega)) (fun t ht => ht.elim); replace hB := hB2; clear hB2 hx))
    clear hG r1 r2 r3 r4 r5 hSl
    refine LpF.ind rfl (fun i : Nat => rc.length - i) (fun i σ hh => ∃ (pre : L8), Ext h hh ∧ hh.objs h.n = some (.cells [.v (.int .i64 n1), .v (.int .i64 n2), .v (.int .i64 n3), .v (.int .i64 n4), .v (.int .i64 n5), .v (.string (bs f)), .list 1 (srows rc) t1, .list 1 (irows mk) t2, .list 1 (srows bd) t3]) ∧ Bld hh (h.n + 1) pre ∧ σ 1 = .ptr h.n 0 ∧ σ 4 = .ptr (h.n + 1) 0 ∧ σ 5 = .func (.func env_Encode_1) [] [.ptr (h.n + 1) 0] ∧ σ 47 = .list 1 (srows rc) t1 ∧ σ 48 = .v (.int .i64 (rc.length : Nat)) ∧ σ 49 = .v (.int .i64 (i : Nat)) ∧ i ≤ rc.length ∧ pre ++ (rcS (rc.drop i) ++ (kv K8 (mkS mk) ++ 10 :: bdS bd)) = T) ?_ (i := 0)
      ⟨_, hE, hM, hB, rfl, rfl, rfl, rfl, by first | rfl | (rw [← e1]; rfl), rfl, Nat.zero_le _, hS⟩
    clear hE hM hB hS
    rintro i σ hh ⟨pre, hE, hM, hB, g1, g4, g5, g47, g48, g49, hi, hS⟩
    rcases Nat.lt_or_ge i rc.length with hlt | hge
    · obtain ⟨x, hx⟩ : ∃ x, rc[i]? = some x := ⟨_, List.getElem?_eq_getElem hlt⟩
      have hS2 : (pre ++ kv K7 x) ++ (rcS (rc.drop (i + 1)) ++ (kv K8 (mkS mk) ++ 10 :: bdS bd)) = T := by rw [← hS, rcS_drop hx]; simp
      have hSl : pre.length + (kv K7 x).length ≤ 10000000000000 := by
        have := congrArg List.length hS2
        simp only [List.length_append] at this
        omega
      clear hS
      unfold K7 at hS2 hSl
      repeat' (first
| ((with_reducible apply opsF.op rfl); case hs => first | exact tHT | exact tHS)
| (with_reducible first | apply opsF.nil | apply seqF.nn | apply vcF.seq | apply vcF.region | apply vcF.skip | apply vcF.block | apply vcF.exit | apply vcF.ret | apply vcF.loop | apply seqF.e | apply seqF.r | apply blkF.nn | apply blkF.e | apply blkF.r | apply blkF.o rfl)
| ((with_reducible apply opsF.call); case hx => exact tAG)
| ((with_reducible apply vcF.cond); case hx => exact tEV) <;> ((intro hc; try simp only [Int.reduceLT, Int.reduceLE, Int.reduceEq, Int.reduceNe, Int.cast_ofNat_Int, Int.reduceNeg, reduceCtorEq, ne_eq, ge_iff_le, gt_iff_lt, beq_iff_eq, beq_eq_false_iff_ne, bne_iff_ne, bne_eq_false_iff_eq, nrm, *] at hc) <;> try (exfalso; omega))
| ((with_reducible apply opsF.callv); (case hf => exact tEV); case hx => exact tCV)
| ((with_reducible first | apply retF.r | apply retF.nn); case hv => exact tRS)
| ((refine (eline_call (h.n + 1) _ _ _ _ hB (by omega)).mono fun u h2 hp => ?_); obtain ⟨hB2, hx⟩ := hp; replace hM := (hx.objs h.n (by have := hB.1; omega) (by omega)).trans hM; replace hE := Ext.transX hE hx (fun i (hi : h.n + 1 ≤ i) => (by omega)) (fun t ht => ht.elim); replace hB := hB2; clear hB2 hx))
      exact ⟨i + 1, by omega, _, hE, hM, hB, g1, g4, g5, g47, g48, rfl, by omega, hS2⟩
    · obtain rfl : i = rc.length := by omega
      rw [List.drop_length] at hS
      have hS2 : pre ++ (kv K8 (mkS mk) ++ 10 :: bdS bd) = T := hS
      clear hS
      have hSl : pre.length + ((kv K8 (mkS mk)).length + 1) ≤ 10000000000000 := by
        have := congrArg List.length hS2
        simp only [List.length_append, List.length_cons] at this
        omega
      have hkl := kv_len K8 (mkS mk)
      repeat' (first
| ((with_reducible apply opsF.op rfl); case hs => first | exact tHT | exact tHS)
| (with_reducible first | apply opsF.nil | apply seqF.nn | apply vcF.seq | apply vcF.region | apply vcF.skip | apply vcF.block | apply vcF.exit | apply vcF.ret | apply vcF.loop | apply seqF.e | apply seqF.r | apply blkF.nn | apply blkF.e | apply blkF.r | apply blkF.o rfl)
| ((with_reducible apply opsF.call); case hx => exact tAG)
| ((with_reducible apply vcF.cond); case hx => exact tEV) <;> ((intro hc; try simp only [Int.reduceLT, Int.reduceLE, Int.reduceEq, Int.reduceNe, Int.cast_ofNat_Int, Int.reduceNeg, reduceCtorEq, ne_eq, ge_iff_le, gt_iff_lt, beq_iff_eq, beq_eq_false_iff_ne, bne_iff_ne, bne_eq_false_iff_eq, nrm, *] at hc) <;> try (exfalso; omega))
| ((with_reducible apply opsF.callv); (case hf => exact tEV); case hx => exact tCV)
| ((with_reducible first | apply retF.r | apply retF.nn); case hv => exact tRS))
      refine LpF.ind rfl (fun i : Nat => mk.length - i) (fun i σ h' => h' = hh ∧ σ 1 = .ptr h.n 0 ∧ σ 4 = .ptr (h.n + 1) 0 ∧ σ 5 = .func (.func env_Encode_1) [] [.ptr (h.n + 1) 0] ∧ σ 58 = .list 1 (irows mk) t2 ∧ σ 59 = .v (.int .i64 (mk.length : Nat)) ∧ σ 60 = .v (.int .i64 (i : Nat)) ∧ σ 8 = .v (.string (bs (mkS (mk.take i)))) ∧ i ≤ mk.length) ?_ (i := 0)
        ⟨rfl, g1, g4, g5, rfl, by first | rfl | (rw [← e2]; rfl), rfl, rfl, Nat.zero_le _⟩
      clear g1 g4 g5 g47 g48 g49
      rintro i σ h' ⟨rfl, g1, g4, g5, g58, g59, g60, g8, hi⟩
      rcases Nat.lt_or_ge i mk.length with hlt | hge
      · obtain ⟨x, hx⟩ : ∃ x, mk[i]? = some x := ⟨_, List.getElem?_eq_getElem hlt⟩
        have hmx : markS x = true := List.all_eq_true.1 rm x (List.mem_of_getElem? hx)
        simp only [markS, Bool.and_eq_true, decide_eq_true_eq] at hmx
        have hI := fun h => itoa_call (w0 := w0) hP x h (by omega) (by omega)
        have hdl := decS_len x (by omega) (by omega)
        have htk := mkS_take hx
        have hml := mkS_le (l := mk) i
        generalize mkS (mk.take i) = M at *
        repeat' (first
| ((with_reducible apply opsF.op rfl); case hs => first | exact tHT | exact tHS)
| (with_reducible first | apply opsF.nil | apply seqF.nn | apply vcF.seq | apply vcF.region | apply vcF.skip | apply vcF.block | apply vcF.exit | apply vcF.ret | apply vcF.loop | apply seqF.e | apply seqF.r | apply blkF.nn | apply blkF.e | apply blkF.r | apply blkF.o rfl)
| ((with_reducible apply opsF.call); case hx => exact tAG)
| ((with_reducible apply vcF.cond); case hx => exact tEV) <;> ((intro hc; try simp only [Int.reduceLT, Int.reduceLE, Int.reduceEq, Int.reduceNe, Int.cast_ofNat_Int, Int.reduceNeg, reduceCtorEq, ne_eq, ge_iff_le, gt_iff_lt, beq_iff_eq, beq_eq_false_iff_ne, bne_iff_ne, bne_eq_false_iff_eq, nrm, *] at hc) <;> try (exfalso; omega))
| ((with_reducible apply opsF.callv); (case hf => exact tEV); case hx => exact tCV)
| ((with_reducible first | apply retF.r | apply retF.nn); case hv => exact tRS)
| ((refine Call.use (hI _) ?_)))
        refine ⟨i + 1, by omega, rfl, g1, g4, g5, g58, g59, rfl, ?_, by omega⟩
        rw [htk]
        rfl
      · obtain rfl : i = mk.length := by omega
        rw [List.take_length] at g8
        generalize mkS mk = M at *
        have hS3 : ((pre ++ kv K8 M) ++ [10]) ++ bdS bd = T := by rw [← hS2]; simp
        clear hS2
        unfold K8 at hS3 hSl hkl
        repeat' (first
| ((with_reducible apply opsF.op rfl); case hs => first | exact tHT | exact tHS)
| (with_reducible first | apply opsF.nil | apply seqF.nn | apply vcF.seq | apply vcF.region | apply vcF.skip | apply vcF.block | apply vcF.exit | apply vcF.ret | apply vcF.loop | apply seqF.e | apply seqF.r | apply blkF.nn | apply blkF.e | apply blkF.r | apply blkF.o rfl)
| ((with_reducible apply opsF.call); case hx => exact tAG)
| ((with_reducible apply vcF.cond); case hx => exact tEV) <;> ((intro hc; try simp only [Int.reduceLT, Int.reduceLE, Int.reduceEq, Int.reduceNe, Int.cast_ofNat_Int, Int.reduceNeg, reduceCtorEq, ne_eq, ge_iff_le, gt_iff_lt, beq_iff_eq, beq_eq_false_iff_ne, bne_iff_ne, bne_eq_false_iff_eq, nrm, *] at hc) <;> try (exfalso; omega))
| ((with_reducible apply opsF.callv); (case hf => exact tEV); case hx => exact tCV)
| ((with_reducible first | apply retF.r | apply retF.nn); case hv => exact tRS)
| ((refine (eline_call (h.n + 1) _ _ _ _ hB (by omega)).mono fun u h2 hp => ?_); obtain ⟨hB2, hx⟩ := hp; replace hM := (hx.objs h.n (by have := hB.1; omega) (by omega)).trans hM; replace hE := Ext.transX hE hx (fun i (hi : h.n + 1 ≤ i) => (by omega)) (fun t ht => ht.elim); replace hB := hB2; clear hB2 hx)
| ((refine (ws_call (h.n + 1) _ _ _ hB (by simp only [List.length_append, List.length_cons, List.length_nil]; omega)).mono fun u h2 hp => ?_); obtain ⟨rfl, hB2, hx⟩ := hp; replace hM := (hx.objs h.n (by have := hB.1; omega) (by omega)).trans hM; replace hE := Ext.transX hE hx (fun i (hi : h.n + 1 ≤ i) => (by omega)) (fun t ht => ht.elim); replace hB := hB2; clear hB2 hx))
        refine LpF.ind rfl (fun i : Nat => bd.length - i) (fun i σ hh => ∃ (pre : L8), Ext h hh ∧ hh.objs h.n = some (.cells [.v (.int .i64 n1), .v (.int .i64 n2), .v (.int .i64 n3), .v (.int .i64 n4), .v (.int .i64 n5), .v (.string (bs f)), .list 1 (srows rc) t1, .list 1 (irows mk) t2, .list 1 (srows bd) t3]) ∧ Bld hh (h.n + 1) pre ∧ σ 4 = .ptr (h.n + 1) 0 ∧ σ 74 = .list 1 (srows bd) t3 ∧ σ 75 = .v (.int .i64 (bd.length : Nat)) ∧ σ 76 = .v (.int .i64 (i : Nat)) ∧ i ≤ bd.length ∧ pre ≠ [] ∧ pre ++ bdS (bd.drop i) = T) ?_ (i := 0)
          ⟨_, hE, hM, hB, g4, rfl, by first | rfl | (rw [← e3]; rfl), rfl, Nat.zero_le _, by simp, hS3⟩
        clear hE hM hB hS3 g1 g4 g5 g58 g59 g60 g8
        rintro i σ hh ⟨pre, hE, hM, hB, g4, g74, g75, g76, hi, hpn, hS⟩
        rcases Nat.lt_or_ge i bd.length with hlt | hge
        · obtain ⟨x, hx⟩ : ∃ x, bd[i]? = some x := ⟨_, List.getElem?_eq_getElem hlt⟩
          have hS2 : (pre ++ (x ++ [10])) ++ bdS (bd.drop (i + 1)) = T := by rw [← hS, bdS_drop hx]; simp
          have hSl : pre.length + (x ++ [10]).length ≤ 10000000000000 := by
            have := congrArg List.length hS2
            simp only [List.length_append] at this ⊢
            omega
          have hxl : x.length ≤ 10000000000000 := by rw [List.length_append] at hSl; omega
          clear hS
          repeat' (first
| ((with_reducible apply opsF.op rfl); case hs => first | exact tHT | exact tHS)
| (with_reducible first | apply opsF.nil | apply seqF.nn | apply vcF.seq | apply vcF.region | apply vcF.skip | apply vcF.block | apply vcF.exit | apply vcF.ret | apply vcF.loop | apply seqF.e | apply seqF.r | apply blkF.nn | apply blkF.e | apply blkF.r | apply blkF.o rfl)
| ((with_reducible apply opsF.call); case hx => exact tAG)
| ((with_reducible apply vcF.cond); case hx => exact tEV) <;> ((intro hc; try simp only [Int.reduceLT, Int.reduceLE, Int.reduceEq, Int.reduceNe, Int.cast_ofNat_Int, Int.reduceNeg, reduceCtorEq, ne_eq, ge_iff_le, gt_iff_lt, beq_iff_eq, beq_eq_false_iff_ne, bne_iff_ne, bne_eq_false_iff_eq, nrm, *] at hc) <;> try (exfalso; omega))
| ((with_reducible apply opsF.callv); (case hf => exact tEV); case hx => exact tCV)
| ((with_reducible first | apply retF.r | apply retF.nn); case hv => exact tRS)
| ((refine (ws_call (h.n + 1) _ (x ++ [10]) _ hB (by omega)).mono fun u h2 hp => ?_); obtain ⟨rfl, hB2, hx⟩ := hp; replace hM := (hx.objs h.n (by have := hB.1; omega) (by omega)).trans hM; replace hE := Ext.transX hE hx (fun i (hi : h.n + 1 ≤ i) => (by omega)) (fun t ht => ht.elim); replace hB := hB2; clear hB2 hx))
          exact ⟨i + 1, by omega, _, hE, hM, hB, g4, g74, g75, rfl, by omega, by simp, hS2⟩
        · obtain rfl : i = bd.length := by omega
          rw [List.drop_length, bdS, List.append_nil] at hS
          subst hS
          have hsc := str_call (w0 := w0) (h.n + 1) pre hh hB hpn (by omega)
          repeat' (first
| ((with_reducible apply opsF.op rfl); case hs => first | exact tHT | exact tHS)
| (with_reducible first | apply opsF.nil | apply seqF.nn | apply vcF.seq | apply vcF.region | apply vcF.skip | apply vcF.block | apply vcF.exit | apply vcF.ret | apply vcF.loop | apply seqF.e | apply seqF.r | apply blkF.nn | apply blkF.e | apply blkF.r | apply blkF.o rfl)
| ((with_reducible apply opsF.call); case hx => exact tAG)
| ((with_reducible apply vcF.cond); case hx => exact tEV) <;> ((intro hc; try simp only [Int.reduceLT, Int.reduceLE, Int.reduceEq, Int.reduceNe, Int.cast_ofNat_Int, Int.reduceNeg, reduceCtorEq, ne_eq, ge_iff_le, gt_iff_lt, beq_iff_eq, beq_eq_false_iff_ne, bne_iff_ne, bne_eq_false_iff_eq, nrm, *] at hc) <;> try (exfalso; omega))
| ((with_reducible apply opsF.callv); (case hf => exact tEV); case hx => exact tCV)
| ((with_reducible first | apply retF.r | apply retF.nn); case hv => exact tRS)
| ((refine Call.use hsc ?_)))
          all_goals exact ⟨rfl, hE⟩
end Go.Abs.F
namespace Go.Abs.F
open Go Go.Abs
set_option maxRecDepth 10000
set_option maxHeartbeats 20000000
set_option linter.unusedSimpArgs false
set_option linter.unusedVariables false
variable {w0 : World}
theorem mkS_drop {l : List Int} {i : Nat} {x : Int} (hx : l[i]? = some x) : mkS (l.drop i) = decS x ++ mkS (l.drop (i + 1)) := by rw [drop_step hx, mkS]
theorem reftext_call (m : Msg) (t1 t2 t3 : Tok) (h : AH) (hm : MOk m) (hg : goodM m = true) : Call P w0 ref08_Text [.agg (msgC m t1 t2 t3)] h (fun v h' => v = .v (.string (bs (textM m))) ∧ h' = h) := by
  refine Call.pure (.v _) ?_
  have gp := goodP_of hg
  have htl := text_len hm gp
  have xl := srows_len
  have xg := srows_get
  have yl := irows_len
  have yg := irows_get
  obtain ⟨n1, n2, n3, n4, n5, f, rc, mk, bd⟩ := m
  obtain ⟨r1, r2, r3, r4, r5, rm, _, _, _, _, _⟩ := gp
  obtain ⟨_, zr, _, zm, zb, _⟩ := hm
  simp only at r1 r2 r3 r4 r5 rm zr zm zb
  have e1 := srows_len rc
  have e2 := irows_len mk
  have e3 := srows_len bd
  obtain ⟨T, hT⟩ : ∃ T, textM (n1, n2, n3, n4, n5, f, rc, mk, bd) = T := ⟨_, rfl⟩
  rw [hT] at htl
  rw [hT]
  have hS : ([105, 100, 32] ++ decS n1 ++ [10, 103, 101, 110, 32] ++ decS n2 ++ [10, 98, 111, 114, 110, 32] ++ decS n3 ++ [10, 116, 114, 105, 101, 115, 32] ++ decS n4 ++ [10, 100, 117, 101, 32] ++ decS n5 ++ [10, 102, 114, 111, 109, 32] ++ f ++ [10]) ++ (rcS rc ++ (kv K8 (mkS mk) ++ 10 :: bdS bd)) = T := by
    rw [← hT]; simp [textM, numsT, restT, kv, K1, K2, K3, K4, K5, K6, K8]
  have hSl := congrArg List.length hS
  simp only [List.length_append, List.length_nil, List.length_cons] at hSl
  clear hT hg
  have d1 := fun h => decZ_call (w0 := w0) n1 h r1.1 r1.2
  have d2 := fun h => decZ_call (w0 := w0) n2 h r2.1 r2.2
  have d3 := fun h => decZ_call (w0 := w0) n3 h r3.1 r3.2
  have d4 := fun h => decZ_call (w0 := w0) n4 h r4.1 r4.2
  have d5 := fun h => decZ_call (w0 := w0) n5 h r5.1 r5.2
  generalize decS n1 = D1 at *
  generalize decS n2 = D2 at *
  generalize decS n3 = D3 at *
  generalize decS n4 = D4 at *
  generalize decS n5 = D5 at *
  refine Call.bodyF b_ref08_Text rfl rfl ?_
  unfold c_ref08_Text msgC
  dsimp only
  repeat' (first
| ((with_reducible first | apply opsF.op rfl | apply dopsF.op rfl); case hs => first | exact tHT | exact tHS)
| (with_reducible first | apply opsF.nil | apply seqF.nn | apply vcF.seq | apply vcF.region | apply vcF.dregion | apply vcF.skip | apply vcF.block | apply vcF.exit | apply vcF.ret | apply vcF.loop | apply seqF.e | apply seqF.r | apply blkF.nn | apply blkF.e | apply blkF.r | apply blkF.o rfl | apply dopsF.nil | apply stabsF.nil | apply stabsF.cons | apply dopsF.cont)
| ((with_reducible first | apply opsF.call | apply dopsF.call); case hx => exact tAG)
| ((with_reducible first | apply opsF.want | apply dopsF.want | apply stabF.want); (case hg => exact tEV); case hb => exact tNB)
| ((with_reducible first | apply opsF.skip | apply dopsF.skip | apply stabF.skip); (case hg => exact tEV); case hb => exact tNB)
| (first | ((with_reducible first | apply opsF.case | apply dopsF.case); case hg => exact tEV) | ((with_reducible apply vcF.cond); case hx => exact tEV)) <;> ((intro hc; try simp only [Int.reduceLT, Int.reduceLE, Int.reduceEq, Int.reduceNe, Int.cast_ofNat_Int, Int.reduceNeg, reduceCtorEq, ne_eq, ge_iff_le, gt_iff_lt, beq_iff_eq, beq_eq_false_iff_ne, bne_iff_ne, bne_eq_false_iff_eq, nrm, *] at hc) <;> try (exfalso; omega))
| ((with_reducible first | apply opsF.und | apply dopsF.und); case hg => rfl)
| ((with_reducible apply stabF.und); rfl)
| ((with_reducible apply stabF.op); (case hs => first | exact tHT | exact tHS); case hv => exact tSV)
| ((with_reducible first | apply retF.r | apply retF.nn); case hv => exact tRS)
| ((refine Call.use (d1 _) ?_))
| ((refine Call.use (d2 _) ?_))
| ((refine Call.use (d3 _) ?_))
| ((refine Call.use (d4 _) ?_))
| ((refine Call.use (d5 _) ?_)))
  clear d1 d2 d3 d4 d5 hSl
  refine LpF.ind rfl (fun i : Nat => rc.length - i) (fun i σ hh => ∃ (pre : L8), Ext h hh ∧ hh.objs h.n = some (.cells [.v (.int .i64 n1), .v (.int .i64 n2), .v (.int .i64 n3), .v (.int .i64 n4), .v (.int .i64 n5), .v (.string (bs f)), .list 1 (srows rc) t1, .list 1 (irows mk) t2, .list 1 (srows bd) t3]) ∧ h.n < hh.n ∧ σ 1 = .ptr h.n 0 ∧ σ 3 = .v (.string (bs pre)) ∧ σ 4 = .v (.int .i64 (i : Nat)) ∧ i ≤ rc.length ∧ pre ++ (rcS (rc.drop i) ++ (kv K8 (mkS mk) ++ 10 :: bdS bd)) = T) ?_ (i := 0)
    ⟨_, Ext.alloc _ _, by simp [alloc_at], by simp [alloc_n], rfl, rfl, rfl, Nat.zero_le _, by first | exact hS | (rw [← hS]; simp)⟩
  clear hS
  rintro i σ hh ⟨pre, hE, hM, hn, g1, g3, g4, hi, hS⟩
  rcases Nat.lt_or_ge i rc.length with hlt | hge
  · obtain ⟨x, hx⟩ : ∃ x, rc[i]? = some x := ⟨_, List.getElem?_eq_getElem hlt⟩
    have hS2 : (((pre ++ [114, 99, 112, 116, 32]) ++ x) ++ [10]) ++ (rcS (rc.drop (i + 1)) ++ (kv K8 (mkS mk) ++ 10 :: bdS bd)) = T := by rw [← hS, rcS_drop hx]; simp [kv, K7]
    have hSl : pre.length + x.length + 6 ≤ 10000000000000 := by
      have := congrArg List.length hS2
      simp only [List.length_append, List.length_cons, List.length_nil] at this
      omega
    clear hS
    repeat' (first
| ((with_reducible first | apply opsF.op rfl | apply dopsF.op rfl); case hs => first | exact tHT | exact tHS)
| (with_reducible first | apply opsF.nil | apply seqF.nn | apply vcF.seq | apply vcF.region | apply vcF.dregion | apply vcF.skip | apply vcF.block | apply vcF.exit | apply vcF.ret | apply vcF.loop | apply seqF.e | apply seqF.r | apply blkF.nn | apply blkF.e | apply blkF.r | apply blkF.o rfl | apply dopsF.nil | apply stabsF.nil | apply stabsF.cons | apply dopsF.cont)
| ((with_reducible first | apply opsF.call | apply dopsF.call); case hx => exact tAG)
| ((with_reducible first | apply opsF.want | apply dopsF.want | apply stabF.want); (case hg => exact tEV); case hb => exact tNB)
| ((with_reducible first | apply opsF.skip | apply dopsF.skip | apply stabF.skip); (case hg => exact tEV); case hb => exact tNB)
| (first | ((with_reducible first | apply opsF.case | apply dopsF.case); case hg => exact tEV) | ((with_reducible apply vcF.cond); case hx => exact tEV)) <;> ((intro hc; try simp only [Int.reduceLT, Int.reduceLE, Int.reduceEq, Int.reduceNe, Int.cast_ofNat_Int, Int.reduceNeg, reduceCtorEq, ne_eq, ge_iff_le, gt_iff_lt, beq_iff_eq, beq_eq_false_iff_ne, bne_iff_ne, bne_eq_false_iff_eq, nrm, *] at hc) <;> try (exfalso; omega))
| ((with_reducible first | apply opsF.und | apply dopsF.und); case hg => rfl)
| ((with_reducible apply stabF.und); rfl)
| ((with_reducible apply stabF.op); (case hs => first | exact tHT | exact tHS); case hv => exact tSV)
| ((with_reducible first | apply retF.r | apply retF.nn); case hv => exact tRS))
    exact ⟨i + 1, by omega, _, hE, hM, hn, g1, by first | rfl | simp, rfl, by omega, by first | exact hS2 | (rw [← hS2]; simp)⟩
  · obtain rfl : i = rc.length := by omega
    rw [List.drop_length] at hS
    have hS2 : (pre ++ [109, 97, 114, 107, 115, 32]) ++ (mkS mk ++ ([10, 10] ++ bdS bd)) = T := by rw [← hS]; simp [kv, K8, rcS]
    clear hS
    have hSl : pre.length + 6 ≤ 10000000000000 := by
      have := congrArg List.length hS2
      simp only [List.length_append, List.length_cons, List.length_nil] at this
      omega
    repeat' (first
| ((with_reducible first | apply opsF.op rfl | apply dopsF.op rfl); case hs => first | exact tHT | exact tHS)
| (with_reducible first | apply opsF.nil | apply seqF.nn | apply vcF.seq | apply vcF.region | apply vcF.dregion | apply vcF.skip | apply vcF.block | apply vcF.exit | apply vcF.ret | apply vcF.loop | apply seqF.e | apply seqF.r | apply blkF.nn | apply blkF.e | apply blkF.r | apply blkF.o rfl | apply dopsF.nil | apply stabsF.nil | apply stabsF.cons | apply dopsF.cont)
| ((with_reducible first | apply opsF.call | apply dopsF.call); case hx => exact tAG)
| ((with_reducible first | apply opsF.want | apply dopsF.want | apply stabF.want); (case hg => exact tEV); case hb => exact tNB)
| ((with_reducible first | apply opsF.skip | apply dopsF.skip | apply stabF.skip); (case hg => exact tEV); case hb => exact tNB)
| (first | ((with_reducible first | apply opsF.case | apply dopsF.case); case hg => exact tEV) | ((with_reducible apply vcF.cond); case hx => exact tEV)) <;> ((intro hc; try simp only [Int.reduceLT, Int.reduceLE, Int.reduceEq, Int.reduceNe, Int.cast_ofNat_Int, Int.reduceNeg, reduceCtorEq, ne_eq, ge_iff_le, gt_iff_lt, beq_iff_eq, beq_eq_false_iff_ne, bne_iff_ne, bne_eq_false_iff_eq, nrm, *] at hc) <;> try (exfalso; omega))
| ((with_reducible first | apply opsF.und | apply dopsF.und); case hg => rfl)
| ((with_reducible apply stabF.und); rfl)
| ((with_reducible apply stabF.op); (case hs => first | exact tHT | exact tHS); case hv => exact tSV)
| ((with_reducible first | apply retF.r | apply retF.nn); case hv => exact tRS))
    refine LpF.ind rfl (fun i : Nat => mk.length - i) (fun i σ hh => ∃ (pre : L8), Ext h hh ∧ hh.objs h.n = some (.cells [.v (.int .i64 n1), .v (.int .i64 n2), .v (.int .i64 n3), .v (.int .i64 n4), .v (.int .i64 n5), .v (.string (bs f)), .list 1 (srows rc) t1, .list 1 (irows mk) t2, .list 1 (srows bd) t3]) ∧ h.n < hh.n ∧ σ 1 = .ptr h.n 0 ∧ σ 3 = .v (.string (bs pre)) ∧ σ 5 = .v (.int .i64 (i : Nat)) ∧ i ≤ mk.length ∧ pre ++ (mkS (mk.drop i) ++ ([10, 10] ++ bdS bd)) = T) ?_ (i := 0)
      ⟨_, hE, hM, hn, g1, rfl, rfl, Nat.zero_le _, by first | exact hS2 | (rw [← hS2]; simp)⟩
    clear hS2 hSl hE hM hn g1 g3 g4
    rintro i σ hh ⟨pre, hE, hM, hn, g1, g3, g4, hi, hS⟩
    rcases Nat.lt_or_ge i mk.length with hlt | hge
    · obtain ⟨x, hx⟩ : ∃ x, mk[i]? = some x := ⟨_, List.getElem?_eq_getElem hlt⟩
      have hmx : markS x = true := List.all_eq_true.1 rm x (List.mem_of_getElem? hx)
      simp only [markS, Bool.and_eq_true, decide_eq_true_eq] at hmx
      have hI := fun h => decZ_call (w0 := w0) x h (by omega) (by omega)
      have hS2 : (pre ++ decS x) ++ (mkS (mk.drop (i + 1)) ++ ([10, 10] ++ bdS bd)) = T := by rw [← hS, mkS_drop hx]; simp
      have hSl : pre.length + (decS x).length ≤ 10000000000000 := by
        have := congrArg List.length hS2
        simp only [List.length_append, List.length_cons, List.length_nil] at this
        omega
      clear hS
      generalize decS x = D at *
      repeat' (first
| ((with_reducible first | apply opsF.op rfl | apply dopsF.op rfl); case hs => first | exact tHT | exact tHS)
| (with_reducible first | apply opsF.nil | apply seqF.nn | apply vcF.seq | apply vcF.region | apply vcF.dregion | apply vcF.skip | apply vcF.block | apply vcF.exit | apply vcF.ret | apply vcF.loop | apply seqF.e | apply seqF.r | apply blkF.nn | apply blkF.e | apply blkF.r | apply blkF.o rfl | apply dopsF.nil | apply stabsF.nil | apply stabsF.cons | apply dopsF.cont)
| ((with_reducible first | apply opsF.call | apply dopsF.call); case hx => exact tAG)
| ((with_reducible first | apply opsF.want | apply dopsF.want | apply stabF.want); (case hg => exact tEV); case hb => exact tNB)
| ((with_reducible first | apply opsF.skip | apply dopsF.skip | apply stabF.skip); (case hg => exact tEV); case hb => exact tNB)
| (first | ((with_reducible first | apply opsF.case | apply dopsF.case); case hg => exact tEV) | ((with_reducible apply vcF.cond); case hx => exact tEV)) <;> ((intro hc; try simp only [Int.reduceLT, Int.reduceLE, Int.reduceEq, Int.reduceNe, Int.cast_ofNat_Int, Int.reduceNeg, reduceCtorEq, ne_eq, ge_iff_le, gt_iff_lt, beq_iff_eq, beq_eq_false_iff_ne, bne_iff_ne, bne_eq_false_iff_eq, nrm, *] at hc) <;> try (exfalso; omega))
| ((with_reducible first | apply opsF.und | apply dopsF.und); case hg => rfl)
| ((with_reducible apply stabF.und); rfl)
| ((with_reducible apply stabF.op); (case hs => first | exact tHT | exact tHS); case hv => exact tSV)
| ((with_reducible first | apply retF.r | apply retF.nn); case hv => exact tRS)
| ((refine Call.use (hI _) ?_)))
      exact ⟨i + 1, by omega, _, hE, hM, hn, g1, by first | rfl | simp, rfl, by omega, by first | exact hS2 | (rw [← hS2]; simp)⟩
    · obtain rfl : i = mk.length := by omega
      rw [List.drop_length] at hS
      have hS2 : (pre ++ [10, 10]) ++ bdS bd = T := by rw [← hS]; simp [mkS]
      clear hS
      have hSl : pre.length + 2 ≤ 10000000000000 := by
        have := congrArg List.length hS2
        simp only [List.length_append, List.length_cons, List.length_nil] at this
        omega
      repeat' (first
| ((with_reducible first | apply opsF.op rfl | apply dopsF.op rfl); case hs => first | exact tHT | exact tHS)
| (with_reducible first | apply opsF.nil | apply seqF.nn | apply vcF.seq | apply vcF.region | apply vcF.dregion | apply vcF.skip | apply vcF.block | apply vcF.exit | apply vcF.ret | apply vcF.loop | apply seqF.e | apply seqF.r | apply blkF.nn | apply blkF.e | apply blkF.r | apply blkF.o rfl | apply dopsF.nil | apply stabsF.nil | apply stabsF.cons | apply dopsF.cont)
| ((with_reducible first | apply opsF.call | apply dopsF.call); case hx => exact tAG)
| ((with_reducible first | apply opsF.want | apply dopsF.want | apply stabF.want); (case hg => exact tEV); case hb => exact tNB)
| ((with_reducible first | apply opsF.skip | apply dopsF.skip | apply stabF.skip); (case hg => exact tEV); case hb => exact tNB)
| (first | ((with_reducible first | apply opsF.case | apply dopsF.case); case hg => exact tEV) | ((with_reducible apply vcF.cond); case hx => exact tEV)) <;> ((intro hc; try simp only [Int.reduceLT, Int.reduceLE, Int.reduceEq, Int.reduceNe, Int.cast_ofNat_Int, Int.reduceNeg, reduceCtorEq, ne_eq, ge_iff_le, gt_iff_lt, beq_iff_eq, beq_eq_false_iff_ne, bne_iff_ne, bne_eq_false_iff_eq, nrm, *] at hc) <;> try (exfalso; omega))
| ((with_reducible first | apply opsF.und | apply dopsF.und); case hg => rfl)
| ((with_reducible apply stabF.und); rfl)
| ((with_reducible apply stabF.op); (case hs => first | exact tHT | exact tHS); case hv => exact tSV)
| ((with_reducible first | apply retF.r | apply retF.nn); case hv => exact tRS))
      refine LpF.ind rfl (fun i : Nat => bd.length - i) (fun i σ hh => ∃ (pre : L8), Ext h hh ∧ hh.objs h.n = some (.cells [.v (.int .i64 n1), .v (.int .i64 n2), .v (.int .i64 n3), .v (.int .i64 n4), .v (.int .i64 n5), .v (.string (bs f)), .list 1 (srows rc) t1, .list 1 (irows mk) t2, .list 1 (srows bd) t3]) ∧ h.n < hh.n ∧ σ 1 = .ptr h.n 0 ∧ σ 3 = .v (.string (bs pre)) ∧ σ 6 = .v (.int .i64 (i : Nat)) ∧ i ≤ bd.length ∧ pre ++ bdS (bd.drop i) = T) ?_ (i := 0)
        ⟨_, hE, hM, hn, g1, rfl, rfl, Nat.zero_le _, by first | exact hS2 | (rw [← hS2]; simp)⟩
      clear hS2 hSl hE hM hn g1 g3 g4
      rintro i σ hh ⟨pre, hE, hM, hn, g1, g3, g4, hi, hS⟩
      rcases Nat.lt_or_ge i bd.length with hlt | hge
      · obtain ⟨x, hx⟩ : ∃ x, bd[i]? = some x := ⟨_, List.getElem?_eq_getElem hlt⟩
        have hS2 : ((pre ++ x) ++ [10]) ++ bdS (bd.drop (i + 1)) = T := by rw [← hS, bdS_drop hx]; simp
        have hSl : pre.length + x.length + 1 ≤ 10000000000000 := by
          have := congrArg List.length hS2
          simp only [List.length_append, List.length_cons, List.length_nil] at this
          omega
        clear hS
        repeat' (first
| ((with_reducible first | apply opsF.op rfl | apply dopsF.op rfl); case hs => first | exact tHT | exact tHS)
| (with_reducible first | apply opsF.nil | apply seqF.nn | apply vcF.seq | apply vcF.region | apply vcF.dregion | apply vcF.skip | apply vcF.block | apply vcF.exit | apply vcF.ret | apply vcF.loop | apply seqF.e | apply seqF.r | apply blkF.nn | apply blkF.e | apply blkF.r | apply blkF.o rfl | apply dopsF.nil | apply stabsF.nil | apply stabsF.cons | apply dopsF.cont)
| ((with_reducible first | apply opsF.call | apply dopsF.call); case hx => exact tAG)
| ((with_reducible first | apply opsF.want | apply dopsF.want | apply stabF.want); (case hg => exact tEV); case hb => exact tNB)
| ((with_reducible first | apply opsF.skip | apply dopsF.skip | apply stabF.skip); (case hg => exact tEV); case hb => exact tNB)
| (first | ((with_reducible first | apply opsF.case | apply dopsF.case); case hg => exact tEV) | ((with_reducible apply vcF.cond); case hx => exact tEV)) <;> ((intro hc; try simp only [Int.reduceLT, Int.reduceLE, Int.reduceEq, Int.reduceNe, Int.cast_ofNat_Int, Int.reduceNeg, reduceCtorEq, ne_eq, ge_iff_le, gt_iff_lt, beq_iff_eq, beq_eq_false_iff_ne, bne_iff_ne, bne_eq_false_iff_eq, nrm, *] at hc) <;> try (exfalso; omega))
| ((with_reducible first | apply opsF.und | apply dopsF.und); case hg => rfl)
| ((with_reducible apply stabF.und); rfl)
| ((with_reducible apply stabF.op); (case hs => first | exact tHT | exact tHS); case hv => exact tSV)
| ((with_reducible first | apply retF.r | apply retF.nn); case hv => exact tRS))
        exact ⟨i + 1, by omega, _, hE, hM, hn, g1, by first | rfl | simp, rfl, by omega, by first | exact hS2 | (rw [← hS2]; simp)⟩
      · obtain rfl : i = bd.length := by omega
        rw [List.drop_length, bdS, List.append_nil] at hS
        subst hS
        repeat' (first
| ((with_reducible first | apply opsF.op rfl | apply dopsF.op rfl); case hs => first | exact tHT | exact tHS)
| (with_reducible first | apply opsF.nil | apply seqF.nn | apply vcF.seq | apply vcF.region | apply vcF.dregion | apply vcF.skip | apply vcF.block | apply vcF.exit | apply vcF.ret | apply vcF.loop | apply seqF.e | apply seqF.r | apply blkF.nn | apply blkF.e | apply blkF.r | apply blkF.o rfl | apply dopsF.nil | apply stabsF.nil | apply stabsF.cons | apply dopsF.cont)
| ((with_reducible first | apply opsF.call | apply dopsF.call); case hx => exact tAG)
| ((with_reducible first | apply opsF.want | apply dopsF.want | apply stabF.want); (case hg => exact tEV); case hb => exact tNB)
| ((with_reducible first | apply opsF.skip | apply dopsF.skip | apply stabF.skip); (case hg => exact tEV); case hb => exact tNB)
| (first | ((with_reducible first | apply opsF.case | apply dopsF.case); case hg => exact tEV) | ((with_reducible apply vcF.cond); case hx => exact tEV)) <;> ((intro hc; try simp only [Int.reduceLT, Int.reduceLE, Int.reduceEq, Int.reduceNe, Int.cast_ofNat_Int, Int.reduceNeg, reduceCtorEq, ne_eq, ge_iff_le, gt_iff_lt, beq_iff_eq, beq_eq_false_iff_ne, bne_iff_ne, bne_eq_false_iff_eq, nrm, *] at hc) <;> try (exfalso; omega))
| ((with_reducible first | apply opsF.und | apply dopsF.und); case hg => rfl)
| ((with_reducible apply stabF.und); rfl)
| ((with_reducible apply stabF.op); (case hs => first | exact tHT | exact tHS); case hv => exact tSV)
| ((with_reducible first | apply retF.r | apply retF.nn); case hv => exact tRS))
        all_goals exact ⟨rfl, hE⟩
end Go.Abs.F
/- Layer 11: which messages may be, the document's. -/
namespace Go.Abs.F
open Go Go.Abs
set_option maxRecDepth 10000
set_option maxHeartbeats 20000000
set_option linter.unusedSimpArgs false
set_option linter.unusedVariables false
variable {w0 : World}
theorem refgood_call (m : Msg) (t1 t2 t3 : Tok) (h : AH) (hm : MOk m) : Call P w0 ref08_Good [.agg (msgC m t1 t2 t3)] h (fun v h' => v = .v (.bool (goodM m)) ∧ h' = h) := by
  refine Call.pure (.v _) ?_
  obtain ⟨n1, n2, n3, n4, n5, f, rc, mk, bd⟩ := m
  obtain ⟨hf, hrl, hrs, hml, hbl, hbs⟩ := hm
  simp only at hf hrl hrs hml hbl hbs
  have hF := fun h => rmbox_call (w0 := w0) f h (by omega)
  have hR := fun s (hs : s ∈ rc) h => rmbox_call (w0 := w0) s h (by have := hrs s hs; omega)
  have hB := fun h => rgood_call (w0 := w0) bd t3 h hbl hbs
  have xl := srows_len
  have xg := srows_get
  have yl := irows_len
  have yg := irows_get
  have e1 := srows_len rc
  have e2 := irows_len mk
  have hg : goodM (n1, n2, n3, n4, n5, f, rc, mk, bd) = ([n1, n2, n3, n4, n5].all timeS && (f.isEmpty || mbS f) && decide (1 ≤ rc.length) && decide (rc.length ≤ 20) && rc.all mbS && decide (mk.length ≤ 50) && mk.all markS && bodyS bd) := by
    simp only [goodM, numsS, List.all_cons, List.all_nil, Bool.and_true, Bool.and_assoc]
  rw [hg]
  clear hg hbs hrs
  have hE0 : ∀ o, Ext h (h.alloc o) := fun o => Ext.alloc _ _
  have hL : ∃ L : List Int, L = [n1, n2, n3, n4, n5] ∧ L.length = 5 := ⟨_, rfl, rfl⟩
  generalize bodyS bd = q5 at *
  refine Call.bodyF b_ref08_Good rfl rfl ?_
  unfold c_ref08_Good msgC
  dsimp only
  repeat' (first
| ((with_reducible apply opsF.op rfl); case hs => first | exact tHT | exact tHS)
| (with_reducible first | apply opsF.nil | apply seqF.nn | apply vcF.seq | apply vcF.region | apply vcF.skip | apply vcF.block | apply vcF.exit | apply vcF.ret | apply vcF.loop | apply seqF.e | apply seqF.r | apply blkF.nn | apply blkF.e | apply blkF.r | apply blkF.o rfl)
| ((with_reducible apply opsF.call); case hx => exact tAG)
| ((with_reducible apply opsF.want); (case hg => exact tEV); case hb => exact tNB)
| ((with_reducible apply opsF.skip); (case hg => exact tEV); case hb => exact tNB)
| (first | ((with_reducible apply opsF.case); case hg => exact tEV) | ((with_reducible apply vcF.cond); case hx => exact tEV)) <;> ((intro hc; try simp only [Int.reduceLT, Int.reduceLE, Int.reduceEq, Int.reduceNe, Int.cast_ofNat_Int, Int.reduceNeg, reduceCtorEq, ne_eq, ge_iff_le, gt_iff_lt, beq_iff_eq, beq_eq_false_iff_ne, bne_iff_ne, bne_eq_false_iff_eq, nrm, *] at hc) <;> try (exfalso; omega))
| ((with_reducible apply opsF.und); case hg => rfl)
| ((with_reducible first | apply retF.r | apply retF.nn); case hv => exact tRS))
  refine LpF.ind rfl (fun i : Nat => 5 - i) (fun i σ hh => Ext h hh ∧ hh.objs h.n = some (.cells [.v (.int .i64 n1), .v (.int .i64 n2), .v (.int .i64 n3), .v (.int .i64 n4), .v (.int .i64 n5), .v (.string (bs f)), .list 1 (srows rc) t1, .list 1 (irows mk) t2, .list 1 (srows bd) t3]) ∧ h.n < hh.n ∧ σ 1 = .ptr h.n 0 ∧ (∃ tk, σ 3 = .list 1 (irows [n1, n2, n3, n4, n5]) tk) ∧ σ 4 = .v (.int .i64 (i : Nat)) ∧ i ≤ 5 ∧ ([n1, n2, n3, n4, n5].take i).all timeS = true) ?_ (i := 0) ⟨hE0 _, by simp [alloc_at], by simp [alloc_n], rfl, ⟨_, rfl⟩, rfl, Nat.zero_le _, rfl⟩
  clear hE0
  rintro i σ hh ⟨hE, hM, hn, h1, ⟨tk, h3⟩, h4, hi, ha⟩
  obtain ⟨L, hL1, hL2⟩ := hL
  rw [← hL1] at h3 ha ⊢
  clear hL1
  rcases Nat.lt_or_ge i 5 with hlt | hge
  · obtain ⟨x, hx⟩ : ∃ x, L[i]? = some x := ⟨_, List.getElem?_eq_getElem (by omega)⟩
    cases hb : timeS x with
    | false =>
      rw [all_bad hx hb]
      simp only [Bool.false_and]
      have hb2 : x < 0 ∨ 1099511627776 < x := by
        simp only [timeS, Bool.and_eq_false_iff, decide_eq_false_iff_not] at hb
        omega
      clear hb ha
      rcases hb2 with hb2 | hb2
      · repeat' (first
| ((with_reducible apply opsF.op rfl); case hs => first | exact tHT | exact tHS)
| (with_reducible first | apply opsF.nil | apply seqF.nn | apply vcF.seq | apply vcF.region | apply vcF.skip | apply vcF.block | apply vcF.exit | apply vcF.ret | apply vcF.loop | apply seqF.e | apply seqF.r | apply blkF.nn | apply blkF.e | apply blkF.r | apply blkF.o rfl)
| ((with_reducible apply opsF.call); case hx => exact tAG)
| ((with_reducible apply opsF.want); (case hg => exact tEV); case hb => exact tNB)
| ((with_reducible apply opsF.skip); (case hg => exact tEV); case hb => exact tNB)
| (first | ((with_reducible apply opsF.case); case hg => exact tEV) | ((with_reducible apply vcF.cond); case hx => exact tEV)) <;> ((intro hc; try simp only [Int.reduceLT, Int.reduceLE, Int.reduceEq, Int.reduceNe, Int.cast_ofNat_Int, Int.reduceNeg, reduceCtorEq, ne_eq, ge_iff_le, gt_iff_lt, beq_iff_eq, beq_eq_false_iff_ne, bne_iff_ne, bne_eq_false_iff_eq, nrm, *] at hc) <;> try (exfalso; omega))
| ((with_reducible apply opsF.und); case hg => rfl)
| ((with_reducible first | apply retF.r | apply retF.nn); case hv => exact tRS))
        all_goals exact ⟨rfl, hE⟩
      · repeat' (first
| ((with_reducible apply opsF.op rfl); case hs => first | exact tHT | exact tHS)
| (with_reducible first | apply opsF.nil | apply seqF.nn | apply vcF.seq | apply vcF.region | apply vcF.skip | apply vcF.block | apply vcF.exit | apply vcF.ret | apply vcF.loop | apply seqF.e | apply seqF.r | apply blkF.nn | apply blkF.e | apply blkF.r | apply blkF.o rfl)
| ((with_reducible apply opsF.call); case hx => exact tAG)
| ((with_reducible apply opsF.want); (case hg => exact tEV); case hb => exact tNB)
| ((with_reducible apply opsF.skip); (case hg => exact tEV); case hb => exact tNB)
| (first | ((with_reducible apply opsF.case); case hg => exact tEV) | ((with_reducible apply vcF.cond); case hx => exact tEV)) <;> ((intro hc; try simp only [Int.reduceLT, Int.reduceLE, Int.reduceEq, Int.reduceNe, Int.cast_ofNat_Int, Int.reduceNeg, reduceCtorEq, ne_eq, ge_iff_le, gt_iff_lt, beq_iff_eq, beq_eq_false_iff_ne, bne_iff_ne, bne_eq_false_iff_eq, nrm, *] at hc) <;> try (exfalso; omega))
| ((with_reducible apply opsF.und); case hg => rfl)
| ((with_reducible first | apply retF.r | apply retF.nn); case hv => exact tRS))
        all_goals exact ⟨rfl, hE⟩
    | true =>
      have hnx : (L.take (i + 1)).all timeS = true := by rw [List.take_add_one, hx, List.all_append, ha]; simp [hb]
      simp only [timeS, Bool.and_eq_true, decide_eq_true_eq] at hb
      obtain ⟨hb1, hb2⟩ := hb
      clear ha
      repeat' (first
| ((with_reducible apply opsF.op rfl); case hs => first | exact tHT | exact tHS)
| (with_reducible first | apply opsF.nil | apply seqF.nn | apply vcF.seq | apply vcF.region | apply vcF.skip | apply vcF.block | apply vcF.exit | apply vcF.ret | apply vcF.loop | apply seqF.e | apply seqF.r | apply blkF.nn | apply blkF.e | apply blkF.r | apply blkF.o rfl)
| ((with_reducible apply opsF.call); case hx => exact tAG)
| ((with_reducible apply opsF.want); (case hg => exact tEV); case hb => exact tNB)
| ((with_reducible apply opsF.skip); (case hg => exact tEV); case hb => exact tNB)
| (first | ((with_reducible apply opsF.case); case hg => exact tEV) | ((with_reducible apply vcF.cond); case hx => exact tEV)) <;> ((intro hc; try simp only [Int.reduceLT, Int.reduceLE, Int.reduceEq, Int.reduceNe, Int.cast_ofNat_Int, Int.reduceNeg, reduceCtorEq, ne_eq, ge_iff_le, gt_iff_lt, beq_iff_eq, beq_eq_false_iff_ne, bne_iff_ne, bne_eq_false_iff_eq, nrm, *] at hc) <;> try (exfalso; omega))
| ((with_reducible apply opsF.und); case hg => rfl)
| ((with_reducible first | apply retF.r | apply retF.nn); case hv => exact tRS))
      exact ⟨i + 1, by omega, hE, hM, hn, h1, ⟨tk, h3⟩, rfl, by omega, hnx⟩
  · obtain rfl : i = 5 := by omega
    have ha2 : L.all timeS = true := by rw [← ha, ← hL2, List.take_length]
    rw [ha2]
    clear ha ha2
    simp only [Bool.true_and]
    cases f with
    | nil =>
      clear hF
      simp only [List.isEmpty_nil, Bool.true_or, Bool.true_and]
      rcases Nat.lt_or_ge rc.length 1 with g1 | g1
      · rw [decide_eq_false (show ¬ 1 ≤ rc.length by omega)]
        simp only [Bool.and_false, Bool.false_and]
        repeat' (first
| ((with_reducible apply opsF.op rfl); case hs => first | exact tHT | exact tHS)
| (with_reducible first | apply opsF.nil | apply seqF.nn | apply vcF.seq | apply vcF.region | apply vcF.skip | apply vcF.block | apply vcF.exit | apply vcF.ret | apply vcF.loop | apply seqF.e | apply seqF.r | apply blkF.nn | apply blkF.e | apply blkF.r | apply blkF.o rfl)
| ((with_reducible apply opsF.call); case hx => exact tAG)
| ((with_reducible apply opsF.want); (case hg => exact tEV); case hb => exact tNB)
| ((with_reducible apply opsF.skip); (case hg => exact tEV); case hb => exact tNB)
| (first | ((with_reducible apply opsF.case); case hg => exact tEV) | ((with_reducible apply vcF.cond); case hx => exact tEV)) <;> ((intro hc; try simp only [Int.reduceLT, Int.reduceLE, Int.reduceEq, Int.reduceNe, Int.cast_ofNat_Int, Int.reduceNeg, reduceCtorEq, ne_eq, ge_iff_le, gt_iff_lt, beq_iff_eq, beq_eq_false_iff_ne, bne_iff_ne, bne_eq_false_iff_eq, nrm, *] at hc) <;> try (exfalso; omega))
| ((with_reducible apply opsF.und); case hg => rfl)
| ((with_reducible first | apply retF.r | apply retF.nn); case hv => exact tRS)
| ((refine Call.use (hB _) ?_)))
        all_goals exact ⟨rfl, hE⟩
      rw [decide_eq_true g1]
      rcases Nat.lt_or_ge 20 rc.length with g2 | g2
      · rw [decide_eq_false (show ¬ rc.length ≤ 20 by omega)]
        simp only [Bool.and_false, Bool.false_and]
        repeat' (first
| ((with_reducible apply opsF.op rfl); case hs => first | exact tHT | exact tHS)
| (with_reducible first | apply opsF.nil | apply seqF.nn | apply vcF.seq | apply vcF.region | apply vcF.skip | apply vcF.block | apply vcF.exit | apply vcF.ret | apply vcF.loop | apply seqF.e | apply seqF.r | apply blkF.nn | apply blkF.e | apply blkF.r | apply blkF.o rfl)
| ((with_reducible apply opsF.call); case hx => exact tAG)
| ((with_reducible apply opsF.want); (case hg => exact tEV); case hb => exact tNB)
| ((with_reducible apply opsF.skip); (case hg => exact tEV); case hb => exact tNB)
| (first | ((with_reducible apply opsF.case); case hg => exact tEV) | ((with_reducible apply vcF.cond); case hx => exact tEV)) <;> ((intro hc; try simp only [Int.reduceLT, Int.reduceLE, Int.reduceEq, Int.reduceNe, Int.cast_ofNat_Int, Int.reduceNeg, reduceCtorEq, ne_eq, ge_iff_le, gt_iff_lt, beq_iff_eq, beq_eq_false_iff_ne, bne_iff_ne, bne_eq_false_iff_eq, nrm, *] at hc) <;> try (exfalso; omega))
| ((with_reducible apply opsF.und); case hg => rfl)
| ((with_reducible first | apply retF.r | apply retF.nn); case hv => exact tRS)
| ((refine Call.use (hB _) ?_)))
        all_goals exact ⟨rfl, hE⟩
      rw [decide_eq_true g2]
      rcases Nat.lt_or_ge 50 mk.length with g3 | g3
      · rw [decide_eq_false (show ¬ mk.length ≤ 50 by omega)]
        simp only [Bool.and_false, Bool.false_and]
        repeat' (first
| ((with_reducible apply opsF.op rfl); case hs => first | exact tHT | exact tHS)
| (with_reducible first | apply opsF.nil | apply seqF.nn | apply vcF.seq | apply vcF.region | apply vcF.skip | apply vcF.block | apply vcF.exit | apply vcF.ret | apply vcF.loop | apply seqF.e | apply seqF.r | apply blkF.nn | apply blkF.e | apply blkF.r | apply blkF.o rfl)
| ((with_reducible apply opsF.call); case hx => exact tAG)
| ((with_reducible apply opsF.want); (case hg => exact tEV); case hb => exact tNB)
| ((with_reducible apply opsF.skip); (case hg => exact tEV); case hb => exact tNB)
| (first | ((with_reducible apply opsF.case); case hg => exact tEV) | ((with_reducible apply vcF.cond); case hx => exact tEV)) <;> ((intro hc; try simp only [Int.reduceLT, Int.reduceLE, Int.reduceEq, Int.reduceNe, Int.cast_ofNat_Int, Int.reduceNeg, reduceCtorEq, ne_eq, ge_iff_le, gt_iff_lt, beq_iff_eq, beq_eq_false_iff_ne, bne_iff_ne, bne_eq_false_iff_eq, nrm, *] at hc) <;> try (exfalso; omega))
| ((with_reducible apply opsF.und); case hg => rfl)
| ((with_reducible first | apply retF.r | apply retF.nn); case hv => exact tRS)
| ((refine Call.use (hB _) ?_)))
        all_goals exact ⟨rfl, hE⟩
      rw [decide_eq_true g3]
      cases q5 with
      | false =>
        simp only [Bool.and_false, Bool.false_and]
        repeat' (first
| ((with_reducible apply opsF.op rfl); case hs => first | exact tHT | exact tHS)
| (with_reducible first | apply opsF.nil | apply seqF.nn | apply vcF.seq | apply vcF.region | apply vcF.skip | apply vcF.block | apply vcF.exit | apply vcF.ret | apply vcF.loop | apply seqF.e | apply seqF.r | apply blkF.nn | apply blkF.e | apply blkF.r | apply blkF.o rfl)
| ((with_reducible apply opsF.call); case hx => exact tAG)
| ((with_reducible apply opsF.want); (case hg => exact tEV); case hb => exact tNB)
| ((with_reducible apply opsF.skip); (case hg => exact tEV); case hb => exact tNB)
| (first | ((with_reducible apply opsF.case); case hg => exact tEV) | ((with_reducible apply vcF.cond); case hx => exact tEV)) <;> ((intro hc; try simp only [Int.reduceLT, Int.reduceLE, Int.reduceEq, Int.reduceNe, Int.cast_ofNat_Int, Int.reduceNeg, reduceCtorEq, ne_eq, ge_iff_le, gt_iff_lt, beq_iff_eq, beq_eq_false_iff_ne, bne_iff_ne, bne_eq_false_iff_eq, nrm, *] at hc) <;> try (exfalso; omega))
| ((with_reducible apply opsF.und); case hg => rfl)
| ((with_reducible first | apply retF.r | apply retF.nn); case hv => exact tRS)
| ((refine Call.use (hB _) ?_)))
        all_goals exact ⟨rfl, hE⟩
      | true =>
        simp only [Bool.and_true, Bool.true_and]
        repeat' (first
| ((with_reducible apply opsF.op rfl); case hs => first | exact tHT | exact tHS)
| (with_reducible first | apply opsF.nil | apply seqF.nn | apply vcF.seq | apply vcF.region | apply vcF.skip | apply vcF.block | apply vcF.exit | apply vcF.ret | apply vcF.loop | apply seqF.e | apply seqF.r | apply blkF.nn | apply blkF.e | apply blkF.r | apply blkF.o rfl)
| ((with_reducible apply opsF.call); case hx => exact tAG)
| ((with_reducible apply opsF.want); (case hg => exact tEV); case hb => exact tNB)
| ((with_reducible apply opsF.skip); (case hg => exact tEV); case hb => exact tNB)
| (first | ((with_reducible apply opsF.case); case hg => exact tEV) | ((with_reducible apply vcF.cond); case hx => exact tEV)) <;> ((intro hc; try simp only [Int.reduceLT, Int.reduceLE, Int.reduceEq, Int.reduceNe, Int.cast_ofNat_Int, Int.reduceNeg, reduceCtorEq, ne_eq, ge_iff_le, gt_iff_lt, beq_iff_eq, beq_eq_false_iff_ne, bne_iff_ne, bne_eq_false_iff_eq, nrm, *] at hc) <;> try (exfalso; omega))
| ((with_reducible apply opsF.und); case hg => rfl)
| ((with_reducible first | apply retF.r | apply retF.nn); case hv => exact tRS)
| ((refine Call.use (hB _) ?_)))
        refine LpF.ind rfl (fun i : Nat => rc.length - i) (fun i σ hh => Ext h hh ∧ hh.objs h.n = some (.cells [.v (.int .i64 n1), .v (.int .i64 n2), .v (.int .i64 n3), .v (.int .i64 n4), .v (.int .i64 n5), .v (.string (bs [])), .list 1 (srows rc) t1, .list 1 (irows mk) t2, .list 1 (srows bd) t3]) ∧ h.n < hh.n ∧ σ 1 = .ptr h.n 0 ∧ σ 5 = .v (.int .i64 (i : Nat)) ∧ i ≤ rc.length ∧ (rc.take i).all mbS = true) ?_ (i := 0) ⟨hE, hM, hn, h1, rfl, Nat.zero_le _, rfl⟩
        clear hE hM hn h1 h3 h4
        rintro i σ hh ⟨hE, hM, hn, h1, h5, hi, ha⟩
        rcases Nat.lt_or_ge i rc.length with hlt | hge
        · obtain ⟨x, hx⟩ : ∃ x, rc[i]? = some x := ⟨_, List.getElem?_eq_getElem hlt⟩
          have hRx := hR x (List.mem_of_getElem? hx)
          clear hR
          cases hb : mbS x with
          | false =>
            rw [all_bad hx hb]
            simp only [Bool.false_and]
            rw [hb] at hRx
            clear hb ha
            repeat' (first
| ((with_reducible apply opsF.op rfl); case hs => first | exact tHT | exact tHS)
| (with_reducible first | apply opsF.nil | apply seqF.nn | apply vcF.seq | apply vcF.region | apply vcF.skip | apply vcF.block | apply vcF.exit | apply vcF.ret | apply vcF.loop | apply seqF.e | apply seqF.r | apply blkF.nn | apply blkF.e | apply blkF.r | apply blkF.o rfl)
| ((with_reducible apply opsF.call); case hx => exact tAG)
| ((with_reducible apply opsF.want); (case hg => exact tEV); case hb => exact tNB)
| ((with_reducible apply opsF.skip); (case hg => exact tEV); case hb => exact tNB)
| (first | ((with_reducible apply opsF.case); case hg => exact tEV) | ((with_reducible apply vcF.cond); case hx => exact tEV)) <;> ((intro hc; try simp only [Int.reduceLT, Int.reduceLE, Int.reduceEq, Int.reduceNe, Int.cast_ofNat_Int, Int.reduceNeg, reduceCtorEq, ne_eq, ge_iff_le, gt_iff_lt, beq_iff_eq, beq_eq_false_iff_ne, bne_iff_ne, bne_eq_false_iff_eq, nrm, *] at hc) <;> try (exfalso; omega))
| ((with_reducible apply opsF.und); case hg => rfl)
| ((with_reducible first | apply retF.r | apply retF.nn); case hv => exact tRS)
| ((refine Call.use (hRx _) ?_)))
            all_goals exact ⟨rfl, hE⟩
          | true =>
            have hnx : (rc.take (i + 1)).all mbS = true := by rw [List.take_add_one, hx, List.all_append, ha]; simp [hb]
            rw [hb] at hRx
            clear hb ha
            repeat' (first
| ((with_reducible apply opsF.op rfl); case hs => first | exact tHT | exact tHS)
| (with_reducible first | apply opsF.nil | apply seqF.nn | apply vcF.seq | apply vcF.region | apply vcF.skip | apply vcF.block | apply vcF.exit | apply vcF.ret | apply vcF.loop | apply seqF.e | apply seqF.r | apply blkF.nn | apply blkF.e | apply blkF.r | apply blkF.o rfl)
| ((with_reducible apply opsF.call); case hx => exact tAG)
| ((with_reducible apply opsF.want); (case hg => exact tEV); case hb => exact tNB)
| ((with_reducible apply opsF.skip); (case hg => exact tEV); case hb => exact tNB)
| (first | ((with_reducible apply opsF.case); case hg => exact tEV) | ((with_reducible apply vcF.cond); case hx => exact tEV)) <;> ((intro hc; try simp only [Int.reduceLT, Int.reduceLE, Int.reduceEq, Int.reduceNe, Int.cast_ofNat_Int, Int.reduceNeg, reduceCtorEq, ne_eq, ge_iff_le, gt_iff_lt, beq_iff_eq, beq_eq_false_iff_ne, bne_iff_ne, bne_eq_false_iff_eq, nrm, *] at hc) <;> try (exfalso; omega))
| ((with_reducible apply opsF.und); case hg => rfl)
| ((with_reducible first | apply retF.r | apply retF.nn); case hv => exact tRS)
| ((refine Call.use (hRx _) ?_)))
            exact ⟨i + 1, by omega, hE, hM, hn, h1, rfl, by omega, hnx⟩
        · obtain rfl : i = rc.length := by omega
          rw [List.take_length] at ha
          rw [ha]
          simp only [Bool.true_and]
          clear ha
          repeat' (first
| ((with_reducible apply opsF.op rfl); case hs => first | exact tHT | exact tHS)
| (with_reducible first | apply opsF.nil | apply seqF.nn | apply vcF.seq | apply vcF.region | apply vcF.skip | apply vcF.block | apply vcF.exit | apply vcF.ret | apply vcF.loop | apply seqF.e | apply seqF.r | apply blkF.nn | apply blkF.e | apply blkF.r | apply blkF.o rfl)
| ((with_reducible apply opsF.call); case hx => exact tAG)
| ((with_reducible apply opsF.want); (case hg => exact tEV); case hb => exact tNB)
| ((with_reducible apply opsF.skip); (case hg => exact tEV); case hb => exact tNB)
| (first | ((with_reducible apply opsF.case); case hg => exact tEV) | ((with_reducible apply vcF.cond); case hx => exact tEV)) <;> ((intro hc; try simp only [Int.reduceLT, Int.reduceLE, Int.reduceEq, Int.reduceNe, Int.cast_ofNat_Int, Int.reduceNeg, reduceCtorEq, ne_eq, ge_iff_le, gt_iff_lt, beq_iff_eq, beq_eq_false_iff_ne, bne_iff_ne, bne_eq_false_iff_eq, nrm, *] at hc) <;> try (exfalso; omega))
| ((with_reducible apply opsF.und); case hg => rfl)
| ((with_reducible first | apply retF.r | apply retF.nn); case hv => exact tRS))
          refine LpF.ind rfl (fun i : Nat => mk.length - i) (fun i σ hh => Ext h hh ∧ hh.objs h.n = some (.cells [.v (.int .i64 n1), .v (.int .i64 n2), .v (.int .i64 n3), .v (.int .i64 n4), .v (.int .i64 n5), .v (.string (bs [])), .list 1 (srows rc) t1, .list 1 (irows mk) t2, .list 1 (srows bd) t3]) ∧ h.n < hh.n ∧ σ 1 = .ptr h.n 0 ∧ σ 6 = .v (.int .i64 (i : Nat)) ∧ i ≤ mk.length ∧ (mk.take i).all markS = true) ?_ (i := 0) ⟨hE, hM, hn, h1, rfl, Nat.zero_le _, rfl⟩
          clear hE hM hn h1 h5
          rintro i σ hh ⟨hE, hM, hn, h1, h6, hi, ha⟩
          rcases Nat.lt_or_ge i mk.length with hlt | hge
          · obtain ⟨x, hx⟩ : ∃ x, mk[i]? = some x := ⟨_, List.getElem?_eq_getElem hlt⟩
            cases hb : markS x with
            | false =>
              rw [all_bad hx hb]
              have hb2 : x < 0 ∨ 2 < x := by
                simp only [markS, Bool.and_eq_false_iff, decide_eq_false_iff_not] at hb
                omega
              clear hb ha
              rcases hb2 with hb2 | hb2
              · repeat' (first
| ((with_reducible apply opsF.op rfl); case hs => first | exact tHT | exact tHS)
| (with_reducible first | apply opsF.nil | apply seqF.nn | apply vcF.seq | apply vcF.region | apply vcF.skip | apply vcF.block | apply vcF.exit | apply vcF.ret | apply vcF.loop | apply seqF.e | apply seqF.r | apply blkF.nn | apply blkF.e | apply blkF.r | apply blkF.o rfl)
| ((with_reducible apply opsF.call); case hx => exact tAG)
| ((with_reducible apply opsF.want); (case hg => exact tEV); case hb => exact tNB)
| ((with_reducible apply opsF.skip); (case hg => exact tEV); case hb => exact tNB)
| (first | ((with_reducible apply opsF.case); case hg => exact tEV) | ((with_reducible apply vcF.cond); case hx => exact tEV)) <;> ((intro hc; try simp only [Int.reduceLT, Int.reduceLE, Int.reduceEq, Int.reduceNe, Int.cast_ofNat_Int, Int.reduceNeg, reduceCtorEq, ne_eq, ge_iff_le, gt_iff_lt, beq_iff_eq, beq_eq_false_iff_ne, bne_iff_ne, bne_eq_false_iff_eq, nrm, *] at hc) <;> try (exfalso; omega))
| ((with_reducible apply opsF.und); case hg => rfl)
| ((with_reducible first | apply retF.r | apply retF.nn); case hv => exact tRS))
                all_goals exact ⟨rfl, hE⟩
              · repeat' (first
| ((with_reducible apply opsF.op rfl); case hs => first | exact tHT | exact tHS)
| (with_reducible first | apply opsF.nil | apply seqF.nn | apply vcF.seq | apply vcF.region | apply vcF.skip | apply vcF.block | apply vcF.exit | apply vcF.ret | apply vcF.loop | apply seqF.e | apply seqF.r | apply blkF.nn | apply blkF.e | apply blkF.r | apply blkF.o rfl)
| ((with_reducible apply opsF.call); case hx => exact tAG)
| ((with_reducible apply opsF.want); (case hg => exact tEV); case hb => exact tNB)
| ((with_reducible apply opsF.skip); (case hg => exact tEV); case hb => exact tNB)
| (first | ((with_reducible apply opsF.case); case hg => exact tEV) | ((with_reducible apply vcF.cond); case hx => exact tEV)) <;> ((intro hc; try simp only [Int.reduceLT, Int.reduceLE, Int.reduceEq, Int.reduceNe, Int.cast_ofNat_Int, Int.reduceNeg, reduceCtorEq, ne_eq, ge_iff_le, gt_iff_lt, beq_iff_eq, beq_eq_false_iff_ne, bne_iff_ne, bne_eq_false_iff_eq, nrm, *] at hc) <;> try (exfalso; omega))
| ((with_reducible apply opsF.und); case hg => rfl)
| ((with_reducible first | apply retF.r | apply retF.nn); case hv => exact tRS))
                all_goals exact ⟨rfl, hE⟩
            | true =>
              have hnx : (mk.take (i + 1)).all markS = true := by rw [List.take_add_one, hx, List.all_append, ha]; simp [hb]
              simp only [markS, Bool.and_eq_true, decide_eq_true_eq] at hb
              obtain ⟨hb1, hb2⟩ := hb
              clear ha
              repeat' (first
| ((with_reducible apply opsF.op rfl); case hs => first | exact tHT | exact tHS)
| (with_reducible first | apply opsF.nil | apply seqF.nn | apply vcF.seq | apply vcF.region | apply vcF.skip | apply vcF.block | apply vcF.exit | apply vcF.ret | apply vcF.loop | apply seqF.e | apply seqF.r | apply blkF.nn | apply blkF.e | apply blkF.r | apply blkF.o rfl)
| ((with_reducible apply opsF.call); case hx => exact tAG)
| ((with_reducible apply opsF.want); (case hg => exact tEV); case hb => exact tNB)
| ((with_reducible apply opsF.skip); (case hg => exact tEV); case hb => exact tNB)
| (first | ((with_reducible apply opsF.case); case hg => exact tEV) | ((with_reducible apply vcF.cond); case hx => exact tEV)) <;> ((intro hc; try simp only [Int.reduceLT, Int.reduceLE, Int.reduceEq, Int.reduceNe, Int.cast_ofNat_Int, Int.reduceNeg, reduceCtorEq, ne_eq, ge_iff_le, gt_iff_lt, beq_iff_eq, beq_eq_false_iff_ne, bne_iff_ne, bne_eq_false_iff_eq, nrm, *] at hc) <;> try (exfalso; omega))
| ((with_reducible apply opsF.und); case hg => rfl)
| ((with_reducible first | apply retF.r | apply retF.nn); case hv => exact tRS))
              exact ⟨i + 1, by omega, hE, hM, hn, h1, rfl, by omega, hnx⟩
          · obtain rfl : i = mk.length := by omega
            rw [List.take_length] at ha
            rw [ha]
            clear ha
            repeat' (first
| ((with_reducible apply opsF.op rfl); case hs => first | exact tHT | exact tHS)
| (with_reducible first | apply opsF.nil | apply seqF.nn | apply vcF.seq | apply vcF.region | apply vcF.skip | apply vcF.block | apply vcF.exit | apply vcF.ret | apply vcF.loop | apply seqF.e | apply seqF.r | apply blkF.nn | apply blkF.e | apply blkF.r | apply blkF.o rfl)
| ((with_reducible apply opsF.call); case hx => exact tAG)
| ((with_reducible apply opsF.want); (case hg => exact tEV); case hb => exact tNB)
| ((with_reducible apply opsF.skip); (case hg => exact tEV); case hb => exact tNB)
| (first | ((with_reducible apply opsF.case); case hg => exact tEV) | ((with_reducible apply vcF.cond); case hx => exact tEV)) <;> ((intro hc; try simp only [Int.reduceLT, Int.reduceLE, Int.reduceEq, Int.reduceNe, Int.cast_ofNat_Int, Int.reduceNeg, reduceCtorEq, ne_eq, ge_iff_le, gt_iff_lt, beq_iff_eq, beq_eq_false_iff_ne, bne_iff_ne, bne_eq_false_iff_eq, nrm, *] at hc) <;> try (exfalso; omega))
| ((with_reducible apply opsF.und); case hg => rfl)
| ((with_reducible first | apply retF.r | apply retF.nn); case hv => exact tRS))
            all_goals exact ⟨rfl, hE⟩
    | cons c f =>
      have hfe : (c :: f).isEmpty = false := rfl
      have hfn : ¬ (c :: f) = [] := by simp
      rw [hfe]
      generalize mbS (c :: f) = q2 at *
      generalize c :: f = f at *
      cases q2 with
      | false =>
        simp only [Bool.or_false, Bool.false_and]
        repeat' (first
| ((with_reducible apply opsF.op rfl); case hs => first | exact tHT | exact tHS)
| (with_reducible first | apply opsF.nil | apply seqF.nn | apply vcF.seq | apply vcF.region | apply vcF.skip | apply vcF.block | apply vcF.exit | apply vcF.ret | apply vcF.loop | apply seqF.e | apply seqF.r | apply blkF.nn | apply blkF.e | apply blkF.r | apply blkF.o rfl)
| ((with_reducible apply opsF.call); case hx => exact tAG)
| ((with_reducible apply opsF.want); (case hg => exact tEV); case hb => exact tNB)
| ((with_reducible apply opsF.skip); (case hg => exact tEV); case hb => exact tNB)
| (first | ((with_reducible apply opsF.case); case hg => exact tEV) | ((with_reducible apply vcF.cond); case hx => exact tEV)) <;> ((intro hc; try simp only [Int.reduceLT, Int.reduceLE, Int.reduceEq, Int.reduceNe, Int.cast_ofNat_Int, Int.reduceNeg, reduceCtorEq, ne_eq, ge_iff_le, gt_iff_lt, beq_iff_eq, beq_eq_false_iff_ne, bne_iff_ne, bne_eq_false_iff_eq, nrm, *] at hc) <;> try (exfalso; omega))
| ((with_reducible apply opsF.und); case hg => rfl)
| ((with_reducible first | apply retF.r | apply retF.nn); case hv => exact tRS)
| ((refine Call.use (hF _) ?_))
| ((refine Call.use (hB _) ?_)))
        all_goals exact ⟨rfl, hE⟩
      | true =>
        simp only [Bool.or_true, Bool.true_and]
        rcases Nat.lt_or_ge rc.length 1 with g1 | g1
        · rw [decide_eq_false (show ¬ 1 ≤ rc.length by omega)]
          simp only [Bool.and_false, Bool.false_and]
          repeat' (first
| ((with_reducible apply opsF.op rfl); case hs => first | exact tHT | exact tHS)
| (with_reducible first | apply opsF.nil | apply seqF.nn | apply vcF.seq | apply vcF.region | apply vcF.skip | apply vcF.block | apply vcF.exit | apply vcF.ret | apply vcF.loop | apply seqF.e | apply seqF.r | apply blkF.nn | apply blkF.e | apply blkF.r | apply blkF.o rfl)
| ((with_reducible apply opsF.call); case hx => exact tAG)
| ((with_reducible apply opsF.want); (case hg => exact tEV); case hb => exact tNB)
| ((with_reducible apply opsF.skip); (case hg => exact tEV); case hb => exact tNB)
| (first | ((with_reducible apply opsF.case); case hg => exact tEV) | ((with_reducible apply vcF.cond); case hx => exact tEV)) <;> ((intro hc; try simp only [Int.reduceLT, Int.reduceLE, Int.reduceEq, Int.reduceNe, Int.cast_ofNat_Int, Int.reduceNeg, reduceCtorEq, ne_eq, ge_iff_le, gt_iff_lt, beq_iff_eq, beq_eq_false_iff_ne, bne_iff_ne, bne_eq_false_iff_eq, nrm, *] at hc) <;> try (exfalso; omega))
| ((with_reducible apply opsF.und); case hg => rfl)
| ((with_reducible first | apply retF.r | apply retF.nn); case hv => exact tRS)
| ((refine Call.use (hF _) ?_))
| ((refine Call.use (hB _) ?_)))
          all_goals exact ⟨rfl, hE⟩
        rw [decide_eq_true g1]
        rcases Nat.lt_or_ge 20 rc.length with g2 | g2
        · rw [decide_eq_false (show ¬ rc.length ≤ 20 by omega)]
          simp only [Bool.and_false, Bool.false_and]
          repeat' (first
| ((with_reducible apply opsF.op rfl); case hs => first | exact tHT | exact tHS)
| (with_reducible first | apply opsF.nil | apply seqF.nn | apply vcF.seq | apply vcF.region | apply vcF.skip | apply vcF.block | apply vcF.exit | apply vcF.ret | apply vcF.loop | apply seqF.e | apply seqF.r | apply blkF.nn | apply blkF.e | apply blkF.r | apply blkF.o rfl)
| ((with_reducible apply opsF.call); case hx => exact tAG)
| ((with_reducible apply opsF.want); (case hg => exact tEV); case hb => exact tNB)
| ((with_reducible apply opsF.skip); (case hg => exact tEV); case hb => exact tNB)
| (first | ((with_reducible apply opsF.case); case hg => exact tEV) | ((with_reducible apply vcF.cond); case hx => exact tEV)) <;> ((intro hc; try simp only [Int.reduceLT, Int.reduceLE, Int.reduceEq, Int.reduceNe, Int.cast_ofNat_Int, Int.reduceNeg, reduceCtorEq, ne_eq, ge_iff_le, gt_iff_lt, beq_iff_eq, beq_eq_false_iff_ne, bne_iff_ne, bne_eq_false_iff_eq, nrm, *] at hc) <;> try (exfalso; omega))
| ((with_reducible apply opsF.und); case hg => rfl)
| ((with_reducible first | apply retF.r | apply retF.nn); case hv => exact tRS)
| ((refine Call.use (hF _) ?_))
| ((refine Call.use (hB _) ?_)))
          all_goals exact ⟨rfl, hE⟩
        rw [decide_eq_true g2]
        rcases Nat.lt_or_ge 50 mk.length with g3 | g3
        · rw [decide_eq_false (show ¬ mk.length ≤ 50 by omega)]
          simp only [Bool.and_false, Bool.false_and]
          repeat' (first
| ((with_reducible apply opsF.op rfl); case hs => first | exact tHT | exact tHS)
| (with_reducible first | apply opsF.nil | apply seqF.nn | apply vcF.seq | apply vcF.region | apply vcF.skip | apply vcF.block | apply vcF.exit | apply vcF.ret | apply vcF.loop | apply seqF.e | apply seqF.r | apply blkF.nn | apply blkF.e | apply blkF.r | apply blkF.o rfl)
| ((with_reducible apply opsF.call); case hx => exact tAG)
| ((with_reducible apply opsF.want); (case hg => exact tEV); case hb => exact tNB)
| ((with_reducible apply opsF.skip); (case hg => exact tEV); case hb => exact tNB)
| (first | ((with_reducible apply opsF.case); case hg => exact tEV) | ((with_reducible apply vcF.cond); case hx => exact tEV)) <;> ((intro hc; try simp only [Int.reduceLT, Int.reduceLE, Int.reduceEq, Int.reduceNe, Int.cast_ofNat_Int, Int.reduceNeg, reduceCtorEq, ne_eq, ge_iff_le, gt_iff_lt, beq_iff_eq, beq_eq_false_iff_ne, bne_iff_ne, bne_eq_false_iff_eq, nrm, *] at hc) <;> try (exfalso; omega))
| ((with_reducible apply opsF.und); case hg => rfl)
| ((with_reducible first | apply retF.r | apply retF.nn); case hv => exact tRS)
| ((refine Call.use (hF _) ?_))
| ((refine Call.use (hB _) ?_)))
          all_goals exact ⟨rfl, hE⟩
        rw [decide_eq_true g3]
        cases q5 with
        | false =>
          simp only [Bool.and_false, Bool.false_and]
          repeat' (first
| ((with_reducible apply opsF.op rfl); case hs => first | exact tHT | exact tHS)
| (with_reducible first | apply opsF.nil | apply seqF.nn | apply vcF.seq | apply vcF.region | apply vcF.skip | apply vcF.block | apply vcF.exit | apply vcF.ret | apply vcF.loop | apply seqF.e | apply seqF.r | apply blkF.nn | apply blkF.e | apply blkF.r | apply blkF.o rfl)
| ((with_reducible apply opsF.call); case hx => exact tAG)
| ((with_reducible apply opsF.want); (case hg => exact tEV); case hb => exact tNB)
| ((with_reducible apply opsF.skip); (case hg => exact tEV); case hb => exact tNB)
| (first | ((with_reducible apply opsF.case); case hg => exact tEV) | ((with_reducible apply vcF.cond); case hx => exact tEV)) <;> ((intro hc; try simp only [Int.reduceLT, Int.reduceLE, Int.reduceEq, Int.reduceNe, Int.cast_ofNat_Int, Int.reduceNeg, reduceCtorEq, ne_eq, ge_iff_le, gt_iff_lt, beq_iff_eq, beq_eq_false_iff_ne, bne_iff_ne, bne_eq_false_iff_eq, nrm, *] at hc) <;> try (exfalso; omega))
| ((with_reducible apply opsF.und); case hg => rfl)
| ((with_reducible first | apply retF.r | apply retF.nn); case hv => exact tRS)
| ((refine Call.use (hF _) ?_))
| ((refine Call.use (hB _) ?_)))
          all_goals exact ⟨rfl, hE⟩
        | true =>
          simp only [Bool.and_true, Bool.true_and]
          repeat' (first
| ((with_reducible apply opsF.op rfl); case hs => first | exact tHT | exact tHS)
| (with_reducible first | apply opsF.nil | apply seqF.nn | apply vcF.seq | apply vcF.region | apply vcF.skip | apply vcF.block | apply vcF.exit | apply vcF.ret | apply vcF.loop | apply seqF.e | apply seqF.r | apply blkF.nn | apply blkF.e | apply blkF.r | apply blkF.o rfl)
| ((with_reducible apply opsF.call); case hx => exact tAG)
| ((with_reducible apply opsF.want); (case hg => exact tEV); case hb => exact tNB)
| ((with_reducible apply opsF.skip); (case hg => exact tEV); case hb => exact tNB)
| (first | ((with_reducible apply opsF.case); case hg => exact tEV) | ((with_reducible apply vcF.cond); case hx => exact tEV)) <;> ((intro hc; try simp only [Int.reduceLT, Int.reduceLE, Int.reduceEq, Int.reduceNe, Int.cast_ofNat_Int, Int.reduceNeg, reduceCtorEq, ne_eq, ge_iff_le, gt_iff_lt, beq_iff_eq, beq_eq_false_iff_ne, bne_iff_ne, bne_eq_false_iff_eq, nrm, *] at hc) <;> try (exfalso; omega))
| ((with_reducible apply opsF.und); case hg => rfl)
| ((with_reducible first | apply retF.r | apply retF.nn); case hv => exact tRS)
| ((refine Call.use (hF _) ?_))
| ((refine Call.use (hB _) ?_)))
          refine LpF.ind rfl (fun i : Nat => rc.length - i) (fun i σ hh => Ext h hh ∧ hh.objs h.n = some (.cells [.v (.int .i64 n1), .v (.int .i64 n2), .v (.int .i64 n3), .v (.int .i64 n4), .v (.int .i64 n5), .v (.string (bs f)), .list 1 (srows rc) t1, .list 1 (irows mk) t2, .list 1 (srows bd) t3]) ∧ h.n < hh.n ∧ σ 1 = .ptr h.n 0 ∧ σ 5 = .v (.int .i64 (i : Nat)) ∧ i ≤ rc.length ∧ (rc.take i).all mbS = true) ?_ (i := 0) ⟨hE, hM, hn, h1, rfl, Nat.zero_le _, rfl⟩
          clear hE hM hn h1 h3 h4
          rintro i σ hh ⟨hE, hM, hn, h1, h5, hi, ha⟩
          rcases Nat.lt_or_ge i rc.length with hlt | hge
          · obtain ⟨x, hx⟩ : ∃ x, rc[i]? = some x := ⟨_, List.getElem?_eq_getElem hlt⟩
            have hRx := hR x (List.mem_of_getElem? hx)
            clear hR
            cases hb : mbS x with
            | false =>
              rw [all_bad hx hb]
              simp only [Bool.false_and]
              rw [hb] at hRx
              clear hb ha
              repeat' (first
| ((with_reducible apply opsF.op rfl); case hs => first | exact tHT | exact tHS)
| (with_reducible first | apply opsF.nil | apply seqF.nn | apply vcF.seq | apply vcF.region | apply vcF.skip | apply vcF.block | apply vcF.exit | apply vcF.ret | apply vcF.loop | apply seqF.e | apply seqF.r | apply blkF.nn | apply blkF.e | apply blkF.r | apply blkF.o rfl)
| ((with_reducible apply opsF.call); case hx => exact tAG)
| ((with_reducible apply opsF.want); (case hg => exact tEV); case hb => exact tNB)
| ((with_reducible apply opsF.skip); (case hg => exact tEV); case hb => exact tNB)
| (first | ((with_reducible apply opsF.case); case hg => exact tEV) | ((with_reducible apply vcF.cond); case hx => exact tEV)) <;> ((intro hc; try simp only [Int.reduceLT, Int.reduceLE, Int.reduceEq, Int.reduceNe, Int.cast_ofNat_Int, Int.reduceNeg, reduceCtorEq, ne_eq, ge_iff_le, gt_iff_lt, beq_iff_eq, beq_eq_false_iff_ne, bne_iff_ne, bne_eq_false_iff_eq, nrm, *] at hc) <;> try (exfalso; omega))
| ((with_reducible apply opsF.und); case hg => rfl)
| ((with_reducible first | apply retF.r | apply retF.nn); case hv => exact tRS)
| ((refine Call.use (hRx _) ?_)))
              all_goals exact ⟨rfl, hE⟩
            | true =>
              have hnx : (rc.take (i + 1)).all mbS = true := by rw [List.take_add_one, hx, List.all_append, ha]; simp [hb]
              rw [hb] at hRx
              clear hb ha
              repeat' (first
| ((with_reducible apply opsF.op rfl); case hs => first | exact tHT | exact tHS)
| (with_reducible first | apply opsF.nil | apply seqF.nn | apply vcF.seq | apply vcF.region | apply vcF.skip | apply vcF.block | apply vcF.exit | apply vcF.ret | apply vcF.loop | apply seqF.e | apply seqF.r | apply blkF.nn | apply blkF.e | apply blkF.r | apply blkF.o rfl)
| ((with_reducible apply opsF.call); case hx => exact tAG)
| ((with_reducible apply opsF.want); (case hg => exact tEV); case hb => exact tNB)
| ((with_reducible apply opsF.skip); (case hg => exact tEV); case hb => exact tNB)
| (first | ((with_reducible apply opsF.case); case hg => exact tEV) | ((with_reducible apply vcF.cond); case hx => exact tEV)) <;> ((intro hc; try simp only [Int.reduceLT, Int.reduceLE, Int.reduceEq, Int.reduceNe, Int.cast_ofNat_Int, Int.reduceNeg, reduceCtorEq, ne_eq, ge_iff_le, gt_iff_lt, beq_iff_eq, beq_eq_false_iff_ne, bne_iff_ne, bne_eq_false_iff_eq, nrm, *] at hc) <;> try (exfalso; omega))
| ((with_reducible apply opsF.und); case hg => rfl)
| ((with_reducible first | apply retF.r | apply retF.nn); case hv => exact tRS)
| ((refine Call.use (hRx _) ?_)))
              exact ⟨i + 1, by omega, hE, hM, hn, h1, rfl, by omega, hnx⟩
          · obtain rfl : i = rc.length := by omega
            rw [List.take_length] at ha
            rw [ha]
            simp only [Bool.true_and]
            clear ha
            repeat' (first
| ((with_reducible apply opsF.op rfl); case hs => first | exact tHT | exact tHS)
| (with_reducible first | apply opsF.nil | apply seqF.nn | apply vcF.seq | apply vcF.region | apply vcF.skip | apply vcF.block | apply vcF.exit | apply vcF.ret | apply vcF.loop | apply seqF.e | apply seqF.r | apply blkF.nn | apply blkF.e | apply blkF.r | apply blkF.o rfl)
| ((with_reducible apply opsF.call); case hx => exact tAG)
| ((with_reducible apply opsF.want); (case hg => exact tEV); case hb => exact tNB)
| ((with_reducible apply opsF.skip); (case hg => exact tEV); case hb => exact tNB)
| (first | ((with_reducible apply opsF.case); case hg => exact tEV) | ((with_reducible apply vcF.cond); case hx => exact tEV)) <;> ((intro hc; try simp only [Int.reduceLT, Int.reduceLE, Int.reduceEq, Int.reduceNe, Int.cast_ofNat_Int, Int.reduceNeg, reduceCtorEq, ne_eq, ge_iff_le, gt_iff_lt, beq_iff_eq, beq_eq_false_iff_ne, bne_iff_ne, bne_eq_false_iff_eq, nrm, *] at hc) <;> try (exfalso; omega))
| ((with_reducible apply opsF.und); case hg => rfl)
| ((with_reducible first | apply retF.r | apply retF.nn); case hv => exact tRS))
            refine LpF.ind rfl (fun i : Nat => mk.length - i) (fun i σ hh => Ext h hh ∧ hh.objs h.n = some (.cells [.v (.int .i64 n1), .v (.int .i64 n2), .v (.int .i64 n3), .v (.int .i64 n4), .v (.int .i64 n5), .v (.string (bs f)), .list 1 (srows rc) t1, .list 1 (irows mk) t2, .list 1 (srows bd) t3]) ∧ h.n < hh.n ∧ σ 1 = .ptr h.n 0 ∧ σ 6 = .v (.int .i64 (i : Nat)) ∧ i ≤ mk.length ∧ (mk.take i).all markS = true) ?_ (i := 0) ⟨hE, hM, hn, h1, rfl, Nat.zero_le _, rfl⟩
            clear hE hM hn h1 h5
            rintro i σ hh ⟨hE, hM, hn, h1, h6, hi, ha⟩
            rcases Nat.lt_or_ge i mk.length with hlt | hge
            · obtain ⟨x, hx⟩ : ∃ x, mk[i]? = some x := ⟨_, List.getElem?_eq_getElem hlt⟩
              cases hb : markS x with
              | false =>
                rw [all_bad hx hb]
                have hb2 : x < 0 ∨ 2 < x := by
                  simp only [markS, Bool.and_eq_false_iff, decide_eq_false_iff_not] at hb
                  omega
                clear hb ha
                rcases hb2 with hb2 | hb2
                · repeat' (first
| ((with_reducible apply opsF.op rfl); case hs => first | exact tHT | exact tHS)
| (with_reducible first | apply opsF.nil | apply seqF.nn | apply vcF.seq | apply vcF.region | apply vcF.skip | apply vcF.block | apply vcF.exit | apply vcF.ret | apply vcF.loop | apply seqF.e | apply seqF.r | apply blkF.nn | apply blkF.e | apply blkF.r | apply blkF.o rfl)
| ((with_reducible apply opsF.call); case hx => exact tAG)
| ((with_reducible apply opsF.want); (case hg => exact tEV); case hb => exact tNB)
| ((with_reducible apply opsF.skip); (case hg => exact tEV); case hb => exact tNB)
| (first | ((with_reducible apply opsF.case); case hg => exact tEV) | ((with_reducible apply vcF.cond); case hx => exact tEV)) <;> ((intro hc; try simp only [Int.reduceLT, Int.reduceLE, Int.reduceEq, Int.reduceNe, Int.cast_ofNat_Int, Int.reduceNeg, reduceCtorEq, ne_eq, ge_iff_le, gt_iff_lt, beq_iff_eq, beq_eq_false_iff_ne, bne_iff_ne, bne_eq_false_iff_eq, nrm, *] at hc) <;> try (exfalso; omega))
| ((with_reducible apply opsF.und); case hg => rfl)
| ((with_reducible first | apply retF.r | apply retF.nn); case hv => exact tRS))
                  all_goals exact ⟨rfl, hE⟩
                · repeat' (first
| ((with_reducible apply opsF.op rfl); case hs => first | exact tHT | exact tHS)
| (with_reducible first | apply opsF.nil | apply seqF.nn | apply vcF.seq | apply vcF.region | apply vcF.skip | apply vcF.block | apply vcF.exit | apply vcF.ret | apply vcF.loop | apply seqF.e | apply seqF.r | apply blkF.nn | apply blkF.e | apply blkF.r | apply blkF.o rfl)
| ((with_reducible apply opsF.call); case hx => exact tAG)
| ((with_reducible apply opsF.want); (case hg => exact tEV); case hb => exact tNB)
| ((with_reducible apply opsF.skip); (case hg => exact tEV); case hb => exact tNB)
| (first | ((with_reducible apply opsF.case); case hg => exact tEV) | ((with_reducible apply vcF.cond); case hx => exact tEV)) <;> ((intro hc; try simp only [Int.reduceLT, Int.reduceLE, Int.reduceEq, Int.reduceNe, Int.cast_ofNat_Int, Int.reduceNeg, reduceCtorEq, ne_eq, ge_iff_le, gt_iff_lt, beq_iff_eq, beq_eq_false_iff_ne, bne_iff_ne, bne_eq_false_iff_eq, nrm, *] at hc) <;> try (exfalso; omega))
| ((with_reducible apply opsF.und); case hg => rfl)
| ((with_reducible first | apply retF.r | apply retF.nn); case hv => exact tRS))
                  all_goals exact ⟨rfl, hE⟩
              | true =>
                have hnx : (mk.take (i + 1)).all markS = true := by rw [List.take_add_one, hx, List.all_append, ha]; simp [hb]
                simp only [markS, Bool.and_eq_true, decide_eq_true_eq] at hb
                obtain ⟨hb1, hb2⟩ := hb
                clear ha
                repeat' (first
| ((with_reducible apply opsF.op rfl); case hs => first | exact tHT | exact tHS)
| (with_reducible first | apply opsF.nil | apply seqF.nn | apply vcF.seq | apply vcF.region | apply vcF.skip | apply vcF.block | apply vcF.exit | apply vcF.ret | apply vcF.loop | apply seqF.e | apply seqF.r | apply blkF.nn | apply blkF.e | apply blkF.r | apply blkF.o rfl)
| ((with_reducible apply opsF.call); case hx => exact tAG)
| ((with_reducible apply opsF.want); (case hg => exact tEV); case hb => exact tNB)
| ((with_reducible apply opsF.skip); (case hg => exact tEV); case hb => exact tNB)
| (first | ((with_reducible apply opsF.case); case hg => exact tEV) | ((with_reducible apply vcF.cond); case hx => exact tEV)) <;> ((intro hc; try simp only [Int.reduceLT, Int.reduceLE, Int.reduceEq, Int.reduceNe, Int.cast_ofNat_Int, Int.reduceNeg, reduceCtorEq, ne_eq, ge_iff_le, gt_iff_lt, beq_iff_eq, beq_eq_false_iff_ne, bne_iff_ne, bne_eq_false_iff_eq, nrm, *] at hc) <;> try (exfalso; omega))
| ((with_reducible apply opsF.und); case hg => rfl)
| ((with_reducible first | apply retF.r | apply retF.nn); case hv => exact tRS))
                exact ⟨i + 1, by omega, hE, hM, hn, h1, rfl, by omega, hnx⟩
            · obtain rfl : i = mk.length := by omega
              rw [List.take_length] at ha
              rw [ha]
              clear ha
              repeat' (first
| ((with_reducible apply opsF.op rfl); case hs => first | exact tHT | exact tHS)
| (with_reducible first | apply opsF.nil | apply seqF.nn | apply vcF.seq | apply vcF.region | apply vcF.skip | apply vcF.block | apply vcF.exit | apply vcF.ret | apply vcF.loop | apply seqF.e | apply seqF.r | apply blkF.nn | apply blkF.e | apply blkF.r | apply blkF.o rfl)
| ((with_reducible apply opsF.call); case hx => exact tAG)
| ((with_reducible apply opsF.want); (case hg => exact tEV); case hb => exact tNB)
| ((with_reducible apply opsF.skip); (case hg => exact tEV); case hb => exact tNB)
| (first | ((with_reducible apply opsF.case); case hg => exact tEV) | ((with_reducible apply vcF.cond); case hx => exact tEV)) <;> ((intro hc; try simp only [Int.reduceLT, Int.reduceLE, Int.reduceEq, Int.reduceNe, Int.cast_ofNat_Int, Int.reduceNeg, reduceCtorEq, ne_eq, ge_iff_le, gt_iff_lt, beq_iff_eq, beq_eq_false_iff_ne, bne_iff_ne, bne_eq_false_iff_eq, nrm, *] at hc) <;> try (exfalso; omega))
| ((with_reducible apply opsF.und); case hg => rfl)
| ((with_reducible first | apply retF.r | apply retF.nn); case hv => exact tRS))
              all_goals exact ⟨rfl, hE⟩
end Go.Abs.F
