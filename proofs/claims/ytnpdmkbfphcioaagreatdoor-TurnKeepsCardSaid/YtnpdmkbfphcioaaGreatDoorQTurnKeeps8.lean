/- What the proof needs, part 8: Layer 11: the reader of texts. Layer 11: numbers and marks of texts; Layer 12: the reader of bytes; A program logic over abstract states, 28: what is known may be forgotten; Layer 12: lists of texts and of numbers; strings.Builder: what copyCheck, WriteString and String do to the model's world; A strings.Builder as an object: contracts of WriteString and String; Layer 11: Encode. Layer 11: the document's text; Layer 12: Encode. -/
import Derived.Shelf.Strings.Builder1
import Derived.Test.YtnpdmkbfphcioaaGreatDoorProg
import Derived.Test.YtnpdmkbfphcioaaGreatDoorQTurnKeeps7
/- Layer 11: the reader of texts. Layer 11: numbers and marks of texts. -/
namespace Go.Abs.F
open Go Go.Abs
set_option maxRecDepth 10000
set_option maxHeartbeats 20000000
set_option linter.unusedSimpArgs false
set_option linter.unusedVariables false
variable {w0 : World}
theorem set_twice (h : AH) (id : Nat) (a b : AObj) : (h.set id a).set id b = h.set id b := by
  have e : ∀ i o, (h.set id o).objs i = if i = id then some o else h.objs i := fun i o => rfl
  unfold AH.set
  congr 1
  funext i
  by_cases hi : i = id <;> simp [hi]
theorem preB_short {p s : L8} (h : ¬ p.length ≤ s.length) : preB p s = false := by
  refine decide_eq_false fun e => h ?_
  have := congrArg List.length e
  rw [List.length_take] at this
  omega
theorem hasPG (s p : L8) (h : AH) : Call P w0 i_stringslite_HasPrefix [.v (.string (bs s)), .v (.string (bs p))] h (fun v h' => v = .v (.bool (preB p s)) ∧ h' = h) := by
  refine Call.bodyF b_i_stringslite_HasPrefix rfl rfl ?_
  unfold c_i_stringslite_HasPrefix
  by_cases hl : p.length ≤ s.length
  · have hl2 : (p.length : Int) ≤ s.length := by omega
    by_cases hp : s.take p.length = p
    · have : preB p s = true := decide_eq_true hp
      rw [this]
      clear this
      repeat' (first
| ((with_reducible apply opsF.op rfl); case hs => first | exact tHT | exact tHS)
| (with_reducible first | apply opsF.nil | apply seqF.nn | apply vcF.seq | apply vcF.region | apply vcF.skip | apply vcF.ret | apply seqF.r)
| ((with_reducible apply opsF.call); case hx => exact tAG)
| ((with_reducible apply opsF.want); (case hg => exact tEV); case hb => exact tNB)
| ((with_reducible apply opsF.skip); (case hg => exact tEV); case hb => exact tNB)
| (first | ((with_reducible apply opsF.case); case hg => exact tEV) | ((with_reducible apply vcF.cond); case hx => exact tEV)) <;> ((intro hc; try simp only [Int.reduceLT, Int.reduceLE, Int.reduceEq, Int.reduceNe, Int.cast_ofNat_Int, Int.reduceNeg, reduceCtorEq, ne_eq, ge_iff_le, gt_iff_lt, beq_iff_eq, beq_eq_false_iff_ne, bne_iff_ne, bne_eq_false_iff_eq, nrm, *] at hc) <;> try (exfalso; omega))
| ((with_reducible apply opsF.und); case hg => rfl)
| ((with_reducible first | apply retF.r | apply retF.nn); case hv => exact tRS))
      all_goals first | exact ⟨rfl, rfl⟩ | exact ⟨by simp [hp], rfl⟩
    · have : preB p s = false := decide_eq_false hp
      rw [this]
      clear this
      repeat' (first
| ((with_reducible apply opsF.op rfl); case hs => first | exact tHT | exact tHS)
| (with_reducible first | apply opsF.nil | apply seqF.nn | apply vcF.seq | apply vcF.region | apply vcF.skip | apply vcF.ret | apply seqF.r)
| ((with_reducible apply opsF.call); case hx => exact tAG)
| ((with_reducible apply opsF.want); (case hg => exact tEV); case hb => exact tNB)
| ((with_reducible apply opsF.skip); (case hg => exact tEV); case hb => exact tNB)
| (first | ((with_reducible apply opsF.case); case hg => exact tEV) | ((with_reducible apply vcF.cond); case hx => exact tEV)) <;> ((intro hc; try simp only [Int.reduceLT, Int.reduceLE, Int.reduceEq, Int.reduceNe, Int.cast_ofNat_Int, Int.reduceNeg, reduceCtorEq, ne_eq, ge_iff_le, gt_iff_lt, beq_iff_eq, beq_eq_false_iff_ne, bne_iff_ne, bne_eq_false_iff_eq, nrm, *] at hc) <;> try (exfalso; omega))
| ((with_reducible apply opsF.und); case hg => rfl)
| ((with_reducible first | apply retF.r | apply retF.nn); case hv => exact tRS))
      all_goals first | exact ⟨rfl, rfl⟩ | exact ⟨by simp [hp], rfl⟩
  · have hl2 : ¬ (p.length : Int) ≤ s.length := by omega
    rw [preB_short hl]
    repeat' (first
| ((with_reducible apply opsF.op rfl); case hs => first | exact tHT | exact tHS)
| (with_reducible first | apply opsF.nil | apply seqF.nn | apply vcF.seq | apply vcF.region | apply vcF.skip | apply vcF.ret | apply seqF.r)
| ((with_reducible apply opsF.call); case hx => exact tAG)
| ((with_reducible apply opsF.want); (case hg => exact tEV); case hb => exact tNB)
| ((with_reducible apply opsF.skip); (case hg => exact tEV); case hb => exact tNB)
| (first | ((with_reducible apply opsF.case); case hg => exact tEV) | ((with_reducible apply vcF.cond); case hx => exact tEV)) <;> ((intro hc; try simp only [Int.reduceLT, Int.reduceLE, Int.reduceEq, Int.reduceNe, Int.cast_ofNat_Int, Int.reduceNeg, reduceCtorEq, ne_eq, ge_iff_le, gt_iff_lt, beq_iff_eq, beq_eq_false_iff_ne, bne_iff_ne, bne_eq_false_iff_eq, nrm, *] at hc) <;> try (exfalso; omega))
| ((with_reducible apply opsF.und); case hg => rfl)
| ((with_reducible first | apply retF.r | apply retF.nn); case hv => exact tRS))
    all_goals exact ⟨rfl, rfl⟩
theorem shasPG (s p : L8) (h : AH) : Call P w0 strings_HasPrefix [.v (.string (bs s)), .v (.string (bs p))] h (fun v h' => v = .v (.bool (preB p s)) ∧ h' = h) := by
  refine Call.bodyF b_strings_HasPrefix rfl rfl ?_
  unfold c_strings_HasPrefix
  repeat' (first
| ((with_reducible apply opsF.op rfl); case hs => first | exact tHT | exact tHS)
| (with_reducible first | apply opsF.nil | apply seqF.nn | apply vcF.seq | apply vcF.region | apply vcF.skip | apply vcF.ret | apply seqF.r)
| ((with_reducible apply opsF.call); case hx => exact tAG)
| ((with_reducible apply vcF.cond); case hx => exact tEV) <;> ((intro hc; try simp only [Int.reduceLT, Int.reduceLE, Int.reduceEq, Int.reduceNe, Int.cast_ofNat_Int, Int.reduceNeg, reduceCtorEq, ne_eq, ge_iff_le, gt_iff_lt, beq_iff_eq, beq_eq_false_iff_ne, bne_iff_ne, bne_eq_false_iff_eq, nrm, *] at hc) <;> try (exfalso; omega))
| ((with_reducible first | apply retF.r | apply retF.nn); case hv => exact tRS)
| ((refine Call.use (hasPG s p _) ?_)))
  all_goals exact ⟨rfl, rfl⟩
theorem lcutPG (s p : L8) (h : AH) (hl : s.length ≤ 9000000000) : Call P w0 i_stringslite_CutPrefix [.v (.string (bs s)), .v (.string (bs p))] h
    (fun v h' => v = .tup [.v (.string (bs (if preB p s then s.drop p.length else s))), .v (.bool (preB p s))] ∧ h' = h) := by
  refine Call.bodyF b_i_stringslite_CutPrefix rfl rfl ?_
  unfold c_i_stringslite_CutPrefix
  have hp := fun h => hasPG (w0 := w0) s p h
  have hlen : preB p s = true → p.length ≤ s.length := fun e => by
    apply Classical.byContradiction
    intro hn
    rw [preB_short hn] at e
    cases e
  cases hq : preB p s with
  | true =>
    have hl2 : (p.length : Int) ≤ s.length := by have := hlen hq; omega
    rw [hq] at hp
    clear hlen hq
    repeat' (first
| ((with_reducible apply opsF.op rfl); case hs => first | exact tHT | exact tHS)
| (with_reducible first | apply opsF.nil | apply seqF.nn | apply vcF.seq | apply vcF.region | apply vcF.skip | apply vcF.ret | apply seqF.r)
| ((with_reducible apply opsF.call); case hx => exact tAG)
| ((with_reducible apply vcF.cond); case hx => exact tEV) <;> ((intro hc; try simp only [Int.reduceLT, Int.reduceLE, Int.reduceEq, Int.reduceNe, Int.cast_ofNat_Int, Int.reduceNeg, reduceCtorEq, ne_eq, ge_iff_le, gt_iff_lt, beq_iff_eq, beq_eq_false_iff_ne, bne_iff_ne, bne_eq_false_iff_eq, nrm, *] at hc) <;> try (exfalso; omega))
| ((with_reducible first | apply retF.r | apply retF.nn); case hv => exact tRS)
| ((refine Call.use (hp _) ?_)))
    all_goals (refine ⟨?_, rfl⟩; simp [List.take_length])
  | false =>
    rw [hq] at hp
    clear hlen hq
    repeat' (first
| ((with_reducible apply opsF.op rfl); case hs => first | exact tHT | exact tHS)
| (with_reducible first | apply opsF.nil | apply seqF.nn | apply vcF.seq | apply vcF.region | apply vcF.skip | apply vcF.ret | apply seqF.r)
| ((with_reducible apply opsF.call); case hx => exact tAG)
| ((with_reducible apply vcF.cond); case hx => exact tEV) <;> ((intro hc; try simp only [Int.reduceLT, Int.reduceLE, Int.reduceEq, Int.reduceNe, Int.cast_ofNat_Int, Int.reduceNeg, reduceCtorEq, ne_eq, ge_iff_le, gt_iff_lt, beq_iff_eq, beq_eq_false_iff_ne, bne_iff_ne, bne_eq_false_iff_eq, nrm, *] at hc) <;> try (exfalso; omega))
| ((with_reducible first | apply retF.r | apply retF.nn); case hv => exact tRS)
| ((refine Call.use (hp _) ?_)))
    all_goals (refine ⟨?_, rfl⟩; simp)
theorem scutPG (s p : L8) (h : AH) (hl : s.length ≤ 9000000000) : Call P w0 strings_CutPrefix [.v (.string (bs s)), .v (.string (bs p))] h
    (fun v h' => v = .tup [.v (.string (bs (if preB p s then s.drop p.length else s))), .v (.bool (preB p s))] ∧ h' = h) := by
  refine Call.bodyF b_strings_CutPrefix rfl rfl ?_
  unfold c_strings_CutPrefix
  have hp := fun h => lcutPG (w0 := w0) s p h hl
  generalize (if preB p s then s.drop p.length else s) = x at *
  generalize preB p s = y at *
  repeat' (first
| ((with_reducible apply opsF.op rfl); case hs => first | exact tHT | exact tHS)
| (with_reducible first | apply opsF.nil | apply seqF.nn | apply vcF.seq | apply vcF.region | apply vcF.skip | apply vcF.ret | apply seqF.r)
| ((with_reducible apply opsF.call); case hx => exact tAG)
| ((with_reducible apply vcF.cond); case hx => exact tEV) <;> ((intro hc; try simp only [Int.reduceLT, Int.reduceLE, Int.reduceEq, Int.reduceNe, Int.cast_ofNat_Int, Int.reduceNeg, reduceCtorEq, ne_eq, ge_iff_le, gt_iff_lt, beq_iff_eq, beq_eq_false_iff_ne, bne_iff_ne, bne_eq_false_iff_eq, nrm, *] at hc) <;> try (exfalso; omega))
| ((with_reducible first | apply retF.r | apply retF.nn); case hv => exact tRS)
| ((refine Call.use (hp _) ?_)))
  all_goals exact ⟨rfl, rfl⟩
/-! the reader -/
def rdC (s : L8) (bad : Bool) : AObj := .cells [.v (.string (bs s)), .v (.bool bad)]
theorem rline_call (id : Nat) (s : L8) (bad : Bool) (h : AH) (ho : h.objs id = some (rdC s bad)) (hlt : id < h.n) (hl : s.length ≤ 9000000000) :
    Call P w0 env_reader_line [.ptr id 0] h (fun v h' => v = .v (.string (bs (cutB 10 s).1)) ∧ h' = h.set id (rdC (cutB 10 s).2.1 (bad || !(cutB 10 s).2.2))) := by
  have hc := fun h => cut_call (w0 := w0) s 10 h (by omega)
  unfold rdC at ho
  refine Call.bodyF b_env_reader_line rfl rfl ?_
  unfold c_env_reader_line
  generalize cutB 10 s = q at *
  obtain ⟨a, r, ok⟩ := q
  simp only at hc ⊢
  cases bad with
  | true =>
    repeat' (first
| ((with_reducible apply opsF.op rfl); case hs => first | exact tHT | exact tHS)
| (with_reducible first | apply opsF.nil | apply seqF.nn | apply vcF.seq | apply vcF.region | apply vcF.skip | apply vcF.ret | apply seqF.r)
| ((with_reducible apply opsF.call); case hx => exact tAG)
| ((with_reducible apply opsF.want); (case hg => exact tEV); case hb => exact tNB)
| ((with_reducible apply opsF.skip); (case hg => exact tEV); case hb => exact tNB)
| (first | ((with_reducible apply opsF.case); case hg => exact tEV) | ((with_reducible apply vcF.cond); case hx => exact tEV)) <;> ((intro hc; try simp only [Int.reduceLT, Int.reduceLE, Int.reduceEq, Int.reduceNe, Int.cast_ofNat_Int, Int.reduceNeg, reduceCtorEq, ne_eq, ge_iff_le, gt_iff_lt, beq_iff_eq, beq_eq_false_iff_ne, bne_iff_ne, bne_eq_false_iff_eq, nrm, *] at hc) <;> try (exfalso; omega))
| ((with_reducible apply opsF.und); case hg => rfl)
| ((with_reducible first | apply retF.r | apply retF.nn); case hv => exact tRS)
| ((refine Call.use (hc _) ?_)))
    all_goals exact ⟨rfl, by rw [set_twice]; rfl⟩
  | false =>
    cases ok with
    | true =>
      repeat' (first
| ((with_reducible apply opsF.op rfl); case hs => first | exact tHT | exact tHS)
| (with_reducible first | apply opsF.nil | apply seqF.nn | apply vcF.seq | apply vcF.region | apply vcF.skip | apply vcF.ret | apply seqF.r)
| ((with_reducible apply opsF.call); case hx => exact tAG)
| ((with_reducible apply opsF.want); (case hg => exact tEV); case hb => exact tNB)
| ((with_reducible apply opsF.skip); (case hg => exact tEV); case hb => exact tNB)
| (first | ((with_reducible apply opsF.case); case hg => exact tEV) | ((with_reducible apply vcF.cond); case hx => exact tEV)) <;> ((intro hc; try simp only [Int.reduceLT, Int.reduceLE, Int.reduceEq, Int.reduceNe, Int.cast_ofNat_Int, Int.reduceNeg, reduceCtorEq, ne_eq, ge_iff_le, gt_iff_lt, beq_iff_eq, beq_eq_false_iff_ne, bne_iff_ne, bne_eq_false_iff_eq, nrm, *] at hc) <;> try (exfalso; omega))
| ((with_reducible apply opsF.und); case hg => rfl)
| ((with_reducible first | apply retF.r | apply retF.nn); case hv => exact tRS)
| ((refine Call.use (hc _) ?_)))
      all_goals exact ⟨rfl, by rw [set_twice]; rfl⟩
    | false =>
      repeat' (first
| ((with_reducible apply opsF.op rfl); case hs => first | exact tHT | exact tHS)
| (with_reducible first | apply opsF.nil | apply seqF.nn | apply vcF.seq | apply vcF.region | apply vcF.skip | apply vcF.ret | apply seqF.r)
| ((with_reducible apply opsF.call); case hx => exact tAG)
| ((with_reducible apply opsF.want); (case hg => exact tEV); case hb => exact tNB)
| ((with_reducible apply opsF.skip); (case hg => exact tEV); case hb => exact tNB)
| (first | ((with_reducible apply opsF.case); case hg => exact tEV) | ((with_reducible apply vcF.cond); case hx => exact tEV)) <;> ((intro hc; try simp only [Int.reduceLT, Int.reduceLE, Int.reduceEq, Int.reduceNe, Int.cast_ofNat_Int, Int.reduceNeg, reduceCtorEq, ne_eq, ge_iff_le, gt_iff_lt, beq_iff_eq, beq_eq_false_iff_ne, bne_iff_ne, bne_eq_false_iff_eq, nrm, *] at hc) <;> try (exfalso; omega))
| ((with_reducible apply opsF.und); case hg => rfl)
| ((with_reducible first | apply retF.r | apply retF.nn); case hv => exact tRS)
| ((refine Call.use (hc _) ?_)))
      all_goals exact ⟨rfl, by rw [set_twice]; rfl⟩
def valR (k s : L8) : L8 := if preB (k ++ [32]) (cutB 10 s).1 then (cutB 10 s).1.drop (k ++ [32]).length else (cutB 10 s).1
theorem fldO_is (k s : L8) : (fldO k s).isSome = ((cutB 10 s).2.2 && preB (k ++ [32]) (cutB 10 s).1) := by
  unfold fldO
  cases (cutB 10 s).2.2 <;> cases preB (k ++ [32]) (cutB 10 s).1 <;> rfl
theorem fldO_val {k s : L8} {x : L8 × L8} (h : fldO k s = some x) : x = (valR k s, (cutB 10 s).2.1) := by
  unfold fldO at h
  split at h
  · rename_i hh
    injection h with h
    subst h
    rw [valR, hh.2, if_pos rfl]
    simp
  · cases h
theorem valR_len (k s : L8) : (valR k s).length ≤ s.length := by
  have := (cutB_le 10 s).1
  unfold valR
  split
  · rw [List.length_drop]; omega
  · exact this
theorem rvalue_call (id : Nat) (k s : L8) (bad : Bool) (h : AH) (ho : h.objs id = some (rdC s bad)) (hlt : id < h.n) (hl : s.length ≤ 9000000000) (hk : k.length ≤ 1000) :
    Call P w0 env_reader_value [.ptr id 0, .v (.string (bs k))] h (fun v h' => v = .v (.string (bs (valR k s))) ∧ h' = h.set id (rdC (cutB 10 s).2.1 (bad || !(fldO k s).isSome))) := by
  have hle := cutB_le 10 s
  have hln := rline_call (w0 := w0) id s bad h ho hlt hl
  have hcp := fun h => scutPG (w0 := w0) (cutB 10 s).1 (k ++ [32]) h (by omega)
  rw [fldO_is]
  unfold valR
  generalize (if preB (k ++ [32]) (cutB 10 s).1 then (cutB 10 s).1.drop (k ++ [32]).length else (cutB 10 s).1) = vv at *
  generalize preB (k ++ [32]) (cutB 10 s).1 = pp at *
  generalize cutB 10 s = q at *
  obtain ⟨a, r, ok⟩ := q
  simp only at hle hln hcp ⊢
  unfold rdC at *
  refine Call.bodyF b_env_reader_value rfl rfl ?_
  unfold c_env_reader_value
  cases bad with
  | true =>
    repeat' (first
| ((with_reducible apply opsF.op rfl); case hs => first | exact tHT | exact tHS)
| (with_reducible first | apply opsF.nil | apply seqF.nn | apply vcF.seq | apply vcF.region | apply vcF.skip | apply vcF.ret | apply seqF.r)
| ((with_reducible apply opsF.call); case hx => exact tAG)
| ((with_reducible apply opsF.want); (case hg => exact tEV); case hb => exact tNB)
| ((with_reducible apply opsF.skip); (case hg => exact tEV); case hb => exact tNB)
| (first | ((with_reducible apply opsF.case); case hg => exact tEV) | ((with_reducible apply vcF.cond); case hx => exact tEV)) <;> ((intro hc; try simp only [Int.reduceLT, Int.reduceLE, Int.reduceEq, Int.reduceNe, Int.cast_ofNat_Int, Int.reduceNeg, reduceCtorEq, ne_eq, ge_iff_le, gt_iff_lt, beq_iff_eq, beq_eq_false_iff_ne, bne_iff_ne, bne_eq_false_iff_eq, nrm, *] at hc) <;> try (exfalso; omega))
| ((with_reducible apply opsF.und); case hg => rfl)
| ((with_reducible first | apply retF.r | apply retF.nn); case hv => exact tRS)
| ((refine hln.mono fun v h2 hp => ?_); obtain ⟨rfl, rfl⟩ := hp)
| ((refine Call.use (hcp _) ?_)))
    all_goals exact ⟨rfl, by rw [set_twice]; rfl⟩
  | false =>
    cases ok with
    | false =>
      repeat' (first
| ((with_reducible apply opsF.op rfl); case hs => first | exact tHT | exact tHS)
| (with_reducible first | apply opsF.nil | apply seqF.nn | apply vcF.seq | apply vcF.region | apply vcF.skip | apply vcF.ret | apply seqF.r)
| ((with_reducible apply opsF.call); case hx => exact tAG)
| ((with_reducible apply opsF.want); (case hg => exact tEV); case hb => exact tNB)
| ((with_reducible apply opsF.skip); (case hg => exact tEV); case hb => exact tNB)
| (first | ((with_reducible apply opsF.case); case hg => exact tEV) | ((with_reducible apply vcF.cond); case hx => exact tEV)) <;> ((intro hc; try simp only [Int.reduceLT, Int.reduceLE, Int.reduceEq, Int.reduceNe, Int.cast_ofNat_Int, Int.reduceNeg, reduceCtorEq, ne_eq, ge_iff_le, gt_iff_lt, beq_iff_eq, beq_eq_false_iff_ne, bne_iff_ne, bne_eq_false_iff_eq, nrm, *] at hc) <;> try (exfalso; omega))
| ((with_reducible apply opsF.und); case hg => rfl)
| ((with_reducible first | apply retF.r | apply retF.nn); case hv => exact tRS)
| ((refine hln.mono fun v h2 hp => ?_); obtain ⟨rfl, rfl⟩ := hp)
| ((refine Call.use (hcp _) ?_)))
      all_goals exact ⟨rfl, by rw [set_twice]; rfl⟩
    | true =>
      cases pp with
      | true =>
        repeat' (first
| ((with_reducible apply opsF.op rfl); case hs => first | exact tHT | exact tHS)
| (with_reducible first | apply opsF.nil | apply seqF.nn | apply vcF.seq | apply vcF.region | apply vcF.skip | apply vcF.ret | apply seqF.r)
| ((with_reducible apply opsF.call); case hx => exact tAG)
| ((with_reducible apply opsF.want); (case hg => exact tEV); case hb => exact tNB)
| ((with_reducible apply opsF.skip); (case hg => exact tEV); case hb => exact tNB)
| (first | ((with_reducible apply opsF.case); case hg => exact tEV) | ((with_reducible apply vcF.cond); case hx => exact tEV)) <;> ((intro hc; try simp only [Int.reduceLT, Int.reduceLE, Int.reduceEq, Int.reduceNe, Int.cast_ofNat_Int, Int.reduceNeg, reduceCtorEq, ne_eq, ge_iff_le, gt_iff_lt, beq_iff_eq, beq_eq_false_iff_ne, bne_iff_ne, bne_eq_false_iff_eq, nrm, *] at hc) <;> try (exfalso; omega))
| ((with_reducible apply opsF.und); case hg => rfl)
| ((with_reducible first | apply retF.r | apply retF.nn); case hv => exact tRS)
| ((refine hln.mono fun v h2 hp => ?_); obtain ⟨rfl, rfl⟩ := hp)
| ((refine Call.use (hcp _) ?_)))
        all_goals exact ⟨rfl, by rw [set_twice]; rfl⟩
      | false =>
        repeat' (first
| ((with_reducible apply opsF.op rfl); case hs => first | exact tHT | exact tHS)
| (with_reducible first | apply opsF.nil | apply seqF.nn | apply vcF.seq | apply vcF.region | apply vcF.skip | apply vcF.ret | apply seqF.r)
| ((with_reducible apply opsF.call); case hx => exact tAG)
| ((with_reducible apply opsF.want); (case hg => exact tEV); case hb => exact tNB)
| ((with_reducible apply opsF.skip); (case hg => exact tEV); case hb => exact tNB)
| (first | ((with_reducible apply opsF.case); case hg => exact tEV) | ((with_reducible apply vcF.cond); case hx => exact tEV)) <;> ((intro hc; try simp only [Int.reduceLT, Int.reduceLE, Int.reduceEq, Int.reduceNe, Int.cast_ofNat_Int, Int.reduceNeg, reduceCtorEq, ne_eq, ge_iff_le, gt_iff_lt, beq_iff_eq, beq_eq_false_iff_ne, bne_iff_ne, bne_eq_false_iff_eq, nrm, *] at hc) <;> try (exfalso; omega))
| ((with_reducible apply opsF.und); case hg => rfl)
| ((with_reducible first | apply retF.r | apply retF.nn); case hv => exact tRS)
| ((refine hln.mono fun v h2 hp => ?_); obtain ⟨rfl, rfl⟩ := hp)
| ((refine Call.use (hcp _) ?_)))
        all_goals exact ⟨rfl, by rw [set_twice]; rfl⟩
end Go.Abs.F
namespace Go.Abs.F
open Go Go.Abs
set_option maxRecDepth 10000
set_option maxHeartbeats 20000000
set_option linter.unusedSimpArgs false
set_option linter.unusedVariables false
variable {w0 : World}
theorem rnum_call (hP : PowTab w0) (hE : ErrVars w0) (id : Nat) (k s : L8) (bad : Bool) (h : AH) (ho : h.objs id = some (rdC s bad)) (hlt : id < h.n) (hl : s.length ≤ 1000000000) (hk : k.length ≤ 1000) :
    Call P w0 env_reader_num [.ptr id 0, .v (.string (bs k))] h (fun v h' => ∃ n : Int, v = .v (.int .i64 n) ∧ h' = h.set id (rdC (cutB 10 s).2.1 (bad || !(numF k s).isSome)) ∧ ∀ x, numF k s = some x → x = (n, (cutB 10 s).2.1)) := by
  have hv := rvalue_call (w0 := w0) id k s bad h ho hlt (by omega) hk
  have hvl := valR_len k s
  have hA := fun h => atoiA_call (w0 := w0) hE (valR k s) h (by omega)
  have hno : (fldO k s).isSome = false → numF k s = none := fun e => by
    cases hf : fldO k s with
    | none => rw [numF, hf]; rfl
    | some x => rw [hf] at e; cases e
  have hyes : (fldO k s).isSome = true → numF k s = (numG (valR k s)).map fun n => (n, (cutB 10 s).2.1) := fun e => by
    cases hf : fldO k s with
    | none => rw [hf] at e; cases e
    | some x => rw [numF, hf, fldO_val hf]; rfl
  have hg : numG (valR k s) = match Lib.atoiAll (valR k s) with
    | .ok n => if decS n = valR k s then some n else none
    | _ => none := rfl
  generalize valR k s = vv at *
  generalize (fldO k s).isSome = fb at *
  generalize (cutB 10 s).2.1 = r at *
  generalize numF k s = nf at *
  unfold rdC at *
  refine Call.bodyF b_env_reader_num rfl rfl ?_
  unfold c_env_reader_num
  by_cases hex : ∃ n, Lib.atoiAll vv = .ok n
  · obtain ⟨n, hn⟩ := hex
    have hr := atoi_range hn
    have hA2 : ∀ h, Call P w0 strconv_Atoi [.v (.string (bs vv))] h fun v h' => v = .tup [.v (.int .i64 n), .v .nilIface] ∧ h' = h := fun h => (hA h).mono fun v h' hq => by
      obtain ⟨hq, rfl⟩ := hq
      rcases hq with ⟨m, hm, rfl⟩ | ⟨hm, _⟩
      · rw [hn] at hm; cases hm; exact ⟨rfl, rfl⟩
      · exact absurd hn (hm n)
    clear hA
    have hI := fun h => itoa_call (w0 := w0) hP n h hr.1 hr.2
    rw [hn] at hg
    simp only at hg
    cases bad with
    | true =>
      have hF : ∀ x, nf = some x → x = (n, r) := by
        intro x hx
        cases fb with
        | false => rw [hno rfl] at hx; cases hx
        | true =>
          rw [hyes rfl, hg] at hx
          split at hx
          · cases hx; rfl
          · cases hx
      clear hno hyes hg hn
      repeat' (first
| ((with_reducible apply opsF.op rfl); case hs => first | exact tHT | exact tHS)
| (with_reducible first | apply opsF.nil | apply seqF.nn | apply vcF.seq | apply vcF.region | apply vcF.skip | apply vcF.ret | apply seqF.r)
| ((with_reducible apply opsF.call); case hx => exact tAG)
| ((with_reducible apply opsF.want); (case hg => exact tEV); case hb => exact tNB)
| ((with_reducible apply opsF.skip); (case hg => exact tEV); case hb => exact tNB)
| (first | ((with_reducible apply opsF.case); case hg => exact tEV) | ((with_reducible apply vcF.cond); case hx => exact tEV)) <;> ((intro hc; try simp only [Int.reduceLT, Int.reduceLE, Int.reduceEq, Int.reduceNe, Int.cast_ofNat_Int, Int.reduceNeg, reduceCtorEq, ne_eq, ge_iff_le, gt_iff_lt, beq_iff_eq, beq_eq_false_iff_ne, bne_iff_ne, bne_eq_false_iff_eq, nrm, *] at hc) <;> try (exfalso; omega))
| ((with_reducible apply opsF.und); case hg => rfl)
| ((with_reducible first | apply retF.r | apply retF.nn); case hv => exact tRS)
| ((refine hv.mono fun v h2 hp => ?_); obtain ⟨rfl, rfl⟩ := hp)
| ((refine Call.use (hA2 _) ?_))
| ((refine Call.use (hI _) ?_)))
      all_goals exact ⟨n, rfl, by rw [set_twice]; rfl, hF⟩
    | false =>
      cases fb with
      | false =>
        have hnf := hno rfl
        clear hno hyes hg
        subst hnf
        repeat' (first
| ((with_reducible apply opsF.op rfl); case hs => first | exact tHT | exact tHS)
| (with_reducible first | apply opsF.nil | apply seqF.nn | apply vcF.seq | apply vcF.region | apply vcF.skip | apply vcF.ret | apply seqF.r)
| ((with_reducible apply opsF.call); case hx => exact tAG)
| ((with_reducible apply opsF.want); (case hg => exact tEV); case hb => exact tNB)
| ((with_reducible apply opsF.skip); (case hg => exact tEV); case hb => exact tNB)
| (first | ((with_reducible apply opsF.case); case hg => exact tEV) | ((with_reducible apply vcF.cond); case hx => exact tEV)) <;> ((intro hc; try simp only [Int.reduceLT, Int.reduceLE, Int.reduceEq, Int.reduceNe, Int.cast_ofNat_Int, Int.reduceNeg, reduceCtorEq, ne_eq, ge_iff_le, gt_iff_lt, beq_iff_eq, beq_eq_false_iff_ne, bne_iff_ne, bne_eq_false_iff_eq, nrm, *] at hc) <;> try (exfalso; omega))
| ((with_reducible apply opsF.und); case hg => rfl)
| ((with_reducible first | apply retF.r | apply retF.nn); case hv => exact tRS)
| ((refine hv.mono fun v h2 hp => ?_); obtain ⟨rfl, rfl⟩ := hp)
| ((refine Call.use (hA2 _) ?_))
| ((refine Call.use (hI _) ?_)))
        all_goals exact ⟨n, rfl, by rw [set_twice]; rfl, fun x hx => by cases hx⟩
      | true =>
        have hnf := hyes rfl
        clear hno hyes
        by_cases hd : decS n = vv
        · rw [if_pos hd] at hg
          rw [hg] at hnf
          simp only [Option.map_some] at hnf
          clear hg
          subst hnf
          clear hn
          repeat' (first
| ((with_reducible apply opsF.op rfl); case hs => first | exact tHT | exact tHS)
| (with_reducible first | apply opsF.nil | apply seqF.nn | apply vcF.seq | apply vcF.region | apply vcF.skip | apply vcF.ret | apply seqF.r)
| ((with_reducible apply opsF.call); case hx => exact tAG)
| ((with_reducible apply opsF.want); (case hg => exact tEV); case hb => exact tNB)
| ((with_reducible apply opsF.skip); (case hg => exact tEV); case hb => exact tNB)
| (first | ((with_reducible apply opsF.case); case hg => exact tEV) | ((with_reducible apply vcF.cond); case hx => exact tEV)) <;> ((intro hc; try simp only [Int.reduceLT, Int.reduceLE, Int.reduceEq, Int.reduceNe, Int.cast_ofNat_Int, Int.reduceNeg, reduceCtorEq, ne_eq, ge_iff_le, gt_iff_lt, beq_iff_eq, beq_eq_false_iff_ne, bne_iff_ne, bne_eq_false_iff_eq, nrm, *] at hc) <;> try (exfalso; omega))
| ((with_reducible apply opsF.und); case hg => rfl)
| ((with_reducible first | apply retF.r | apply retF.nn); case hv => exact tRS)
| ((refine hv.mono fun v h2 hp => ?_); obtain ⟨rfl, rfl⟩ := hp)
| ((refine Call.use (hA2 _) ?_))
| ((refine Call.use (hI _) ?_)))
          all_goals exact ⟨n, rfl, by rw [set_twice]; rfl, fun x hx => by cases hx; rfl⟩
        · rw [if_neg hd] at hg
          rw [hg] at hnf
          simp only [Option.map_none] at hnf
          clear hg
          subst hnf
          clear hn
          repeat' (first
| ((with_reducible apply opsF.op rfl); case hs => first | exact tHT | exact tHS)
| (with_reducible first | apply opsF.nil | apply seqF.nn | apply vcF.seq | apply vcF.region | apply vcF.skip | apply vcF.ret | apply seqF.r)
| ((with_reducible apply opsF.call); case hx => exact tAG)
| ((with_reducible apply opsF.want); (case hg => exact tEV); case hb => exact tNB)
| ((with_reducible apply opsF.skip); (case hg => exact tEV); case hb => exact tNB)
| (first | ((with_reducible apply opsF.case); case hg => exact tEV) | ((with_reducible apply vcF.cond); case hx => exact tEV)) <;> ((intro hc; try simp only [Int.reduceLT, Int.reduceLE, Int.reduceEq, Int.reduceNe, Int.cast_ofNat_Int, Int.reduceNeg, reduceCtorEq, ne_eq, ge_iff_le, gt_iff_lt, beq_iff_eq, beq_eq_false_iff_ne, bne_iff_ne, bne_eq_false_iff_eq, nrm, *] at hc) <;> try (exfalso; omega))
| ((with_reducible apply opsF.und); case hg => rfl)
| ((with_reducible first | apply retF.r | apply retF.nn); case hv => exact tRS)
| ((refine hv.mono fun v h2 hp => ?_); obtain ⟨rfl, rfl⟩ := hp)
| ((refine Call.use (hA2 _) ?_))
| ((refine Call.use (hI _) ?_)))
          all_goals exact ⟨n, rfl, by rw [set_twice]; rfl, fun x hx => by cases hx⟩
  · have hA2 : ∀ h, Call P w0 strconv_Atoi [.v (.string (bs vv))] h fun v h' => (∃ j te, v = .tup [.v (.int .i64 j), .iface te (.lptr [] 0)]) ∧ h' = h := fun h => (hA h).mono fun v h' hq => by
      obtain ⟨hq, rfl⟩ := hq
      rcases hq with ⟨m, hm, rfl⟩ | ⟨hm, hq⟩
      · exact absurd ⟨m, hm⟩ hex
      · exact ⟨hq, rfl⟩
    have hg2 : numG vv = none := by
      rw [hg]
      split
      · rename_i m hm; exact absurd ⟨m, hm⟩ hex
      · rfl
    have hnf : nf = none := by
      cases fb with
      | false => exact hno rfl
      | true => rw [hyes rfl, hg2]; rfl
    clear hno hyes hA hex hg hg2
    subst hnf
    cases bad with
    | true =>
      repeat' (first
| ((with_reducible apply opsF.op rfl); case hs => first | exact tHT | exact tHS)
| (with_reducible first | apply opsF.nil | apply seqF.nn | apply vcF.seq | apply vcF.region | apply vcF.skip | apply vcF.ret | apply seqF.r)
| ((with_reducible apply opsF.call); case hx => exact tAG)
| ((with_reducible apply opsF.want); (case hg => exact tEV); case hb => exact tNB)
| ((with_reducible apply opsF.skip); (case hg => exact tEV); case hb => exact tNB)
| (first | ((with_reducible apply opsF.case); case hg => exact tEV) | ((with_reducible apply vcF.cond); case hx => exact tEV)) <;> ((intro hc; try simp only [Int.reduceLT, Int.reduceLE, Int.reduceEq, Int.reduceNe, Int.cast_ofNat_Int, Int.reduceNeg, reduceCtorEq, ne_eq, ge_iff_le, gt_iff_lt, beq_iff_eq, beq_eq_false_iff_ne, bne_iff_ne, bne_eq_false_iff_eq, nrm, *] at hc) <;> try (exfalso; omega))
| ((with_reducible apply opsF.und); case hg => rfl)
| ((with_reducible first | apply retF.r | apply retF.nn); case hv => exact tRS)
| ((refine hv.mono fun v h2 hp => ?_); obtain ⟨rfl, rfl⟩ := hp)
| ((refine (hA2 _).mono fun v h2 hp => ?_); obtain ⟨⟨j, te, rfl⟩, rfl⟩ := hp))
      all_goals exact ⟨j, rfl, by rw [set_twice]; rfl, fun x hx => by cases hx⟩
    | false =>
      cases fb with
      | true =>
        repeat' (first
| ((with_reducible apply opsF.op rfl); case hs => first | exact tHT | exact tHS)
| (with_reducible first | apply opsF.nil | apply seqF.nn | apply vcF.seq | apply vcF.region | apply vcF.skip | apply vcF.ret | apply seqF.r)
| ((with_reducible apply opsF.call); case hx => exact tAG)
| ((with_reducible apply opsF.want); (case hg => exact tEV); case hb => exact tNB)
| ((with_reducible apply opsF.skip); (case hg => exact tEV); case hb => exact tNB)
| (first | ((with_reducible apply opsF.case); case hg => exact tEV) | ((with_reducible apply vcF.cond); case hx => exact tEV)) <;> ((intro hc; try simp only [Int.reduceLT, Int.reduceLE, Int.reduceEq, Int.reduceNe, Int.cast_ofNat_Int, Int.reduceNeg, reduceCtorEq, ne_eq, ge_iff_le, gt_iff_lt, beq_iff_eq, beq_eq_false_iff_ne, bne_iff_ne, bne_eq_false_iff_eq, nrm, *] at hc) <;> try (exfalso; omega))
| ((with_reducible apply opsF.und); case hg => rfl)
| ((with_reducible first | apply retF.r | apply retF.nn); case hv => exact tRS)
| ((refine hv.mono fun v h2 hp => ?_); obtain ⟨rfl, rfl⟩ := hp)
| ((refine (hA2 _).mono fun v h2 hp => ?_); obtain ⟨⟨j, te, rfl⟩, rfl⟩ := hp))
        all_goals exact ⟨j, rfl, by rw [set_twice]; rfl, fun x hx => by cases hx⟩
      | false =>
        repeat' (first
| ((with_reducible apply opsF.op rfl); case hs => first | exact tHT | exact tHS)
| (with_reducible first | apply opsF.nil | apply seqF.nn | apply vcF.seq | apply vcF.region | apply vcF.skip | apply vcF.ret | apply seqF.r)
| ((with_reducible apply opsF.call); case hx => exact tAG)
| ((with_reducible apply opsF.want); (case hg => exact tEV); case hb => exact tNB)
| ((with_reducible apply opsF.skip); (case hg => exact tEV); case hb => exact tNB)
| (first | ((with_reducible apply opsF.case); case hg => exact tEV) | ((with_reducible apply vcF.cond); case hx => exact tEV)) <;> ((intro hc; try simp only [Int.reduceLT, Int.reduceLE, Int.reduceEq, Int.reduceNe, Int.cast_ofNat_Int, Int.reduceNeg, reduceCtorEq, ne_eq, ge_iff_le, gt_iff_lt, beq_iff_eq, beq_eq_false_iff_ne, bne_iff_ne, bne_eq_false_iff_eq, nrm, *] at hc) <;> try (exfalso; omega))
| ((with_reducible apply opsF.und); case hg => rfl)
| ((with_reducible first | apply retF.r | apply retF.nn); case hv => exact tRS)
| ((refine hv.mono fun v h2 hp => ?_); obtain ⟨rfl, rfl⟩ := hp)
| ((refine (hA2 _).mono fun v h2 hp => ?_); obtain ⟨⟨j, te, rfl⟩, rfl⟩ := hp))
        all_goals exact ⟨j, rfl, by rw [set_twice]; rfl, fun x hx => by cases hx⟩
theorem mkO_take {v : L8} {i : Nat} {c : UInt8} (hc : v[i]? = some c) : mkO (v.take (i + 1)) = mkO (v.take i) ++ [(c.toNat : Int) - 48] := by
  rw [mkO, mkO, List.take_add_one, hc, List.map_append]
  rfl
theorem rmarks_call (id : Nat) (s : L8) (bad : Bool) (h : AH) (ho : h.objs id = some (rdC s bad)) (hlt : id < h.n) (hl : s.length ≤ 1000000000) :
    Call P w0 env_reader_marks [.ptr id 0] h (fun v h' => (∃ tk, v = .list 1 (irows (mkO (valR K8 s))) tk) ∧ Ext (h.set id (rdC (cutB 10 s).2.1 (bad || !(fldO K8 s).isSome))) h') := by
  have hv := rvalue_call (w0 := w0) id K8 s bad h ho hlt (by omega) (by decide)
  have hvl := valR_len K8 s
  generalize rdC (cutB 10 s).2.1 (bad || !(fldO K8 s).isSome) = nr at *
  generalize valR K8 s = vv at *
  unfold K8 at hv
  have yl := irows_len
  have bl := brows_len
  have bg := brows_get
  have m1 := brows_len vv
  refine Call.bodyF b_env_reader_marks rfl rfl ?_
  unfold c_env_reader_marks
  repeat' (first
| ((with_reducible apply opsF.op rfl); case hs => first | exact tHT | exact tHS)
| (with_reducible first | apply opsF.nil | apply seqF.nn | apply vcF.seq | apply vcF.region | apply vcF.skip | apply vcF.block | apply vcF.exit | apply vcF.ret | apply vcF.loop | apply seqF.e | apply seqF.r | apply blkF.nn | apply blkF.e | apply blkF.r | apply blkF.o rfl)
| ((with_reducible apply opsF.call); case hx => exact tAG)
| ((with_reducible apply vcF.cond); case hx => exact tEV) <;> ((intro hc; try simp only [Int.reduceLT, Int.reduceLE, Int.reduceEq, Int.reduceNe, Int.cast_ofNat_Int, Int.reduceNeg, reduceCtorEq, ne_eq, ge_iff_le, gt_iff_lt, beq_iff_eq, beq_eq_false_iff_ne, bne_iff_ne, bne_eq_false_iff_eq, nrm, *] at hc) <;> try (exfalso; omega))
| ((with_reducible first | apply retF.r | apply retF.nn); case hv => exact tRS)
| ((refine hv.mono fun v h2 hp => ?_); obtain ⟨rfl, rfl⟩ := hp))
  refine LpF.ind rfl (fun i : Nat => vv.length - i) (fun i σ hh => ∃ (tk : Tok), Ext (h.set id nr) hh ∧ σ 3 = .list 1 (irows (mkO (vv.take i))) tk ∧ TokU hh tk ∧ (∀ t, tk.owner = some t → h.nt ≤ t) ∧ σ 8 = .list 1 (brows vv) .no ∧ σ 9 = .v (.int .i64 (vv.length : Nat)) ∧ σ 10 = .v (.int .i64 (i : Nat)) ∧ i ≤ vv.length) ?_ (i := 0) ⟨.full, .refl _, rfl, trivial, (fun t ht => by cases ht), rfl, by first | rfl | (rw [← m1]; rfl), rfl, Nat.zero_le _⟩
  rintro i σ hh ⟨tk, hE, h3, hT, hF, h8, h9, h10, hi⟩
  rcases Nat.lt_or_ge i vv.length with hlt2 | hge
  · obtain ⟨x, hx⟩ : ∃ x, vv[i]? = some x := ⟨_, List.getElem?_eq_getElem hlt2⟩
    have hxl := x.toNat_lt
    have hfn := mkO_take hx
    have hfl : (mkO (vv.take i)).length = i := by simp [mkO]; omega
    obtain ⟨tk1, h2, hap, hT2, hT3, hT4, hT5, hT6⟩ := hT.app
    generalize mkO (vv.take i) = L at *
    repeat' (first
| ((with_reducible apply opsF.op rfl); case hs => first | exact tHT | exact tHS)
| (with_reducible first | apply opsF.nil | apply seqF.nn | apply vcF.seq | apply vcF.region | apply vcF.skip | apply vcF.block | apply vcF.exit | apply vcF.ret | apply vcF.loop | apply seqF.e | apply seqF.r | apply blkF.nn | apply blkF.e | apply blkF.r | apply blkF.o rfl)
| ((with_reducible apply opsF.call); case hx => exact tAG)
| ((with_reducible apply vcF.cond); case hx => exact tEV) <;> ((intro hc; try simp only [Int.reduceLT, Int.reduceLE, Int.reduceEq, Int.reduceNe, Int.cast_ofNat_Int, Int.reduceNeg, reduceCtorEq, ne_eq, ge_iff_le, gt_iff_lt, beq_iff_eq, beq_eq_false_iff_ne, bne_iff_ne, bne_eq_false_iff_eq, nrm, *] at hc) <;> try (exfalso; omega))
| ((with_reducible first | apply retF.r | apply retF.nn); case hv => exact tRS))
    refine ⟨i + 1, by omega, tk1, Ext.transX hE hT6 (fun _ x => x.elim) hF, ?_, hT2, ?_, h8, h9, rfl, by omega⟩
    · conv => lhs; whnf
      rw [hfn]
      simp [irows]
    · intro t ht
      rcases hT3 t ht with hz | hz
      · exact hF t hz
      · exact Nat.le_trans hE.nt hz
  · obtain rfl : i = vv.length := by omega
    rw [List.take_length] at h3
    repeat' (first
| ((with_reducible apply opsF.op rfl); case hs => first | exact tHT | exact tHS)
| (with_reducible first | apply opsF.nil | apply seqF.nn | apply vcF.seq | apply vcF.region | apply vcF.skip | apply vcF.block | apply vcF.exit | apply vcF.ret | apply vcF.loop | apply seqF.e | apply seqF.r | apply blkF.nn | apply blkF.e | apply blkF.r | apply blkF.o rfl)
| ((with_reducible apply opsF.call); case hx => exact tAG)
| ((with_reducible apply vcF.cond); case hx => exact tEV) <;> ((intro hc; try simp only [Int.reduceLT, Int.reduceLE, Int.reduceEq, Int.reduceNe, Int.cast_ofNat_Int, Int.reduceNeg, reduceCtorEq, ne_eq, ge_iff_le, gt_iff_lt, beq_iff_eq, beq_eq_false_iff_ne, bne_iff_ne, bne_eq_false_iff_eq, nrm, *] at hc) <;> try (exfalso; omega))
| ((with_reducible first | apply retF.r | apply retF.nn); case hv => exact tRS))
    exact ⟨⟨tk, rfl⟩, hE⟩
end Go.Abs.F
/- Layer 12: the reader of bytes. -/
namespace Go.Abs.F
open Go Go.Abs
set_option maxRecDepth 10000
set_option maxHeartbeats 20000000
set_option linter.unusedSimpArgs false
set_option linter.unusedVariables false
variable {w0 : World}
def rdB (l : L8) : AObj := .cells [.list 1 (brows l) .no, .v (.bool false)]
theorem is_slL3 {σ : Fm} {h : AH} {x : Opd} {hi mx : Opd} {p s : L8} {tok : Tok} (hx : evF σ x = .list 1 (brows (p ++ s)) tok) (hh : evF σ hi = .v (.int .i64 (p.length : Nat))) (hm : evF σ mx = .v (.int .i64 (p.length : Nat))) :
    istep (.slL 1 x none (some hi) (some mx)) (evF σ) h = some (.list 1 (brows p) .full, h) := by
  have bl := brows_len
  have h1 : bnd (evF σ) (some hi) (brows (p ++ s)).length (brows (p ++ s)).length = some p.length := bnd_some hh (by rw [bl, List.length_append]; omega) (by omega)
  have h2 : bnd (evF σ) (some mx) 0 (brows (p ++ s)).length = some p.length := bnd_some hm (by rw [bl, List.length_append]; omega) (by omega)
  have h3 : ((brows (p ++ s)).drop 0).take (p.length - 0) = brows p := by
    rw [brows_app, List.drop_zero, Nat.sub_zero, List.take_left' (bl p)]
  simp only [istep, hx, if_true, h1, h2, bnd_none, h3, Nat.le_refl]
theorem brows_drop2 (p s : L8) : (brows (p ++ s)).drop p.length = brows s := by
  rw [brows_app, List.drop_left' (brows_len p)]
theorem take_call (id : Nat) (p s : L8) (h : AH) (hlt : id < h.n) (ho : h.objs id = some (rdB (p ++ s))) (hp : (p ++ s).length ≤ 1000000000) : Call P w0 bin_reader_take [.ptr id 0, .v (.int .i64 (p.length : Nat))] h (fun v h' => v = .list 1 (brows p) .full ∧ h' = h.set id (rdB s)) := by
  have bl := brows_len
  have hpl : ¬ (p.length : Int) > ((p ++ s).length : Nat) := by rw [List.length_append]; omega
  rw [List.length_append] at hp
  have hla : (p ++ s).length = p.length + s.length := List.length_append
  unfold rdB at ho
  refine Call.bodyF b_bin_reader_take rfl rfl ?_
  unfold c_bin_reader_take
  repeat' (first
| ((with_reducible apply opsF.op rfl); case hs => first | exact tHT | exact tHS)
| (with_reducible first | apply opsF.nil | apply seqF.nn | apply vcF.seq | apply vcF.region | apply vcF.skip | apply vcF.ret | apply seqF.r)
| ((with_reducible apply opsF.call); case hx => exact tAG)
| ((with_reducible apply opsF.want); (case hg => exact tEV); case hb => exact tNB)
| ((with_reducible apply opsF.skip); (case hg => exact tEV); case hb => exact tNB)
| (first | ((with_reducible apply opsF.case); case hg => exact tEV) | ((with_reducible apply vcF.cond); case hx => exact tEV)) <;> ((intro hc; try simp only [Int.reduceLT, Int.reduceLE, Int.reduceEq, Int.reduceNe, Int.cast_ofNat_Int, Int.reduceNeg, reduceCtorEq, ne_eq, ge_iff_le, gt_iff_lt, beq_iff_eq, beq_eq_false_iff_ne, bne_iff_ne, bne_eq_false_iff_eq, nrm, *] at hc) <;> try (exfalso; omega))
| ((with_reducible apply opsF.und); case hg => rfl)
| ((with_reducible first | apply retF.r | apply retF.nn); case hv => exact tRS)
| ((with_reducible apply opsF.op rfl); (case hs => exact is_slL3 tEV tEV tEV))
| ((with_reducible apply opsF.op rfl); (case hs => exact is_slL (rows' := brows s) (tok' := .no) (a := p.length) (b := (p ++ s).length) tEV (by rw [bl]; exact bnd_none) (bnd_some tEV (by omega) (by omega)) (by rw [brows_drop2]; exact List.take_of_length_le (by rw [bl]; omega)) (by rw [bl, if_pos rfl]))))
  all_goals (refine ⟨by rw [Nat.sub_zero, brows_app, List.take_left' (bl p)], ?_⟩; rw [brows_drop2, List.take_of_length_le (by rw [bl]; omega)]; rfl)
theorem valW_lt (l : L8) : valW 0 l < 256 ^ l.length := by
  have : ∀ (l : L8) (a : Nat), valW a l < (a + 1) * 256 ^ l.length := by
    intro l
    induction l with
    | nil => intro a; simp [valW]
    | cons c l ih =>
      intro a
      have h1 := ih (a * 256 + c.toNat)
      have h2 : valW a (c :: l) = valW (a * 256 + c.toNat) l := rfl
      rw [h2, List.length_cons, Nat.pow_succ]
      have h3 := c.toNat_lt
      have h4 : (a * 256 + c.toNat + 1) * 256 ^ l.length ≤ ((a + 1) * 256) * 256 ^ l.length := Nat.mul_le_mul_right _ (by omega)
      have h5 : (a + 1) * 256 * 256 ^ l.length = (a + 1) * (256 ^ l.length * 256) := by rw [Nat.mul_assoc, Nat.mul_comm 256]
      omega
  have h := this l 0
  omega
theorem bnum_call (id k n : Nat) (s : L8) (h : AH) (hlt : id < h.n) (ho : h.objs id = some (rdB (numW k n ++ s))) (hk : k ≤ 6) (hn : n < 256 ^ k) (hs : s.length ≤ 900000000) : Call P w0 bin_reader_num [.ptr id 0, .v (.int .i64 (k : Nat))] h (fun v h' => v = .v (.int .i64 (n : Nat)) ∧ h' = h.set id (rdB s)) := by
  have bl := brows_len
  have bg := brows_get
  have hlen := numW_len k n
  have hT := take_call (w0 := w0) id (numW k n) s h hlt ho (by rw [List.length_append, hlen]; omega)
  rw [hlen] at hT
  have hv := valW_num k n 0 hn
  rw [Nat.zero_mul, Nat.zero_add] at hv
  generalize numW k n = L at *
  refine Call.bodyF b_bin_reader_num rfl rfl ?_
  unfold c_bin_reader_num
  repeat' (first
| ((with_reducible apply opsF.op rfl); case hs => first | exact tHT | exact tHS)
| (with_reducible first | apply opsF.nil | apply seqF.nn | apply vcF.seq | apply vcF.region | apply vcF.skip | apply vcF.block | apply vcF.exit | apply vcF.ret | apply vcF.loop | apply seqF.e | apply seqF.r | apply blkF.nn | apply blkF.e | apply blkF.r | apply blkF.o rfl)
| ((with_reducible apply opsF.call); case hx => exact tAG)
| ((with_reducible apply vcF.cond); case hx => exact tEV) <;> ((intro hc; try simp only [Int.reduceLT, Int.reduceLE, Int.reduceEq, Int.reduceNe, Int.cast_ofNat_Int, Int.reduceNeg, reduceCtorEq, ne_eq, ge_iff_le, gt_iff_lt, beq_iff_eq, beq_eq_false_iff_ne, bne_iff_ne, bne_eq_false_iff_eq, nrm, *] at hc) <;> try (exfalso; omega))
| ((with_reducible first | apply retF.r | apply retF.nn); case hv => exact tRS)
| ((refine hT.mono fun v h1 hp => ?_); obtain ⟨rfl, rfl⟩ := hp))
  refine LpF.ind rfl (fun j : Nat => k - j) (fun j σ hh => hh = h.set id (rdB s) ∧ σ 5 = .v (.int .i64 (valW 0 (L.take j) : Nat)) ∧ σ 10 = .list 1 (brows L) .full ∧ σ 11 = .v (.int .i64 (k : Nat)) ∧ σ 12 = .v (.int .i64 (j : Nat)) ∧ j ≤ k) ?_ (i := 0)
    ⟨rfl, rfl, rfl, by first | rfl | (rw [← hlen, ← bl]; rfl), rfl, Nat.zero_le _⟩
  rintro j σ hh ⟨rfl, g5, g10, g11, g12, hj⟩
  rcases Nat.lt_or_ge j k with hlt2 | hge
  · obtain ⟨c, hc⟩ : ∃ c, L[j]? = some c := ⟨_, List.getElem?_eq_getElem (by omega)⟩
    have hst : valW 0 (L.take (j + 1)) = valW 0 (L.take j) * 256 + c.toNat := by
      rw [List.take_add_one, hc, Option.toList_some, valW_app]
      rfl
    have hb : valW 0 (L.take j) < 1099511627776 := by
      have h1 := valW_lt (L.take j)
      have h2 : (256 : Nat) ^ (L.take j).length ≤ 256 ^ 5 := Nat.pow_le_pow_right (by omega) (by rw [List.length_take]; omega)
      have h3 : (256 : Nat) ^ 5 = 1099511627776 := by decide
      omega
    have hcl := c.toNat_lt
    generalize valW 0 (L.take j) = V at *
    have hsh : IntKind.i64.wrap ((V : Int) * 2 ^ (8 : Int).toNat) = (V : Int) * 256 := by
      have e : (2 : Int) ^ (8 : Int).toNat = 256 := by decide
      rw [e]
      simp [IntKind.wrap, IntKind.bits, IntKind.signed]; omega
    have hor : bits .or .i64 ((V : Int) * 256) ((c.toNat : Nat) : Int) = ((V * 256 + c.toNat : Nat) : Int) := by
      rw [i64_or8 (by omega) (by omega) (by omega) (by omega) (by omega)]
      push_cast
      rfl
    have h8 : (0 : Int) ≤ 8 ∧ (8 : Int) ≤ (IntKind.i64.bits : Int) := by decide
    have hcv : IntKind.i64.wrap ((c.toNat : Nat) : Int) = ((c.toNat : Nat) : Int) := by
      simp [IntKind.wrap, IntKind.bits, IntKind.signed]; omega
    repeat' (first
| ((with_reducible apply opsF.op rfl); case hs => first | exact tHT | exact tHS)
| (with_reducible first | apply opsF.nil | apply seqF.nn | apply vcF.seq | apply vcF.region | apply vcF.skip | apply vcF.block | apply vcF.exit | apply vcF.ret | apply vcF.loop | apply seqF.e | apply seqF.r | apply blkF.nn | apply blkF.e | apply blkF.r | apply blkF.o rfl)
| ((with_reducible apply opsF.call); case hx => exact tAG)
| ((with_reducible apply vcF.cond); case hx => exact tEV) <;> ((intro hc; try simp only [Int.reduceLT, Int.reduceLE, Int.reduceEq, Int.reduceNe, Int.cast_ofNat_Int, Int.reduceNeg, reduceCtorEq, ne_eq, ge_iff_le, gt_iff_lt, beq_iff_eq, beq_eq_false_iff_ne, bne_iff_ne, bne_eq_false_iff_eq, nrm, *] at hc) <;> try (exfalso; omega))
| ((with_reducible first | apply retF.r | apply retF.nn); case hv => exact tRS)
| ((with_reducible apply opsF.op rfl); (case hs => exact is_shl tEV tEV h8 hsh))
| ((with_reducible apply opsF.op rfl); (case hs => exact is_convI tEV hcv))
| ((with_reducible apply opsF.op rfl); (case hs => exact is_or tEV tEV hor)))
    refine ⟨j + 1, by omega, rfl, ?_, g10, g11, rfl, by omega⟩
    rw [hst]
    show AV.v (.int .i64 (bits .or .i64 ((V : Int) * 2 ^ 8) ((c.toNat : Nat) : Int))) = _
    rw [show (V : Int) * 2 ^ 8 = (V : Int) * 256 from rfl, hor]
  · obtain rfl : j = k := by omega
    rw [List.take_of_length_le (by omega), hv] at g5
    repeat' (first
| ((with_reducible apply opsF.op rfl); case hs => first | exact tHT | exact tHS)
| (with_reducible first | apply opsF.nil | apply seqF.nn | apply vcF.seq | apply vcF.region | apply vcF.skip | apply vcF.block | apply vcF.exit | apply vcF.ret | apply vcF.loop | apply seqF.e | apply seqF.r | apply blkF.nn | apply blkF.e | apply blkF.r | apply blkF.o rfl)
| ((with_reducible apply opsF.call); case hx => exact tAG)
| ((with_reducible apply vcF.cond); case hx => exact tEV) <;> ((intro hc; try simp only [Int.reduceLT, Int.reduceLE, Int.reduceEq, Int.reduceNe, Int.cast_ofNat_Int, Int.reduceNeg, reduceCtorEq, ne_eq, ge_iff_le, gt_iff_lt, beq_iff_eq, beq_eq_false_iff_ne, bne_iff_ne, bne_eq_false_iff_eq, nrm, *] at hc) <;> try (exfalso; omega))
| ((with_reducible first | apply retF.r | apply retF.nn); case hv => exact tRS))
    all_goals exact ⟨rfl, rfl⟩
theorem bnum_lit (c : Int) (k : Nat) (hc : c = (k : Int)) (id n : Nat) (s : L8) (h : AH) (hlt : id < h.n) (ho : h.objs id = some (rdB (numW k n ++ s))) (hk : k ≤ 6) (hn : n < 256 ^ k) (hs : s.length ≤ 900000000) : Call P w0 bin_reader_num [.ptr id 0, .v (.int .i64 c)] h (fun v h' => v = .v (.int .i64 (n : Nat)) ∧ h' = h.set id (rdB s)) := by
  rw [hc]
  exact bnum_call id k n s h hlt ho hk hn hs
theorem btext_call (id : Nat) (t s : L8) (h : AH) (hlt : id < h.n) (ho : h.objs id = some (rdB (textB t ++ s))) (ht : t.length < 65536) (hs : s.length ≤ 800000000) : Call P w0 bin_reader_text [.ptr id 0] h (fun v h' => v = .v (.string (bs t)) ∧ h' = h.set id (rdB s)) := by
  have bl := brows_len
  have ho2 : h.objs id = some (rdB (numW 2 t.length ++ (t ++ s))) := by rw [ho]; simp [textB]
  have hN := bnum_lit (w0 := w0) 2 2 rfl id t.length (t ++ s) h hlt ho2 (by omega) (by omega) (by rw [List.length_append]; omega)
  have hT := take_call (w0 := w0) id t s (h.set id (rdB (t ++ s))) (by rw [set_n]; exact hlt) (by rw [set_at, if_pos rfl]) (by rw [List.length_append]; omega)
  rw [set_twice] at hT
  refine Call.bodyF b_bin_reader_text rfl rfl ?_
  unfold c_bin_reader_text
  repeat' (first
| ((with_reducible apply opsF.op rfl); case hs => first | exact tHT | exact tHS)
| (with_reducible first | apply opsF.nil | apply seqF.nn | apply vcF.seq | apply vcF.region | apply vcF.skip | apply vcF.ret | apply seqF.r)
| ((with_reducible apply opsF.call); case hx => exact tAG)
| ((with_reducible apply vcF.cond); case hx => exact tEV) <;> ((intro hc; try simp only [Int.reduceLT, Int.reduceLE, Int.reduceEq, Int.reduceNe, Int.cast_ofNat_Int, Int.reduceNeg, reduceCtorEq, ne_eq, ge_iff_le, gt_iff_lt, beq_iff_eq, beq_eq_false_iff_ne, bne_iff_ne, bne_eq_false_iff_eq, nrm, *] at hc) <;> try (exfalso; omega))
| ((with_reducible first | apply retF.r | apply retF.nn); case hv => exact tRS)
| ((refine hN.mono fun v h1 hp => ?_); obtain ⟨rfl, rfl⟩ := hp)
| ((refine hT.mono fun v h1 hp => ?_); obtain ⟨rfl, rfl⟩ := hp))
  all_goals exact ⟨rfl, rfl⟩
end Go.Abs.F
/- A program logic over abstract states, 28: what is known may be forgotten. -/
namespace Go.Abs
open Go Go.RowKit
set_option linter.unusedVariables false
set_option linter.unusedSimpArgs false
/-- Whatever the first stands for the second stands for. -/
def AV.le (a b : AV) : Prop := ∀ (Γ : Con) (x : Value), RV Γ a x → RV Γ b x
theorem AV.le.refl (a : AV) : a.le a := fun _ _ h => h
theorem AV.le.trans {a b c : AV} (h : a.le b) (k : b.le c) : a.le c := fun Γ x hx => k Γ x (h Γ x hx)
/-- Cells, one by one. -/
structure CLe (as bs : List AV) : Prop where
  len : as.length = bs.length
  at_ : ∀ (i : Nat) (h : i < as.length) (h' : i < bs.length), (as[i]).le bs[i]
theorem CLe.nil : CLe [] [] := ⟨rfl, fun i h => by simp at h⟩
theorem CLe.cons {a b : AV} {as bs : List AV} (h : a.le b) (k : CLe as bs) : CLe (a :: as) (b :: bs) := ⟨by simp [k.len], fun i hi hi' => by
  cases i with
  | zero => exact h
  | succ i => exact k.at_ i (by simpa using hi) (by simpa using hi')⟩
theorem CLe.refl (as : List AV) : CLe as as := ⟨rfl, fun _ _ _ => .refl _⟩
theorem CLe.one {a b : AV} (h : a.le b) : CLe [a] [b] := .cons h .nil
theorem AV.le.list {sz : Nat} {rows rows' : List (List AV)} {tok : Tok} (hl : rows.length = rows'.length) (h : ∀ (i : Nat) (hi : i < rows.length) (hi' : i < rows'.length), CLe rows[i] rows'[i]) : (AV.list sz rows tok).le (.list sz rows' tok) := by
  intro Γ x hx
  cases hx with
  | nilf =>
    have : rows' = [] := List.eq_nil_of_length_eq_zero (by simpa using hl.symm)
    subst this; exact .nilf
  | niln =>
    have : rows' = [] := List.eq_nil_of_length_eq_zero (by simpa using hl.symm)
    subst this; exact .niln
  | list hc hsz hF h1 hr ht =>
    rw [hl]
    refine .list (by omega) (fun i hi => by rw [← (h i (by omega) hi).len]; exact hsz i _) (fun i hi => hF i (by omega)) (fun i hi => h1 i (by omega)) (fun i hi j hj => ?_) (by rw [← hl]; exact ht)
    have := (h i (by omega) hi).len
    exact (h i (by omega) hi).at_ j (by omega) hj _ _ (hr i (by omega) j (by omega))
theorem AV.le.noTok {sz : Nat} {rows : List (List AV)} {tok : Tok} : (AV.list sz rows tok).le (.list sz rows .no) := by
  intro Γ x hx
  cases hx with
  | nilf => exact .niln
  | niln => exact .niln
  | list hc hsz hF h1 hr ht => exact .list hc hsz hF h1 hr trivial
theorem AV.le.agg {as bs : List AV} (h : CLe as bs) : (AV.agg as).le (.agg bs) := by
  intro Γ x hx
  cases hx with
  | agg hs h1 hr => exact .agg (by rw [hs, h.len]) h1 fun i hi hi' => h.at_ i (by rw [h.len]; exact hi) hi _ _ (hr i (by rw [h.len]; exact hi) hi')
theorem AV.le.tup {as bs : List AV} (h : CLe as bs) : (AV.tup as).le (.tup bs) := by
  intro Γ x hx
  cases hx with
  | tup hs hr => exact .tup (by rw [hs, h.len]) fun i hi hi' => h.at_ i (by rw [h.len]; exact hi) hi _ _ (hr i (by rw [h.len]; exact hi) hi')
/-- An abstract heap of which less is known. -/
def AH.le (h h' : AH) : Prop := ∀ (w0 : World) (Γ : Con) (w : World), WR w0 Γ h w → WR w0 Γ h' w
theorem AH.le.refl (h : AH) : h.le h := fun _ _ _ H => H
theorem AH.le.trans {a b c : AH} (h : a.le b) (k : b.le c) : a.le c := fun w0 Γ w H => k w0 Γ w (h w0 Γ w H)
theorem AH.le.drop (h : AH) (id : Nat) : h.le (h.drop id) := by
  intro w0 Γ w H
  have hd : ∀ {i o}, (h.drop id).objs i = some o → h.objs i = some o := by
    intro i o hi
    simp only [AH.drop] at hi
    split at hi
    · cases hi
    · exact hi
  have hs : ∀ {i}, ((h.drop id).objs i).isSome → (h.objs i).isSome := fun hi => by
    obtain ⟨o, ho⟩ := Option.isSome_iff_exists.1 hi
    rw [hd ho]; rfl
  refine ⟨H.below, H.fcell, fun hi => H.obj (hd hi), fun hi hj => H.inj (hs hi) (hs hj), H.rlt, fun hT => ?_, H.tinj, H.tnew⟩
  obtain ⟨h1, h2, h3⟩ := H.tok hT
  exact ⟨h1, h2, fun i hi => h3 i (hs hi)⟩
theorem AH.le.cells {h : AH} {id : Nat} {cs cs' : List AV} (ho : h.objs id = some (.cells cs)) (hc : CLe cs cs') : h.le (h.set id (.cells cs')) := by
  intro w0 Γ w H
  have hs : ∀ {i}, ((h.set id (.cells cs')).objs i).isSome → (h.objs i).isSome := by
    intro i hi
    simp only [AH.set] at hi
    split at hi
    · rename_i e; rw [e, ho]; rfl
    · exact hi
  refine ⟨H.below, H.fcell, fun {i o} hi => ?_, fun hi hj => H.inj (hs hi) (hs hj), H.rlt, fun hT => ?_, H.tinj, H.tnew⟩
  · simp only [AH.set] at hi
    split at hi
    · rename_i e
      injection hi with hi
      subst hi; subst e
      obtain ⟨b, h1, h2, ⟨vs, el, fr, h3, h4, h5⟩, h6⟩ := H.obj ho
      exact ⟨b, h1, h2, ⟨vs, el, fr, h3, by rw [← hc.len]; exact h4, fun k hk hk' => ⟨hc.at_ k (by rw [hc.len]; exact hk) hk _ _ (h5 k (by rw [hc.len]; exact hk) hk').1, (h5 k (by rw [hc.len]; exact hk) hk').2⟩⟩, h6⟩
    · exact H.obj hi
  · obtain ⟨h1, h2, h3⟩ := H.tok hT
    exact ⟨h1, h2, fun i hi => h3 i (hs hi)⟩
/-- A contract of which less is told. -/
theorem Call.weak {P : Program} {w0 : World} {f : FuncId} {args : List AV} {h : AH} {Q Q' : AV → AH → Prop} (hc : Call P w0 f args h Q) (hq : ∀ v h', Q v h' → ∃ v2 h2, v.le v2 ∧ h'.le h2 ∧ Q' v2 h2) : Call P w0 f args h Q' :=
  ⟨hc.1, fun Γ w vs H hv => (hc.2 Γ w vs H hv).mono fun e w' ⟨x, Γ', v, h', h1, h2, h3, h4, h5⟩ => by
    obtain ⟨v2, h2', hv2, hh2, hk⟩ := hq v h' h5
    exact ⟨x, Γ', v2, h2', h1, h2, hv2 _ _ h3, hh2 _ _ _ h4, hk⟩⟩
/-- A contract used where more is known. -/
theorem Call.args {P : Program} {w0 : World} {f : FuncId} {args args' : List AV} {h : AH} {Q : AV → AH → Prop} (hc : Call P w0 f args' h Q) (ha : CLe args args') : Call P w0 f args h Q :=
  ⟨hc.1, fun Γ w vs H hv => hc.2 Γ w vs H ⟨by rw [← ha.len]; exact hv.len, fun i hi hi' => ha.at_ i (by rw [ha.len]; exact hi) hi _ _ (hv.at_ i (by rw [ha.len]; exact hi) hi')⟩⟩
end Go.Abs
/- Layer 12: lists of texts and of numbers. -/
namespace Go.Abs.F
open Go Go.Abs
set_option maxRecDepth 10000
set_option maxHeartbeats 20000000
set_option linter.unusedSimpArgs false
set_option linter.unusedVariables false
variable {w0 : World}
theorem ExtX.transT {I T : Nat → Prop} {a b c : AH} (e : ExtX I (fun _ => False) a b) (k : ExtX (fun _ => False) T b c) (ht : ∀ t, T t → a.nt ≤ t) : ExtX I (fun _ => False) a c :=
  ⟨Nat.le_trans e.n k.n, Nat.le_trans e.nt k.nt, fun i hl hn => (k.objs i (Nat.lt_of_lt_of_le hl e.n) (fun x => x)).trans (e.objs i hl hn), fun t hl hn => (k.ver t (Nat.lt_of_lt_of_le hl e.nt) fun x => by have := ht t x; omega).trans (e.ver t hl hn)⟩
theorem b1_call (id : Nat) (k : Nat) (s : L8) (h : AH) (id2 : Nat) (hlt : id < h.n) (ho : h.objs id = some (rdB (numW 1 k ++ s))) (hk : k ≤ 2) (hs : s.length ≤ 800000000) (ho2 : h.objs id2 = some (.cells [.ptr id 0])) : Call P w0 bin_Decode_1 [.ptr id2 0] h (fun v h' => v = .v (.int .i64 (k : Nat)) ∧ h' = h.set id (rdB s)) := by
  have hN := bnum_lit (w0 := w0) 1 1 rfl id k s h hlt ho (by omega) (by omega) (by omega)
  refine Call.bodyF b_bin_Decode_1 rfl rfl ?_
  unfold c_bin_Decode_1
  repeat' (first
| ((with_reducible apply opsF.op rfl); case hs => first | exact tHT | exact tHS)
| (with_reducible first | apply opsF.nil | apply seqF.nn | apply vcF.seq | apply vcF.region | apply vcF.skip | apply vcF.ret | apply seqF.r)
| ((with_reducible apply opsF.call); case hx => exact tAG)
| ((with_reducible apply vcF.cond); case hx => exact tEV) <;> ((intro hc; try simp only [Int.reduceLT, Int.reduceLE, Int.reduceEq, Int.reduceNe, Int.cast_ofNat_Int, Int.reduceNeg, reduceCtorEq, ne_eq, ge_iff_le, gt_iff_lt, beq_iff_eq, beq_eq_false_iff_ne, bne_iff_ne, bne_eq_false_iff_eq, nrm, *] at hc) <;> try (exfalso; omega))
| ((with_reducible first | apply retF.r | apply retF.nn); case hv => exact tRS)
| ((refine hN.mono fun v h1 hp => ?_); obtain ⟨rfl, rfl⟩ := hp))
  all_goals exact ⟨rfl, rfl⟩
theorem textsB_app (l m : List L8) : textsB (l ++ m) = textsB l ++ textsB m := by
  induction l with
  | nil => rfl
  | cons x l ih => simp only [List.cons_append, textsB, ih, List.append_assoc]
theorem textsB_drop2 {l : List L8} {i : Nat} {x : L8} (hx : l[i]? = some x) : textsB (l.drop i) = textB x ++ textsB (l.drop (i + 1)) := by rw [drop_step hx, textsB]
def marksN : List Nat → L8
  | [] => []
  | k :: l => numW 1 k ++ marksN l
theorem marksN_app (l m : List Nat) : marksN (l ++ m) = marksN l ++ marksN m := by
  induction l with
  | nil => rfl
  | cons x l ih => simp only [List.cons_append, marksN, ih, List.append_assoc]
def nrows (l : List Nat) : List (List AV) := l.map fun n => [.v (.int .i64 (n : Nat))]
theorem nrows_len (l : List Nat) : (nrows l).length = l.length := by simp [nrows]
theorem nrows_app (l m : List Nat) : nrows (l ++ m) = nrows l ++ nrows m := by simp [nrows]
theorem blstr_call (id : Nat) (size : Nat) (c : Int) (hc : c = (size : Int)) (l : List L8) (s : L8) (h : AH) (hlt : id < h.n) (ho : h.objs id = some (rdB (numW size l.length ++ (textsB l ++ s)))) (hz : size ≤ 6) (hl : l.length ≤ 100000) (hll : l.length < 256 ^ size) (hx2 : ∀ t ∈ l, t.length < 65536) (hs : (textsB l ++ s).length ≤ 700000000) :
    Call P w0 bin_list_string [.ptr id 0, .v (.int .i64 c), .func (.func bin_reader_text) [.ptr id 0] []] h (fun v h' => (∃ tk, v = .list 1 (srows l) tk) ∧ ExtX (fun i => i = id) (fun _ => False) h h' ∧ h'.objs id = some (rdB s)) := by
  have rl := srows_len
  have hN := bnum_lit (w0 := w0) c size hc id l.length (textsB l ++ s) h hlt ho hz hll (by omega)
  clear hc
  refine Call.bodyF b_bin_list_string rfl rfl ?_
  unfold c_bin_list_string
  repeat' (first
| ((with_reducible apply opsF.op rfl); case hs => first | exact tHT | exact tHS)
| (with_reducible first | apply opsF.nil | apply seqF.nn | apply vcF.seq | apply vcF.region | apply vcF.skip | apply vcF.block | apply vcF.exit | apply vcF.ret | apply vcF.loop | apply seqF.e | apply seqF.r | apply blkF.nn | apply blkF.e | apply blkF.r | apply blkF.o rfl)
| ((with_reducible apply opsF.call); case hx => exact tAG)
| ((with_reducible apply opsF.want); (case hg => exact tEV); case hb => exact tNB)
| ((with_reducible apply opsF.skip); (case hg => exact tEV); case hb => exact tNB)
| (first | ((with_reducible apply opsF.case); case hg => exact tEV) | ((with_reducible apply vcF.cond); case hx => exact tEV)) <;> ((intro hc; try simp only [Int.reduceLT, Int.reduceLE, Int.reduceEq, Int.reduceNe, Int.cast_ofNat_Int, Int.reduceNeg, reduceCtorEq, ne_eq, ge_iff_le, gt_iff_lt, beq_iff_eq, beq_eq_false_iff_ne, bne_iff_ne, bne_eq_false_iff_eq, nrm, *] at hc) <;> try (exfalso; omega))
| ((with_reducible apply opsF.und); case hg => rfl)
| ((with_reducible apply opsF.callv); (case hf => exact tEV); case hx => exact tCV)
| ((with_reducible first | apply retF.r | apply retF.nn); case hv => exact tRS)
| ((refine hN.mono fun v h1 hp => ?_); obtain ⟨rfl, rfl⟩ := hp))
  clear hN
  refine LpF.ind rfl (fun i : Nat => l.length - i) (fun i σ hh => ∃ (tk : Tok), ExtX (fun i => i = id) (fun _ => False) h hh ∧ hh.objs id = some (rdB (textsB (l.drop i) ++ s)) ∧ σ 0 = .ptr id 0 ∧ σ 2 = .func (.func bin_reader_text) [.ptr id 0] [] ∧ σ 7 = .list 1 (srows (l.take i)) tk ∧ TokU hh tk ∧ (∀ t, tk.owner = some t → h.nt ≤ t) ∧ σ 8 = .v (.int .i64 ((l.length - i : Nat) : Int)) ∧ i ≤ l.length) ?_ (i := 0)
    ⟨.full, ExtX.set (I := fun i => i = id) (i := id) (ExtX.of (.refl h)) (.inl rfl) _, by rw [set_at, if_pos rfl]; rfl, rfl, rfl, rfl, trivial, (fun t ht => by cases ht), rfl, Nat.zero_le _⟩
  rintro i σ hh ⟨tk, hE, hO, g0, g2, g7, hT, hF, g8, hi⟩
  have hlt2 : id < hh.n := Nat.lt_of_lt_of_le hlt hE.n
  rcases Nat.lt_or_ge i l.length with hlt3 | hge
  · obtain ⟨x, hx⟩ : ∃ x, l[i]? = some x := ⟨_, List.getElem?_eq_getElem hlt3⟩
    have hxm := List.mem_of_getElem? hx
    have hxl := hx2 x hxm
    have hO1 : hh.objs id = some (rdB (textB x ++ (textsB (l.drop (i + 1)) ++ s))) := by rw [hO, textsB_drop2 hx]; simp
    have hd : (textsB (l.drop (i + 1)) ++ s).length ≤ 700000000 := by
      have e := congrArg List.length (textsB_drop2 hx)
      have e2 : textsB l = textsB (l.take i) ++ textsB (l.drop i) := by
        conv => lhs; rw [← List.take_append_drop i l]
        exact textsB_app _ _
      have e3 := congrArg List.length e2
      simp only [List.length_append] at e e3 hs ⊢
      omega
    have hC := btext_call (w0 := w0) id x (textsB (l.drop (i + 1)) ++ s) hh hlt2 hO1 hxl (by omega)
    have hfl : (l.take i).length = i := by rw [List.length_take]; omega
    have htk : l.take (i + 1) = l.take i ++ [x] := by rw [List.take_add_one, hx]; rfl
    obtain ⟨k, hk⟩ : ∃ k, l.length - i = k + 1 := ⟨l.length - i - 1, by omega⟩
    have hk2 : l.length - (i + 1) = k := by omega
    rw [hk] at g8
    obtain ⟨tk1, h2, hap, hT2, hT3, hT4, hT5, hT6⟩ := (hT.set (i := id) (o := rdB (textsB (l.drop (i + 1)) ++ s))).app
    have hO2 : h2.objs id = some (rdB (textsB (l.drop (i + 1)) ++ s)) := by rw [hT4, set_at, if_pos rfl]
    have hE2 := ExtX.transT (hE.set (i := id) (.inl rfl) (rdB (textsB (l.drop (i + 1)) ++ s))) hT6 hF
    generalize hR : textsB (l.drop (i + 1)) ++ s = R at *
    generalize l.take i = L at *
    rw [rdB] at hO
    clear hk hi
    repeat' (first
| ((with_reducible apply opsF.op rfl); case hs => first | exact tHT | exact tHS)
| (with_reducible first | apply opsF.nil | apply seqF.nn | apply vcF.seq | apply vcF.region | apply vcF.skip | apply vcF.block | apply vcF.exit | apply vcF.ret | apply vcF.loop | apply seqF.e | apply seqF.r | apply blkF.nn | apply blkF.e | apply blkF.r | apply blkF.o rfl)
| ((with_reducible apply opsF.call); case hx => exact tAG)
| ((with_reducible apply opsF.want); (case hg => exact tEV); case hb => exact tNB)
| ((with_reducible apply opsF.skip); (case hg => exact tEV); case hb => exact tNB)
| (first | ((with_reducible apply opsF.case); case hg => exact tEV) | ((with_reducible apply vcF.cond); case hx => exact tEV)) <;> ((intro hc; try simp only [Int.reduceLT, Int.reduceLE, Int.reduceEq, Int.reduceNe, Int.cast_ofNat_Int, Int.reduceNeg, reduceCtorEq, ne_eq, ge_iff_le, gt_iff_lt, beq_iff_eq, beq_eq_false_iff_ne, bne_iff_ne, bne_eq_false_iff_eq, nrm, *] at hc) <;> try (exfalso; omega))
| ((with_reducible apply opsF.und); case hg => rfl)
| ((with_reducible apply opsF.callv); (case hf => exact tEV); case hx => exact tCV)
| ((with_reducible first | apply retF.r | apply retF.nn); case hv => exact tRS)
| ((refine hC.mono fun v h1 hp => ?_); obtain ⟨rfl, rfl⟩ := hp))
    refine ⟨i + 1, by omega, tk1, hE2, (by rw [hR]; exact hO2), g0, g2, ?_, hT2, ?_, ?_, by omega⟩
    · conv => lhs; whnf
      rw [htk, srows_app]
      rfl
    · intro t ht
      rcases hT3 t ht with hz | hz
      · exact hF t hz
      · exact Nat.le_trans hE.nt hz
    · rw [hk2]
      show AV.v (.int .i64 _) = AV.v (.int .i64 ((k : Nat) : Int))
      congr 2
      omega
  · obtain rfl : i = l.length := by omega
    rw [List.take_length] at g7
    rw [List.drop_length] at hO
    rw [Nat.sub_self] at g8
    have hO2 : hh.objs id = some (rdB s) := hO
    rw [rdB] at hO
    repeat' (first
| ((with_reducible apply opsF.op rfl); case hs => first | exact tHT | exact tHS)
| (with_reducible first | apply opsF.nil | apply seqF.nn | apply vcF.seq | apply vcF.region | apply vcF.skip | apply vcF.block | apply vcF.exit | apply vcF.ret | apply vcF.loop | apply seqF.e | apply seqF.r | apply blkF.nn | apply blkF.e | apply blkF.r | apply blkF.o rfl)
| ((with_reducible apply opsF.call); case hx => exact tAG)
| ((with_reducible apply opsF.want); (case hg => exact tEV); case hb => exact tNB)
| ((with_reducible apply opsF.skip); (case hg => exact tEV); case hb => exact tNB)
| (first | ((with_reducible apply opsF.case); case hg => exact tEV) | ((with_reducible apply vcF.cond); case hx => exact tEV)) <;> ((intro hc; try simp only [Int.reduceLT, Int.reduceLE, Int.reduceEq, Int.reduceNe, Int.cast_ofNat_Int, Int.reduceNeg, reduceCtorEq, ne_eq, ge_iff_le, gt_iff_lt, beq_iff_eq, beq_eq_false_iff_ne, bne_iff_ne, bne_eq_false_iff_eq, nrm, *] at hc) <;> try (exfalso; omega))
| ((with_reducible apply opsF.und); case hg => rfl)
| ((with_reducible apply opsF.callv); (case hf => exact tEV); case hx => exact tCV)
| ((with_reducible first | apply retF.r | apply retF.nn); case hv => exact tRS))
    exact ⟨⟨tk, rfl⟩, hE, hO2⟩
theorem blint_call (id : Nat) (size : Nat) (c : Int) (hc : c = (size : Int)) (l : List Nat) (s : L8) (h : AH) (id2 : Nat) (hl2 : id2 < h.n) (hne : ¬ id2 = id) (hob : h.objs id2 = some (.cells [.ptr id 0])) (hlt : id < h.n) (ho : h.objs id = some (rdB (numW size l.length ++ (marksN l ++ s)))) (hz : size ≤ 6) (hl : l.length ≤ 100000) (hll : l.length < 256 ^ size) (hx2 : ∀ t ∈ l, t ≤ 2) (hs : (marksN l ++ s).length ≤ 700000000) :
    Call P w0 bin_list_int [.ptr id 0, .v (.int .i64 c), (.func (.func bin_Decode_1) [] [.ptr id2 0])] h (fun v h' => (∃ tk, v = .list 1 (nrows l) tk) ∧ ExtX (fun i => i = id) (fun _ => False) h h' ∧ h'.objs id = some (rdB s)) := by
  have rl := nrows_len
  have hN := bnum_lit (w0 := w0) c size hc id l.length (marksN l ++ s) h hlt ho hz hll (by omega)
  clear hc
  refine Call.bodyF b_bin_list_int rfl rfl ?_
  unfold c_bin_list_int
  repeat' (first
| ((with_reducible apply opsF.op rfl); case hs => first | exact tHT | exact tHS)
| (with_reducible first | apply opsF.nil | apply seqF.nn | apply vcF.seq | apply vcF.region | apply vcF.skip | apply vcF.block | apply vcF.exit | apply vcF.ret | apply vcF.loop | apply seqF.e | apply seqF.r | apply blkF.nn | apply blkF.e | apply blkF.r | apply blkF.o rfl)
| ((with_reducible apply opsF.call); case hx => exact tAG)
| ((with_reducible apply opsF.want); (case hg => exact tEV); case hb => exact tNB)
| ((with_reducible apply opsF.skip); (case hg => exact tEV); case hb => exact tNB)
| (first | ((with_reducible apply opsF.case); case hg => exact tEV) | ((with_reducible apply vcF.cond); case hx => exact tEV)) <;> ((intro hc; try simp only [Int.reduceLT, Int.reduceLE, Int.reduceEq, Int.reduceNe, Int.cast_ofNat_Int, Int.reduceNeg, reduceCtorEq, ne_eq, ge_iff_le, gt_iff_lt, beq_iff_eq, beq_eq_false_iff_ne, bne_iff_ne, bne_eq_false_iff_eq, nrm, *] at hc) <;> try (exfalso; omega))
| ((with_reducible apply opsF.und); case hg => rfl)
| ((with_reducible apply opsF.callv); (case hf => exact tEV); case hx => exact tCV)
| ((with_reducible first | apply retF.r | apply retF.nn); case hv => exact tRS)
| ((refine hN.mono fun v h1 hp => ?_); obtain ⟨rfl, rfl⟩ := hp))
  clear hN
  refine LpF.ind rfl (fun i : Nat => l.length - i) (fun i σ hh => ∃ (tk : Tok), ExtX (fun i => i = id) (fun _ => False) h hh ∧ hh.objs id = some (rdB (marksN (l.drop i) ++ s)) ∧ σ 0 = .ptr id 0 ∧ σ 2 = (.func (.func bin_Decode_1) [] [.ptr id2 0]) ∧ σ 7 = .list 1 (nrows (l.take i)) tk ∧ TokU hh tk ∧ (∀ t, tk.owner = some t → h.nt ≤ t) ∧ σ 8 = .v (.int .i64 ((l.length - i : Nat) : Int)) ∧ i ≤ l.length) ?_ (i := 0)
    ⟨.full, ExtX.set (I := fun i => i = id) (i := id) (ExtX.of (.refl h)) (.inl rfl) _, by rw [set_at, if_pos rfl]; rfl, rfl, rfl, rfl, trivial, (fun t ht => by cases ht), rfl, Nat.zero_le _⟩
  rintro i σ hh ⟨tk, hE, hO, g0, g2, g7, hT, hF, g8, hi⟩
  have hlt2 : id < hh.n := Nat.lt_of_lt_of_le hlt hE.n
  rcases Nat.lt_or_ge i l.length with hlt3 | hge
  · obtain ⟨x, hx⟩ : ∃ x, l[i]? = some x := ⟨_, List.getElem?_eq_getElem hlt3⟩
    have hxm := List.mem_of_getElem? hx
    have hxl := hx2 x hxm
    have hO1 : hh.objs id = some (rdB (numW 1 x ++ (marksN (l.drop (i + 1)) ++ s))) := by rw [hO, drop_step hx]; simp [marksN]
    have hd : (marksN (l.drop (i + 1)) ++ s).length ≤ 700000000 := by
      have e : (marksN (l.drop i)) = numW 1 x ++ marksN (l.drop (i + 1)) := by rw [drop_step hx]; rfl
      have e1 := congrArg List.length e
      have e2 : marksN l = marksN (l.take i) ++ marksN (l.drop i) := by
        conv => lhs; rw [← List.take_append_drop i l]
        exact marksN_app _ _
      have e3 := congrArg List.length e2
      simp only [List.length_append] at e1 e3 hs ⊢
      omega
    have ho2 : hh.objs id2 = some (.cells [.ptr id 0]) := (hE.objs id2 hl2 hne).trans hob
    have hC := b1_call (w0 := w0) id x (marksN (l.drop (i + 1)) ++ s) hh id2 hlt2 hO1 hxl (by omega) ho2
    have hfl : (l.take i).length = i := by rw [List.length_take]; omega
    have htk : l.take (i + 1) = l.take i ++ [x] := by rw [List.take_add_one, hx]; rfl
    obtain ⟨k, hk⟩ : ∃ k, l.length - i = k + 1 := ⟨l.length - i - 1, by omega⟩
    have hk2 : l.length - (i + 1) = k := by omega
    rw [hk] at g8
    obtain ⟨tk1, h2, hap, hT2, hT3, hT4, hT5, hT6⟩ := (hT.set (i := id) (o := rdB (marksN (l.drop (i + 1)) ++ s))).app
    have hO2 : h2.objs id = some (rdB (marksN (l.drop (i + 1)) ++ s)) := by rw [hT4, set_at, if_pos rfl]
    have hE2 := ExtX.transT (hE.set (i := id) (.inl rfl) (rdB (marksN (l.drop (i + 1)) ++ s))) hT6 hF
    generalize hR : marksN (l.drop (i + 1)) ++ s = R at *
    generalize l.take i = L at *
    rw [rdB] at hO
    clear hk hi
    repeat' (first
| ((with_reducible apply opsF.op rfl); case hs => first | exact tHT | exact tHS)
| (with_reducible first | apply opsF.nil | apply seqF.nn | apply vcF.seq | apply vcF.region | apply vcF.skip | apply vcF.block | apply vcF.exit | apply vcF.ret | apply vcF.loop | apply seqF.e | apply seqF.r | apply blkF.nn | apply blkF.e | apply blkF.r | apply blkF.o rfl)
| ((with_reducible apply opsF.call); case hx => exact tAG)
| ((with_reducible apply opsF.want); (case hg => exact tEV); case hb => exact tNB)
| ((with_reducible apply opsF.skip); (case hg => exact tEV); case hb => exact tNB)
| (first | ((with_reducible apply opsF.case); case hg => exact tEV) | ((with_reducible apply vcF.cond); case hx => exact tEV)) <;> ((intro hc; try simp only [Int.reduceLT, Int.reduceLE, Int.reduceEq, Int.reduceNe, Int.cast_ofNat_Int, Int.reduceNeg, reduceCtorEq, ne_eq, ge_iff_le, gt_iff_lt, beq_iff_eq, beq_eq_false_iff_ne, bne_iff_ne, bne_eq_false_iff_eq, nrm, *] at hc) <;> try (exfalso; omega))
| ((with_reducible apply opsF.und); case hg => rfl)
| ((with_reducible apply opsF.callv); (case hf => exact tEV); case hx => exact tCV)
| ((with_reducible first | apply retF.r | apply retF.nn); case hv => exact tRS)
| ((refine hC.mono fun v h1 hp => ?_); obtain ⟨rfl, rfl⟩ := hp))
    refine ⟨i + 1, by omega, tk1, hE2, (by rw [hR]; exact hO2), g0, g2, ?_, hT2, ?_, ?_, by omega⟩
    · conv => lhs; whnf
      rw [htk, nrows_app]
      rfl
    · intro t ht
      rcases hT3 t ht with hz | hz
      · exact hF t hz
      · exact Nat.le_trans hE.nt hz
    · rw [hk2]
      show AV.v (.int .i64 _) = AV.v (.int .i64 ((k : Nat) : Int))
      congr 2
      omega
  · obtain rfl : i = l.length := by omega
    rw [List.take_length] at g7
    rw [List.drop_length] at hO
    rw [Nat.sub_self] at g8
    have hO2 : hh.objs id = some (rdB s) := hO
    rw [rdB] at hO
    repeat' (first
| ((with_reducible apply opsF.op rfl); case hs => first | exact tHT | exact tHS)
| (with_reducible first | apply opsF.nil | apply seqF.nn | apply vcF.seq | apply vcF.region | apply vcF.skip | apply vcF.block | apply vcF.exit | apply vcF.ret | apply vcF.loop | apply seqF.e | apply seqF.r | apply blkF.nn | apply blkF.e | apply blkF.r | apply blkF.o rfl)
| ((with_reducible apply opsF.call); case hx => exact tAG)
| ((with_reducible apply opsF.want); (case hg => exact tEV); case hb => exact tNB)
| ((with_reducible apply opsF.skip); (case hg => exact tEV); case hb => exact tNB)
| (first | ((with_reducible apply opsF.case); case hg => exact tEV) | ((with_reducible apply vcF.cond); case hx => exact tEV)) <;> ((intro hc; try simp only [Int.reduceLT, Int.reduceLE, Int.reduceEq, Int.reduceNe, Int.cast_ofNat_Int, Int.reduceNeg, reduceCtorEq, ne_eq, ge_iff_le, gt_iff_lt, beq_iff_eq, beq_eq_false_iff_ne, bne_iff_ne, bne_eq_false_iff_eq, nrm, *] at hc) <;> try (exfalso; omega))
| ((with_reducible apply opsF.und); case hg => rfl)
| ((with_reducible apply opsF.callv); (case hf => exact tEV); case hx => exact tCV)
| ((with_reducible first | apply retF.r | apply retF.nn); case hv => exact tRS))
    exact ⟨⟨tk, rfl⟩, hE, hO2⟩
end Go.Abs.F
/- strings.Builder: what copyCheck, WriteString and String do to the model's world. -/
set_option linter.unusedVariables false
namespace Go.Proofs.YtnpdmkbfphcioaaGreatDoorBld
open Go.Shelf Go.RowKit
set_option maxHeartbeats 1000000
set_option maxRecDepth 100000
end Go.Proofs.YtnpdmkbfphcioaaGreatDoorBld
/- A strings.Builder as an object: contracts of WriteString and String. -/
set_option linter.unusedVariables false
set_option linter.unusedSimpArgs false
namespace Go.Abs.F
open Go Go.Abs Go.RowKit
set_option maxRecDepth 10000
variable {w0 : World}
/-- The object is a builder of these bytes. -/
def Bld (h : AH) (id : Nat) (l : List UInt8) : Prop :=
  id < h.n ∧ ((h.objs id = some (.bld 58 none 0 0) ∧ l = []) ∨ ∃ bid cap, id < bid ∧ bid < h.n ∧ h.objs id = some (.bld 58 (some bid) l.length cap) ∧ h.objs bid = some (.buf 5 l cap))
theorem Bld.ext {h h' : AH} {id : Nat} {l : List UInt8} (b : Bld h id l) (e : Ext h h') : Bld h' id l := by
  obtain ⟨h1, h2⟩ := b
  refine ⟨Nat.lt_of_lt_of_le h1 e.n, ?_⟩
  rcases h2 with ⟨h2, h3⟩ | ⟨bid, cap, h2, h3, h4, h5⟩
  · exact .inl ⟨(e.objs id h1).trans h2, h3⟩
  · exact .inr ⟨bid, cap, h2, Nat.lt_of_lt_of_le h3 e.n, (e.objs id h1).trans h4, (e.objs bid h3).trans h5⟩
/-- The bytes as cells. -/
def bcells (l : List UInt8) : List Value := l.map fun b => .int .u8 (b.toNat : Int)
theorem bcells_len (l : List UInt8) : (bcells l).length = l.length := by simp [bcells]
theorem bcells_one (l : List UInt8) : ∀ x ∈ bcells l, x.oneCell' = true := by
  intro x hx
  obtain ⟨b, _, rfl⟩ := List.mem_map.1 hx
  rfl
theorem bcells_get (l : List UInt8) (j : Nat) : (bcells l)[j]? = (l[j]?).map fun b => .int .u8 (b.toNat : Int) := by simp [bcells]
theorem bcells_first {P : Program} (w : World) (s : List UInt8) : (Builtin.firstCells 1 s.length (.string (bs s))).run P w = .ok (bcells s).toArray w := by
  simp only [Builtin.firstCells, Sem.run_pure]
  rw [bs_extract, List.take_length, List.drop_zero]
  simp [bs, bcells]
theorem putBlk_same {w : World} {b : Nat} {o : Obj} (hb : w.heap[b]? = some o) : putBlk w b o = w := by
  unfold putBlk
  obtain ⟨hlt, rfl⟩ := Array.getElem?_eq_some_iff.1 hb
  rw [Array.setIfInBounds_def, dif_pos hlt, Array.set_getElem_self]
theorem frozen_free {w : World} {b off : Nat} {vs : Array Value} {e : TypeId} {fr : Nat × Nat} (hb : w.heap[b]? = some (.cells vs e fr)) (hf : free fr off) : w.frozen? ⟨b, off, none⟩ = false := by
  obtain ⟨lo, hi⟩ := fr
  simp only [World.frozen?, hb]
  simpa [free] using hf
/-- copyCheck at a builder's block. -/
theorem cc_any {b : Nat} {p v : Value} {fr : Nat × Nat} {w : World} (hb : w.heap[b]? = some (.cells #[p, v] 58 fr)) (hf : free fr 0) (hp : p = .pointer none ∨ p = .pointer (some ⟨b, 0, none⟩)) :
    Calls P 64 #[.pointer (some ⟨b, 0, none⟩)] w fun e w' => e = .returned (.tuple #[]) ∧ w' = putBlk w b (.cells #[.pointer (some ⟨b, 0, none⟩), v] 58 fr) := by
  have hset : w.setCell ⟨b, 0, none⟩ (.pointer (some ⟨b, 0, none⟩)) = putBlk w b (.cells #[.pointer (some ⟨b, 0, none⟩), v] 58 fr) := by
    rw [setCell_putBlk hb]; rfl
  rcases hp with rfl | rfl
  · exact (Go.Proofs.YtnpdmkbfphcioaaGreatDoorBld.cc_fresh b w (by simp [World.cell?, hb]) (by simp [World.shape?, hb]) (frozen_free hb hf)).mono fun e w' hh => ⟨hh.1, hh.2.trans hset⟩
  · exact (Go.Proofs.YtnpdmkbfphcioaaGreatDoorBld.cc_used b w (by simp [World.cell?, hb])).mono fun e w' hh => ⟨hh.1, hh.2.trans (putBlk_same hb).symm⟩
theorem byte_info : ∃ i, P.info? 5 = some i ∧ i.size = 1 ∧ i.bytes = 1 ∧ i.zero = some (.int .u8 0) := by
  obtain ⟨i, hi, hj⟩ := Option.map_eq_some_iff.1 (show (P.info? 5).map (fun i => (i.size, i.bytes, i.zero)) = some (1, 1, some (.int .u8 0)) by kernel_rfl)
  simp only [Prod.mk.injEq] at hj
  exact ⟨i, hi, hj.1, hj.2.1, hj.2.2⟩
/-- The builder's own block is written last. -/
theorem bld_fin {Γ : Con} {h : AH} {w : World} (H : WR w0 Γ h w) {id b : Nat} {o o' : Option Nat} {n n' c c' : Nat} (ho : h.objs id = some (.bld 58 o n c)) (hr : Γ.rho id = some b) {v v' : Value} {fr : Nat × Nat}
    (hh : w.heap[b]? = some (.cells #[.pointer (some ⟨b, 0, none⟩), v] 58 fr)) (h0 : free fr 0) (h1 : free fr 1)
    (hv : (o' = none ∧ n' = 0 ∧ c' = 0 ∧ ∃ base, v' = .slice base 0 0) ∨ ∃ i g, o' = some i ∧ Γ.rho i = some g ∧ v' = .slice (some ⟨g, 0, none⟩) n' c') :
    WR w0 Γ (h.set id (.bld 58 o' n' c')) (w.setCell ⟨b, 1, none⟩ v') := by
  rw [setCell_putBlk hh]
  exact H.turn ho hr (putBlk_chg w b _) ⟨_, _, _, putBlk_at hh _, h0, h1, .inr rfl, hv⟩ (fun vs' t' fr' h' => by
    rw [hh] at h'
    cases h'
    exact ⟨_, _, putBlk_at hh _, by simp⟩)
theorem ws_call (id : Nat) (l s : List UInt8) (h : AH) (hb : Bld h id l) (hl : l.length + s.length ≤ 140737488355328) : Call P w0 strings_Builder_WriteString [.ptr id 0, .v (.string (bs s))] h
    (fun v h' => v = .tup [.v (.int .i64 ((s.length : Nat) : Int)), .v .nilIface] ∧ Bld h' id (l ++ s) ∧ ExtX (fun i => id ≤ i) (fun _ => False) h h') := by
  obtain ⟨inf, hi, hsz, hby, hz⟩ := byte_info
  have hte : P.underlying 28 = some (.slice 5) := Go.Proofs.Tryz.underlying28
  have hst : slOrStr P 9 := .inr Go.Proofs.Tryz.underlying9
  have hly : ∀ W, (Builtin.lenOf (.string (bs s))).run P W = .ok s.length W := fun W => by simp [Builtin.lenOf, bs_size]
  have hnw : ∀ W, (Builtin.firstCells inf.size s.length (.string (bs s))).run P W = .ok (bcells s).toArray W := fun W => by rw [hsz]; exact bcells_first W s
  refine ⟨⟨_, Go.Proofs.Tryz.func32, by kernel_rfl, by kernel_rfl⟩, fun Γ w vs H hv => ?_⟩
  have hlen := hv.len
  obtain ⟨x0, x1, rfl⟩ : ∃ x0 x1, vs = [x0, x1] := by
    match vs, hlen with
    | [x0, x1], _ => exact ⟨x0, x1, rfl⟩
  have hx0 : RV Γ (.ptr id 0) x0 := hv.at_ 0 (by simp) (by simp)
  have hx1 : RV Γ (.v (.string (bs s))) x1 := hv.at_ 1 (by simp) (by simp)
  obtain ⟨b, hrho, rfl⟩ := hx0.inv_ptr
  obtain rfl := hx1.inv_v
  obtain ⟨hid, hcase⟩ := hb
  have hret : ∀ Γ' : Con, RV Γ' (.tup [.v (.int .i64 ((s.length : Nat) : Int)), .v .nilIface]) (.tuple #[.int .i64 (bs s).size, .nilIface]) := fun Γ' => by
    refine .tup rfl fun k hk hk' => ?_
    match k, hk with
    | 0, _ => exact .v _
    | 1, _ => exact .v _
  rcases hcase with ⟨ho, rfl⟩ | ⟨bid, cap, hlt, hbn, ho, hbuf⟩
  · obtain ⟨b', hb', hge, ⟨p, v, fr, hh, hf0, hf1, hp, hv5⟩, hF⟩ := H.obj ho
    obtain rfl : b = b' := by rw [hrho] at hb'; injection hb'
    obtain ⟨base, rfl⟩ : ∃ base, v = .slice base 0 0 := by
      rcases hv5 with ⟨_, _, _, base, hbase⟩ | ⟨i, g, hi, _⟩
      · exact ⟨base, hbase⟩
      · cases hi
    have hcc := cc_any hh hf0 hp
    have hW := putBlk_at hh (.cells #[.pointer (some ⟨b, 0, none⟩), .slice base 0 0] 58 fr)
    have HW : WR w0 Γ (h.set id (.bld 58 none 0 0)) (putBlk w b (.cells #[.pointer (some ⟨b, 0, none⟩), .slice base 0 0] 58 fr)) :=
      H.turn ho hrho (putBlk_chg w b _) ⟨_, _, _, hW, hf0, hf1, .inr rfl, .inl ⟨rfl, rfl, rfl, base, rfl⟩⟩ (fun vs' t' fr' h' => by
        rw [hh] at h'
        cases h'
        exact ⟨_, _, hW, by simp⟩)
    generalize putBlk w b (.cells #[.pointer (some ⟨b, 0, none⟩), .slice base 0 0] 58 fr) = W at hcc hW HW
    have ho1 : (h.set id (.bld 58 none 0 0)).objs id = some (.bld 58 none 0 0) := by simp [set_at]
    by_cases hs : s = []
    · subst hs
      have hrun := append_none (ty := 28) (w := W) hte hi hst (base := base) (n := 0) (c := 0) (hly W) (by simpa [bcells] using hnw W) (Nat.le_refl _)
      refine (Go.Proofs.YtnpdmkbfphcioaaGreatDoorBld.ws_any b (bs []) base base 0 0 0 0 w W W hcc (by simp [World.cell?, hW]) hrun (by simp [World.cell?, hW]) (frozen_free hW hf1)).mono fun e w' hh' => ?_
      obtain ⟨rfl, rfl⟩ := hh'
      refine ⟨_, Γ, _, _, rfl, .refl Γ, hret Γ, bld_fin HW ho1 hrho hW hf0 hf1 (o' := none) (n' := 0) (c' := 0) (.inl ⟨rfl, rfl, rfl, base, rfl⟩), rfl, ⟨by simpa [set_n] using hid, .inl ⟨by simp [set_at], rfl⟩⟩, ?_⟩
      exact ((ExtX.of (Ext.refl h)).set (.inl (Nat.le_refl _)) _).set (.inl (Nat.le_refl _)) _
    · have hpos : 0 < s.length := List.length_pos_iff.2 hs
      have hrun := append_grow (ty := 28) (w := W) (us := []) (new := bcells s) hte hi hz hst (base := base) (n := 0) (c := 0) (hly W) (run_firstCells_zero _ _ _ _ _) (hnw _) (by omega) (by rw [hby]; omega) (by omega)
      have hcap := grownCap_ge W (0 + s.length) 0 5
      generalize grownCap W (0 + s.length) 0 5 = cap at hrun hcap
      rw [Nat.zero_add] at hrun hcap
      generalize harr : ((([] : List Value) ++ bcells s).toArray ++ Builtin.zeroCells (Value.int IntKind.u8 0).cells (cap - s.length)) = arr at hrun
      have hasz : arr.size = cap := by
        rw [← harr]
        simp only [Array.size_append, List.size_toArray, List.nil_append, bcells_len, size_zeroCells]
        first | omega | (simp [Value.cells]; omega) | (show s.length + (cap - s.length) * 1 = cap; omega)
      have HW2 := HW.drew.new (.cells arr 5) (.buf 5 s cap) (fun w' hw' => ⟨arr, (0, 0), hw', hasz, hcap, fun j x hx => by
        rw [← harr, Array.getElem?_append_left (by simp [bcells_len]; exact (List.getElem?_eq_some_iff.1 hx).1)]
        simp [bcells_get, hx], Nat.zero_le _⟩)
      have hbl : b < W.heap.size := size_pos_of hW
      have hne : id ≠ h.n := by omega
      have hW2 : (W.drew.alloc (.cells arr 5)).heap[b]? = some (.cells #[.pointer (some ⟨b, 0, none⟩), .slice base 0 0] 58 fr) := (heap_alloc_old W.drew _ b hbl).trans hW
      refine (Go.Proofs.YtnpdmkbfphcioaaGreatDoorBld.ws_any b (bs s) base _ 0 0 _ _ w W _ hcc (by simp [World.cell?, hW]) hrun (by simp [World.cell?, hW2]) (frozen_free hW2 hf1)).mono fun e w' hh' => ?_
      obtain ⟨rfl, rfl⟩ := hh'
      have hle := HW.drew.le_obj W.drew.heap.size
      refine ⟨_, _, _, _, rfl, hle, hret _, bld_fin HW2 (o := none) (n := 0) (c := 0) (by simp [alloc_at, set_n, set_at, hne]) (hle.rho hrho) hW2 hf0 hf1 (o' := some h.n) (n' := s.length) (c' := cap) (.inr ⟨h.n, W.drew.heap.size, rfl, by simp [Con.withObj, set_n], rfl⟩), rfl, ⟨by simp [set_n, alloc_n]; omega, .inr ⟨h.n, cap, hid, by simp [set_n, alloc_n], by simp [set_at], ?_⟩⟩, ?_⟩
      · have : h.n ≠ id := fun e => hne e.symm
        simp [set_at, alloc_at, set_n, this]
      · exact (((ExtX.of (Ext.refl h)).set (.inl (Nat.le_refl _)) _).alloc _).set (.inl (Nat.le_refl _)) _
  · obtain ⟨b', hb', hge, ⟨p, v, fr, hh, hf0, hf1, hp, hv5⟩, hF⟩ := H.obj ho
    obtain rfl : b = b' := by rw [hrho] at hb'; injection hb'
    obtain ⟨g, hgr, rfl⟩ : ∃ g, Γ.rho bid = some g ∧ v = .slice (some ⟨g, 0, none⟩) l.length cap := by
      rcases hv5 with ⟨h5, _⟩ | ⟨i, g, h5, h6, h7⟩
      · cases h5
      · injection h5 with h5
        subst h5
        exact ⟨g, h6, h7⟩
    obtain ⟨g', hg', hgge, ⟨cur, frb, hgh, hcs, hlc, hcell, hfrb⟩, hgF⟩ := H.obj hbuf
    obtain rfl : g = g' := by rw [hgr] at hg'; injection hg'
    have hbg : g ≠ b := by
      rintro rfl
      have := H.inj (by rw [hbuf]; rfl) (by rw [ho]; rfl) hgr hrho
      omega
    have hcc := cc_any hh hf0 hp
    have hchg := putBlk_chg w b (.cells #[.pointer (some ⟨b, 0, none⟩), .slice (some ⟨g, 0, none⟩) l.length cap] 58 fr)
    have hW := putBlk_at hh (.cells #[.pointer (some ⟨b, 0, none⟩), .slice (some ⟨g, 0, none⟩) l.length cap] 58 fr)
    have HW : WR w0 Γ (h.set id (.bld 58 (some bid) l.length cap)) (putBlk w b (.cells #[.pointer (some ⟨b, 0, none⟩), .slice (some ⟨g, 0, none⟩) l.length cap] 58 fr)) :=
      H.turn ho hrho hchg ⟨_, _, _, hW, hf0, hf1, .inr rfl, .inr ⟨bid, g, rfl, hgr, rfl⟩⟩ (fun vs' t' fr' h' => by
        rw [hh] at h'
        cases h'
        exact ⟨_, _, hW, by simp⟩)
    have hgW := (hchg.other g hbg).trans hgh
    generalize putBlk w b (.cells #[.pointer (some ⟨b, 0, none⟩), .slice (some ⟨g, 0, none⟩) l.length cap] 58 fr) = W at hcc hW HW hgW
    have hidb : bid ≠ id := by omega
    have ho1 : (h.set id (.bld 58 (some bid) l.length cap)).objs id = some (.bld 58 (some bid) l.length cap) := by simp [set_at]
    have hbuf1 : (h.set id (.bld 58 (some bid) l.length cap)).objs bid = some (.buf 5 l cap) := by simp [set_at, hidb, hbuf]
    by_cases hroom : l.length + s.length ≤ cap
    · have hstc := run_storeCells P (off := l.length) (bcells s) 0 cur W hgW (bcells_one s) (by rw [bcells_len, hcs]; omega) (fun k a c => by
        simp only [free]
        omega)
      simp only [Nat.add_zero] at hstc
      have hrun := append_room (ty := 28) hte hi hst (b := g) (o := 0) (n := l.length) (c := cap) (hly W) (hnw W) hroom (by rw [hsz, Nat.mul_one, Nat.zero_add]; exact hstc)
      have HW2 := HW.turn hbuf1 hgr (putBlk_chg W g (.cells (wrA cur l.length (bcells s)) 5 frb)) (o' := .buf 5 (l ++ s) cap)
        ⟨_, _, putBlk_at hgW _, by rw [wrA_size]; exact hcs, by simp; exact hroom, fun j x hx => by
          rw [wrA_at]
          have hj := (List.getElem?_eq_some_iff.1 hx).1
          simp only [List.length_append] at hj
          by_cases hjl : j < l.length
          · rw [if_neg (by omega)]
            rw [List.getElem?_append_left hjl] at hx
            exact hcell j x hx
          · rw [if_pos ⟨by omega, by rw [bcells_len]; omega, by rw [hcs]; omega⟩]
            rw [List.getElem?_append_right (by omega)] at hx
            rw [bcells_get, hx]
            rfl, by simp; omega⟩ (fun vs' t' fr' h' => by
          rw [hgW] at h'
          cases h'
          exact ⟨_, _, putBlk_at hgW _, wrA_size _ _ _⟩)
      have hW2 := ((putBlk_chg W g (.cells (wrA cur l.length (bcells s)) 5 frb)).other b hbg.symm).trans hW
      refine (Go.Proofs.YtnpdmkbfphcioaaGreatDoorBld.ws_any b (bs s) _ _ _ _ _ _ w W _ hcc (by simp [World.cell?, hW]) hrun (by simp [World.cell?, hW2]) (frozen_free hW2 hf1)).mono fun e w' hh' => ?_
      obtain ⟨rfl, rfl⟩ := hh'
      refine ⟨_, Γ, _, _, rfl, .refl Γ, hret _, bld_fin HW2 (o := some bid) (n := l.length) (c := cap) (by simp [set_at, hidb.symm]) hrho hW2 hf0 hf1 (o' := some bid) (n' := l.length + s.length) (c' := cap) (.inr ⟨bid, g, rfl, hgr, rfl⟩), rfl, ⟨by simpa [set_n] using hid, .inr ⟨bid, cap, hlt, by simpa [set_n] using hbn, by simp [set_at], by simp [set_at, hidb]⟩⟩, ?_⟩
      exact (((ExtX.of (Ext.refl h)).set (.inl (Nat.le_refl _)) _).set (.inl (Nat.le_of_lt hlt)) _).set (.inl (Nat.le_refl _)) _
    · have hpos : 0 < s.length := by omega
      have hold : (Builtin.firstCells inf.size l.length (.slice (some ⟨g, 0, none⟩) l.length cap)).run P W.drew = .ok (bcells l).toArray W.drew := by
        refine run_firstCells_some (P := P) W.drew _ _ ⟨g, 0, none⟩ _ cap (bcells l) (by rw [bcells_len, hsz, Nat.mul_one]) (fun j v hv => ?_)
        rw [bcells_get, Option.map_eq_some_iff] at hv
        obtain ⟨x, hx, rfl⟩ := hv
        have hc1 := hcell j x hx
        have : W.drew.heap[g]? = some (.cells cur 5 frb) := hgW
        rw [addr_add, Nat.zero_add]
        simp [World.cell?, this, hc1]
      have hrun := append_grow (ty := 28) (w := W) (us := bcells l) (new := bcells s) hte hi hz hst (n := l.length) (c := cap) (hly W) hold (hnw _) (by omega) (by rw [hby]; omega) (by omega)
      have hcap := grownCap_ge W (l.length + s.length) cap 5
      generalize grownCap W (l.length + s.length) cap 5 = cap2 at hrun hcap
      generalize harr : ((bcells l ++ bcells s).toArray ++ Builtin.zeroCells (Value.int IntKind.u8 0).cells (cap2 - (l.length + s.length))) = arr at hrun
      have hasz : arr.size = cap2 := by
        rw [← harr]
        simp only [Array.size_append, List.size_toArray, List.length_append, bcells_len, size_zeroCells]
        first | omega | (simp [Value.cells]; omega) | (show l.length + s.length + (cap2 - (l.length + s.length)) * 1 = cap2; omega)
      have HW2 := HW.drew.new (.cells arr 5) (.buf 5 (l ++ s) cap2) (fun w' hw' => ⟨arr, (0, 0), hw', hasz, by simpa using hcap, fun j x hx => by
        have hj := (List.getElem?_eq_some_iff.1 hx).1
        simp only [List.length_append] at hj
        rw [← harr, Array.getElem?_append_left (by simp [bcells_len]; exact hj)]
        have : (bcells l ++ bcells s) = bcells (l ++ s) := by simp [bcells]
        rw [this]
        simp [bcells_get, hx], Nat.zero_le _⟩)
      have hbl : b < W.heap.size := size_pos_of hW
      have hne : id ≠ h.n := by omega
      have hW2 : (W.drew.alloc (.cells arr 5)).heap[b]? = some (.cells #[.pointer (some ⟨b, 0, none⟩), .slice (some ⟨g, 0, none⟩) l.length cap] 58 fr) := (heap_alloc_old W.drew _ b hbl).trans hW
      refine (Go.Proofs.YtnpdmkbfphcioaaGreatDoorBld.ws_any b (bs s) _ _ _ _ _ _ w W _ hcc (by simp [World.cell?, hW]) hrun (by simp [World.cell?, hW2]) (frozen_free hW2 hf1)).mono fun e w' hh' => ?_
      obtain ⟨rfl, rfl⟩ := hh'
      have hle := HW.drew.le_obj W.drew.heap.size
      refine ⟨_, _, _, _, rfl, hle, hret _, bld_fin HW2 (o := some bid) (n := l.length) (c := cap) (by simp [alloc_at, set_n, set_at, hne]) (hle.rho hrho) hW2 hf0 hf1 (o' := some h.n) (n' := l.length + s.length) (c' := cap2) (.inr ⟨h.n, W.drew.heap.size, rfl, by simp [Con.withObj, set_n], rfl⟩), rfl, ⟨by simp [set_n, alloc_n]; omega, .inr ⟨h.n, cap2, hid, by simp [set_n, alloc_n], by simp [set_at], ?_⟩⟩, ?_⟩
      · have : h.n ≠ id := fun e => hne e.symm
        simp [set_at, alloc_at, set_n, this]
      · exact (((ExtX.of (Ext.refl h)).set (.inl (Nat.le_refl _)) _).alloc _).set (.inl (Nat.le_refl _)) _
theorem set_same {h : AH} {i : Nat} {o : AObj} (ho : h.objs i = some o) : h.set i o = h := by
  have : (fun j => if j = i then some o else h.objs j) = h.objs := by
    funext j
    by_cases hj : j = i
    · rw [if_pos hj, hj, ho]
    · rw [if_neg hj]
  simp only [AH.set, this]
theorem str_call (id : Nat) (l : List UInt8) (h : AH) (hb : Bld h id l) (hne : l ≠ []) (hl : l.length ≤ 9223372036854775807) : Call P w0 strings_Builder_String [.ptr id 0] h (fun v h' => v = .v (.string (bs l)) ∧ h' = h) := by
  refine ⟨⟨_, Go.Proofs.Tryz.func34, by kernel_rfl, by kernel_rfl⟩, fun Γ w vs H hv => ?_⟩
  have hlen := hv.len
  obtain ⟨x0, rfl⟩ : ∃ x0, vs = [x0] := by
    match vs, hlen with
    | [x0], _ => exact ⟨x0, rfl⟩
  have hx0 : RV Γ (.ptr id 0) x0 := hv.at_ 0 (by simp) (by simp)
  obtain ⟨b, hrho, rfl⟩ := hx0.inv_ptr
  obtain ⟨hid, hcase⟩ := hb
  rcases hcase with ⟨ho, rfl⟩ | ⟨bid, cap, hlt, hbn, ho, hbuf⟩
  · exact absurd rfl hne
  · obtain ⟨b', hb', hge, ⟨p, v, fr, hh, hf0, hf1, hp, hv5⟩, hF⟩ := H.obj ho
    obtain rfl : b = b' := by rw [hrho] at hb'; injection hb'
    obtain ⟨g, hgr, rfl⟩ : ∃ g, Γ.rho bid = some g ∧ v = .slice (some ⟨g, 0, none⟩) l.length cap := by
      rcases hv5 with ⟨h5, _⟩ | ⟨i, g, h5, h6, h7⟩
      · cases h5
      · injection h5 with h5
        subst h5
        exact ⟨g, h6, h7⟩
    obtain ⟨g', hg', hgge, ⟨cur, frb, hgh, hcs, hlc, hcell, hfrb⟩, hgF⟩ := H.obj hbuf
    obtain rfl : g = g' := by rw [hgr] at hg'; injection hg'
    refine (Go.Proofs.YtnpdmkbfphcioaaGreatDoorBld.str_some b g cap cap l w (by simp [World.cell?, hh]) hne hlc hl (by simp [World.shape?, hgh, hcs]) hlc (fun j x hx => ?_)).mono fun e w' hh' => ?_
    · rw [addr_add, Nat.zero_add]
      simp [World.cell?, hgh, hcell j x hx]
    · obtain ⟨rfl, rfl⟩ := hh'
      have hpos : l.length ≠ 0 := by simpa using hne
      have hgd : w.drew.heap[g]? = some (.cells cur 5 frb) := hgh
      have hfz : w.drew.freeze ⟨g, 0, none⟩ l.length = putBlk w.drew g (.cells cur 5 (if frb.1 == frb.2 then (0, 0 + l.length) else (min frb.1 0, max frb.2 (0 + l.length)))) := by
        unfold World.freeze putBlk
        rw [if_neg hpos]
        obtain ⟨hlt', hge'⟩ := Array.getElem?_eq_some_iff.1 hgd
        congr 1
        apply Array.ext_getElem?
        intro k
        rw [Array.getElem?_modify, Array.getElem?_setIfInBounds]
        by_cases hk : g = k
        · subst hk
          simp only [if_true, hgd, Option.map_some]
          rw [if_pos hlt']
        · rw [if_neg hk, if_neg hk]
      have hfb : (if frb.1 == frb.2 then (0, 0 + l.length) else (min frb.1 0, max frb.2 (0 + l.length))).2 ≤ l.length := by
        split
        · simp
        · simp only; omega
      rw [hfz]
      have HW := H.drew.turn hbuf hgr (putBlk_chg w.drew g (.cells cur 5 (if frb.1 == frb.2 then (0, 0 + l.length) else (min frb.1 0, max frb.2 (0 + l.length))))) (o' := .buf 5 l cap)
        ⟨cur, _, putBlk_at hgd _, hcs, hlc, hcell, hfb⟩ (fun vs' t' fr' h' => by
          rw [hgd] at h'
          cases h'
          exact ⟨_, _, putBlk_at hgd _, rfl⟩)
      rw [set_same hbuf] at HW
      exact ⟨_, Γ, _, h, rfl, .refl Γ, .v _, HW, rfl, rfl⟩
end Go.Abs.F
/- Layer 11: Encode. Layer 11: the document's text. -/
namespace Go.Abs.F
open Go Go.Abs
set_option maxRecDepth 10000
set_option maxHeartbeats 20000000
set_option linter.unusedSimpArgs false
set_option linter.unusedVariables false
variable {w0 : World}
theorem kv_len (k v : L8) : (kv k v).length = k.length + v.length + 2 := by simp [kv]; omega
theorem eline_call (id : Nat) (l k v : L8) (h : AH) (hb : Bld h id l) (hl : l.length + (kv k v).length ≤ 140737488355328) : Call P w0 env_Encode_1 [.v (.string (bs k)), .v (.string (bs v)), .ptr id 0] h (fun u h' => Bld h' id (l ++ kv k v) ∧ ExtX (fun i => id ≤ i) (fun _ => False) h h') := by
  rw [kv_len] at hl
  have e : ((k ++ [32]) ++ v) ++ [10] = kv k v := by simp [kv]
  refine Call.bodyF b_env_Encode_1 rfl rfl ?_
  unfold c_env_Encode_1
  repeat' (first
| ((with_reducible apply opsF.op rfl); case hs => first | exact tHT | exact tHS)
| (with_reducible first | apply opsF.nil | apply seqF.nn | apply vcF.seq | apply vcF.region | apply vcF.skip | apply vcF.ret | apply seqF.r)
| ((with_reducible apply opsF.call); case hx => exact tAG)
| ((with_reducible apply vcF.cond); case hx => exact tEV) <;> ((intro hc; try simp only [Int.reduceLT, Int.reduceLE, Int.reduceEq, Int.reduceNe, Int.cast_ofNat_Int, Int.reduceNeg, reduceCtorEq, ne_eq, ge_iff_le, gt_iff_lt, beq_iff_eq, beq_eq_false_iff_ne, bne_iff_ne, bne_eq_false_iff_eq, nrm, *] at hc) <;> try (exfalso; omega))
| ((with_reducible first | apply retF.r | apply retF.nn); case hv => exact tRS)
| ((refine (ws_call id l _ _ hb (by rw [kv_len]; omega)).mono fun v h2 hp => ?_); obtain ⟨rfl, hB2, hx2⟩ := hp))
  exact ⟨hB2, hx2⟩
theorem rcS_len {l : List L8} {K : Nat} (h : ∀ s ∈ l, s.length ≤ K) : (rcS l).length ≤ l.length * (K + 6) := by
  induction l with
  | nil => simp [rcS]
  | cons x l ih =>
    have h1 := h x (by simp)
    have h2 := ih fun s hs => h s (by simp [hs])
    have h3 := kv_len K7 x
    have h4 : K7.length = 4 := rfl
    simp only [rcS, List.length_append, List.length_cons, Nat.add_mul]
    omega
theorem bdS_len {l : List L8} {K : Nat} (h : ∀ s ∈ l, s.length ≤ K) : (bdS l).length ≤ l.length * (K + 6) := by
  induction l with
  | nil => simp [bdS]
  | cons x l ih =>
    have h1 := h x (by simp)
    have h2 := ih fun s hs => h s (by simp [hs])
    simp only [bdS, List.length_append, List.length_cons, Nat.add_mul]
    omega
theorem mkS_len {l : List Int} (h : l.all markS = true) : (mkS l).length ≤ l.length * 21 := by
  induction l with
  | nil => simp [mkS]
  | cons x l ih =>
    simp only [List.all_cons, Bool.and_eq_true] at h
    have h2 := ih h.2
    have h3 := h.1
    simp only [markS, Bool.and_eq_true, decide_eq_true_eq] at h3
    have h1 := decS_len x (by omega) (by omega)
    simp only [mkS, List.length_append, List.length_cons, Nat.add_mul]
    omega
structure GoodP (m : Msg) : Prop where
  t1 : -9223372036854775808 ≤ m.1 ∧ m.1 ≤ 9223372036854775807
  t2 : -9223372036854775808 ≤ m.2.1 ∧ m.2.1 ≤ 9223372036854775807
  t3 : -9223372036854775808 ≤ m.2.2.1 ∧ m.2.2.1 ≤ 9223372036854775807
  t4 : -9223372036854775808 ≤ m.2.2.2.1 ∧ m.2.2.2.1 ≤ 9223372036854775807
  t5 : -9223372036854775808 ≤ m.2.2.2.2.1 ∧ m.2.2.2.2.1 ≤ 9223372036854775807
  mks : m.2.2.2.2.2.2.2.1.all markS = true
  z1 : 0 ≤ m.1
  z2 : 0 ≤ m.2.1
  z3 : 0 ≤ m.2.2.1
  z4 : 0 ≤ m.2.2.2.1
  z5 : 0 ≤ m.2.2.2.2.1
theorem time_nn {n : Int} (h : timeS n = true) : 0 ≤ n := by
  simp only [timeS, Bool.and_eq_true, decide_eq_true_eq] at h
  omega
theorem goodP_of {m : Msg} (h : goodM m = true) : GoodP m := by
  simp only [goodM, numsS, Bool.and_eq_true] at h
  obtain ⟨⟨⟨⟨⟨⟨⟨⟨⟨⟨⟨t1, t2⟩, t3⟩, t4⟩, t5⟩, hf⟩, h1⟩, h2⟩, hr⟩, h3⟩, hm⟩, hb⟩ := h
  exact ⟨time_rng t1, time_rng t2, time_rng t3, time_rng t4, time_rng t5, hm, time_nn t1, time_nn t2, time_nn t3, time_nn t4, time_nn t5⟩
theorem text_len {m : Msg} (hm : MOk m) (g : GoodP m) : (textM m).length ≤ 10000000000000 := by
  have d1 := decS_len _ g.t1.1 g.t1.2
  have d2 := decS_len _ g.t2.1 g.t2.2
  have d3 := decS_len _ g.t3.1 g.t3.2
  have d4 := decS_len _ g.t4.1 g.t4.2
  have d5 := decS_len _ g.t5.1 g.t5.2
  have a1 := rcS_len hm.rs
  have a2 := bdS_len hm.bs
  have a3 := mkS_len g.mks
  have m1 : m.2.2.2.2.2.2.1.length * (1000000 + 6) ≤ 1000000 * (1000000 + 6) := Nat.mul_le_mul_right _ hm.rl
  have m2 : m.2.2.2.2.2.2.2.2.length * (1000000 + 6) ≤ 1000000 * (1000000 + 6) := Nat.mul_le_mul_right _ hm.bl
  have m3 : m.2.2.2.2.2.2.2.1.length * 21 ≤ 1000000 * 21 := Nat.mul_le_mul_right _ hm.ml
  have hf := hm.f
  simp only [textM, numsT, restT, List.length_append, kv_len, List.length_cons, K1, K2, K3, K4, K5, K6, K8, List.length_nil]
  omega
def encV (m : Msg) : AV := if goodM m = true then .tup [.list 1 (brows (textM m)) .no, .v (.int .i64 0)] else .tup [.list 1 [] .full, .v (.int .i64 2)]
theorem rcS_drop {l : List L8} {i : Nat} {x : L8} (hx : l[i]? = some x) : rcS (l.drop i) = kv K7 x ++ rcS (l.drop (i + 1)) := by rw [drop_step hx, rcS]
theorem bdS_drop {l : List L8} {i : Nat} {x : L8} (hx : l[i]? = some x) : bdS (l.drop i) = x ++ 10 :: bdS (l.drop (i + 1)) := by rw [drop_step hx, bdS]
theorem mkS_app (l m : List Int) : mkS (l ++ m) = mkS l ++ mkS m := by
  induction l with
  | nil => rfl
  | cons x l ih => simp only [List.cons_append, mkS, ih, List.append_assoc]
theorem mkS_take {l : List Int} {i : Nat} {x : Int} (hx : l[i]? = some x) : mkS (l.take (i + 1)) = mkS (l.take i) ++ decS x := by
  rw [List.take_add_one, hx, Option.toList_some, mkS_app]
  simp [mkS]
theorem mkS_le {l : List Int} (i : Nat) : (mkS (l.take i)).length ≤ (mkS l).length := by
  have : mkS l = mkS (l.take i) ++ mkS (l.drop i) := by rw [← mkS_app, List.take_append_drop]
  rw [this, List.length_append]
  omega
theorem encode_raw (hP : PowTab w0) (m : Msg) (t1 t2 t3 : Tok) (h : AH) (hm : MOk m) : Call P w0 env_Encode [.agg (msgC m t1 t2 t3)] h (fun v h' => v = encV m ∧ Ext h h') := by
  have hG := fun h => egood_call (w0 := w0) m t1 t2 t3 h hm
  have xl := srows_len
  have xg := srows_get
  have yl := irows_len
  have yg := irows_get
  rw [encV]
  refine Call.bodyF b_env_Encode rfl rfl ?_
  unfold c_env_Encode
  cases hg : goodM m with
  | false =>
    rw [hg] at hG
    obtain ⟨n1, n2, n3, n4, n5, f, rc, mk, bd⟩ := m
    unfold msgC at hG ⊢
    dsimp only at hG ⊢
    clear hg
    repeat' (first
| ((with_reducible apply opsF.op rfl); case hs => first | exact tHT | exact tHS)
| (with_reducible first | apply opsF.nil | apply seqF.nn | apply vcF.seq | apply vcF.region | apply vcF.skip | apply vcF.block | apply vcF.exit | apply vcF.ret | apply vcF.loop | apply seqF.e | apply seqF.r | apply blkF.nn | apply blkF.e | apply blkF.r | apply blkF.o rfl)
| ((with_reducible apply opsF.call); case hx => exact tAG)
| ((with_reducible apply vcF.cond); case hx => exact tEV) <;> ((intro hc; try simp only [Int.reduceLT, Int.reduceLE, Int.reduceEq, Int.reduceNe, Int.cast_ofNat_Int, Int.reduceNeg, reduceCtorEq, ne_eq, ge_iff_le, gt_iff_lt, beq_iff_eq, beq_eq_false_iff_ne, bne_iff_ne, bne_eq_false_iff_eq, nrm, *] at hc) <;> try (exfalso; omega))
| ((with_reducible apply opsF.callv); (case hf => exact tEV); case hx => exact tCV)
| ((with_reducible first | apply retF.r | apply retF.nn); case hv => exact tRS)
| ((refine Call.use (hG _) ?_)))
    all_goals exact ⟨by first | rfl | simp, Ext.alloc _ _⟩
  | true =>
    have gp := goodP_of hg
    have htl := text_len hm gp
    rw [hg] at hG
    obtain ⟨n1, n2, n3, n4, n5, f, rc, mk, bd⟩ := m
    obtain ⟨r1, r2, r3, r4, r5, rm, _, _, _, _, _⟩ := gp
    obtain ⟨_, zr, _, zm, zb, _⟩ := hm
    simp only at zr zm zb
    simp only at r1 r2 r3 r4 r5 rm
    have e1 := srows_len rc
    have e2 := irows_len mk
    have e3 := srows_len bd
    obtain ⟨T, hT⟩ : ∃ T, textM (n1, n2, n3, n4, n5, f, rc, mk, bd) = T := ⟨_, rfl⟩
    rw [hT] at htl
    rw [if_pos rfl, hT]
    have hS : ((((((([] ++ kv K1 (decS n1)) ++ kv K2 (decS n2)) ++ kv K3 (decS n3)) ++ kv K4 (decS n4)) ++ kv K5 (decS n5)) ++ kv K6 f) ++ (rcS rc ++ (kv K8 (mkS mk) ++ 10 :: bdS bd))) = T := by
      rw [← hT]; simp [textM, numsT, restT]
    have hSl := congrArg List.length hS
    simp only [List.length_append, List.length_nil, List.length_cons] at hSl
    clear hT hg
    unfold msgC at hG ⊢
    dsimp only at hG ⊢
    unfold K1 K2 K3 K4 K5 K6 at hS hSl
    have hE : Ext h ((h.alloc (.cells [.v (.int .i64 n1), .v (.int .i64 n2), .v (.int .i64 n3), .v (.int .i64 n4), .v (.int .i64 n5), .v (.string (bs f)), .list 1 (srows rc) t1, .list 1 (irows mk) t2, .list 1 (srows bd) t3])).alloc (.bld 58 none 0 0)) := (Ext.alloc _ _).trans (Ext.alloc _ _)
    have hM : ((h.alloc (.cells [.v (.int .i64 n1), .v (.int .i64 n2), .v (.int .i64 n3), .v (.int .i64 n4), .v (.int .i64 n5), .v (.string (bs f)), .list 1 (srows rc) t1, .list 1 (irows mk) t2, .list 1 (srows bd) t3])).alloc (.bld 58 none 0 0)).objs h.n = some (.cells [.v (.int .i64 n1), .v (.int .i64 n2), .v (.int .i64 n3), .v (.int .i64 n4), .v (.int .i64 n5), .v (.string (bs f)), .list 1 (srows rc) t1, .list 1 (irows mk) t2, .list 1 (srows bd) t3]) := by simp [alloc_at, alloc_n]
    have hB : Bld ((h.alloc (.cells [.v (.int .i64 n1), .v (.int .i64 n2), .v (.int .i64 n3), .v (.int .i64 n4), .v (.int .i64 n5), .v (.string (bs f)), .list 1 (srows rc) t1, .list 1 (irows mk) t2, .list 1 (srows bd) t3])).alloc (.bld 58 none 0 0)) (h.n + 1) [] := ⟨by simp [alloc_n], .inl ⟨by simp [alloc_at, alloc_n], rfl⟩⟩
    repeat' (first
| ((with_reducible apply opsF.op rfl); case hs => first | exact tHT | exact tHS)
| (with_reducible first | apply opsF.nil | apply seqF.nn | apply vcF.seq | apply vcF.region | apply vcF.skip | apply vcF.block | apply vcF.exit | apply vcF.ret | apply vcF.loop | apply seqF.e | apply seqF.r | apply blkF.nn | apply blkF.e | apply blkF.r | apply blkF.o rfl)
| ((with_reducible apply opsF.call); case hx => exact tAG)
| ((with_reducible apply vcF.cond); case hx => exact tEV) <;> ((intro hc; try simp only [Int.reduceLT, Int.reduceLE, Int.reduceEq, Int.reduceNe, Int.cast_ofNat_Int, Int.reduceNeg, reduceCtorEq, ne_eq, ge_iff_le, gt_iff_lt, beq_iff_eq, beq_eq_false_iff_ne, bne_iff_ne, bne_eq_false_iff_eq, nrm, *] at hc) <;> try (exfalso; omega))
| ((with_reducible apply opsF.callv); (case hf => exact tEV); case hx => exact tCV)
| ((with_reducible first | apply retF.r | apply retF.nn); case hv => exact tRS)
| ((refine Call.use (hG _) ?_))
| ((refine Call.use (itoa_call hP n1 _ r1.1 r1.2) ?_))
| ((refine Call.use (itoa_call hP n2 _ r2.1 r2.2) ?_))
| ((refine Call.use (itoa_call hP n3 _ r3.1 r3.2) ?_))
| ((refine Call.use (itoa_call hP n4 _ r4.1 r4.2) ?_))
| ((refine Call.use (itoa_call hP n5 _ r5.1 r5.2) ?_))
| ((refine (eline_call (h.n + 1) _ _ _ _ hB (by simp only [List.length_append, List.length_nil]; omega)).mono fun u h2 hp => ?_); obtain ⟨hB2, hx⟩ := hp; replace hM := (hx.objs h.n (by have := hB.1; omega) (by omega)).trans hM; replace hE := Ext.transX hE hx (fun i (hi : h.n + 1 ≤ i) => (by omega)) (fun t ht => ht.elim); replace hB := hB2; clear hB2 hx))
    clear hG r1 r2 r3 r4 r5 hSl
    refine LpF.ind rfl (fun i : Nat => rc.length - i) (fun i σ hh => ∃ (pre : L8), Ext h hh ∧ hh.objs h.n = some (.cells [.v (.int .i64 n1), .v (.int .i64 n2), .v (.int .i64 n3), .v (.int .i64 n4), .v (.int .i64 n5), .v (.string (bs f)), .list 1 (srows rc) t1, .list 1 (irows mk) t2, .list 1 (srows bd) t3]) ∧ Bld hh (h.n + 1) pre ∧ σ 1 = .ptr h.n 0 ∧ σ 4 = .ptr (h.n + 1) 0 ∧ σ 5 = .func (.func env_Encode_1) [] [.ptr (h.n + 1) 0] ∧ σ 47 = .list 1 (srows rc) t1 ∧ σ 48 = .v (.int .i64 (rc.length : Nat)) ∧ σ 49 = .v (.int .i64 (i : Nat)) ∧ i ≤ rc.length ∧ pre ++ (rcS (rc.drop i) ++ (kv K8 (mkS mk) ++ 10 :: bdS bd)) = T) ?_ (i := 0)
      ⟨_, hE, hM, hB, rfl, rfl, rfl, rfl, by first | rfl | (rw [← e1]; rfl), rfl, Nat.zero_le _, hS⟩
    clear hE hM hB hS
    rintro i σ hh ⟨pre, hE, hM, hB, g1, g4, g5, g47, g48, g49, hi, hS⟩
    rcases Nat.lt_or_ge i rc.length with hlt | hge
    · obtain ⟨x, hx⟩ : ∃ x, rc[i]? = some x := ⟨_, List.getElem?_eq_getElem hlt⟩
      have hS2 : (pre ++ kv K7 x) ++ (rcS (rc.drop (i + 1)) ++ (kv K8 (mkS mk) ++ 10 :: bdS bd)) = T := by rw [← hS, rcS_drop hx]; simp
      have hSl : pre.length + (kv K7 x).length ≤ 10000000000000 := by
        have := congrArg List.length hS2
        simp only [List.length_append] at this
        omega
      clear hS
      unfold K7 at hS2 hSl
      repeat' (first
| ((with_reducible apply opsF.op rfl); case hs => first | exact tHT | exact tHS)
| (with_reducible first | apply opsF.nil | apply seqF.nn | apply vcF.seq | apply vcF.region | apply vcF.skip | apply vcF.block | apply vcF.exit | apply vcF.ret | apply vcF.loop | apply seqF.e | apply seqF.r | apply blkF.nn | apply blkF.e | apply blkF.r | apply blkF.o rfl)
| ((with_reducible apply opsF.call); case hx => exact tAG)
| ((with_reducible apply vcF.cond); case hx => exact tEV) <;> ((intro hc; try simp only [Int.reduceLT, Int.reduceLE, Int.reduceEq, Int.reduceNe, Int.cast_ofNat_Int, Int.reduceNeg, reduceCtorEq, ne_eq, ge_iff_le, gt_iff_lt, beq_iff_eq, beq_eq_false_iff_ne, bne_iff_ne, bne_eq_false_iff_eq, nrm, *] at hc) <;> try (exfalso; omega))
| ((with_reducible apply opsF.callv); (case hf => exact tEV); case hx => exact tCV)
| ((with_reducible first | apply retF.r | apply retF.nn); case hv => exact tRS)
| ((refine (eline_call (h.n + 1) _ _ _ _ hB (by omega)).mono fun u h2 hp => ?_); obtain ⟨hB2, hx⟩ := hp; replace hM := (hx.objs h.n (by have := hB.1; omega) (by omega)).trans hM; replace hE := Ext.transX hE hx (fun i (hi : h.n + 1 ≤ i) => (by omega)) (fun t ht => ht.elim); replace hB := hB2; clear hB2 hx))
      exact ⟨i + 1, by omega, _, hE, hM, hB, g1, g4, g5, g47, g48, rfl, by omega, hS2⟩
    · obtain rfl : i = rc.length := by omega
      rw [List.drop_length] at hS
      have hS2 : pre ++ (kv K8 (mkS mk) ++ 10 :: bdS bd) = T := hS
      clear hS
      have hSl : pre.length + ((kv K8 (mkS mk)).length + 1) ≤ 10000000000000 := by
        have := congrArg List.length hS2
        simp only [List.length_append, List.length_cons] at this
        omega
      have hkl := kv_len K8 (mkS mk)
      repeat' (first
| ((with_reducible apply opsF.op rfl); case hs => first | exact tHT | exact tHS)
| (with_reducible first | apply opsF.nil | apply seqF.nn | apply vcF.seq | apply vcF.region | apply vcF.skip | apply vcF.block | apply vcF.exit | apply vcF.ret | apply vcF.loop | apply seqF.e | apply seqF.r | apply blkF.nn | apply blkF.e | apply blkF.r | apply blkF.o rfl)
| ((with_reducible apply opsF.call); case hx => exact tAG)
| ((with_reducible apply vcF.cond); case hx => exact tEV) <;> ((intro hc; try simp only [Int.reduceLT, Int.reduceLE, Int.reduceEq, Int.reduceNe, Int.cast_ofNat_Int, Int.reduceNeg, reduceCtorEq, ne_eq, ge_iff_le, gt_iff_lt, beq_iff_eq, beq_eq_false_iff_ne, bne_iff_ne, bne_eq_false_iff_eq, nrm, *] at hc) <;> try (exfalso; omega))
| ((with_reducible apply opsF.callv); (case hf => exact tEV); case hx => exact tCV)
| ((with_reducible first | apply retF.r | apply retF.nn); case hv => exact tRS))
      refine LpF.ind rfl (fun i : Nat => mk.length - i) (fun i σ h' => h' = hh ∧ σ 1 = .ptr h.n 0 ∧ σ 4 = .ptr (h.n + 1) 0 ∧ σ 5 = .func (.func env_Encode_1) [] [.ptr (h.n + 1) 0] ∧ σ 58 = .list 1 (irows mk) t2 ∧ σ 59 = .v (.int .i64 (mk.length : Nat)) ∧ σ 60 = .v (.int .i64 (i : Nat)) ∧ σ 8 = .v (.string (bs (mkS (mk.take i)))) ∧ i ≤ mk.length) ?_ (i := 0)
        ⟨rfl, g1, g4, g5, rfl, by first | rfl | (rw [← e2]; rfl), rfl, rfl, Nat.zero_le _⟩
      clear g1 g4 g5 g47 g48 g49
      rintro i σ h' ⟨rfl, g1, g4, g5, g58, g59, g60, g8, hi⟩
      rcases Nat.lt_or_ge i mk.length with hlt | hge
      · obtain ⟨x, hx⟩ : ∃ x, mk[i]? = some x := ⟨_, List.getElem?_eq_getElem hlt⟩
        have hmx : markS x = true := List.all_eq_true.1 rm x (List.mem_of_getElem? hx)
        simp only [markS, Bool.and_eq_true, decide_eq_true_eq] at hmx
        have hI := fun h => itoa_call (w0 := w0) hP x h (by omega) (by omega)
        have hdl := decS_len x (by omega) (by omega)
        have htk := mkS_take hx
        have hml := mkS_le (l := mk) i
        generalize mkS (mk.take i) = M at *
        repeat' (first
| ((with_reducible apply opsF.op rfl); case hs => first | exact tHT | exact tHS)
| (with_reducible first | apply opsF.nil | apply seqF.nn | apply vcF.seq | apply vcF.region | apply vcF.skip | apply vcF.block | apply vcF.exit | apply vcF.ret | apply vcF.loop | apply seqF.e | apply seqF.r | apply blkF.nn | apply blkF.e | apply blkF.r | apply blkF.o rfl)
| ((with_reducible apply opsF.call); case hx => exact tAG)
| ((with_reducible apply vcF.cond); case hx => exact tEV) <;> ((intro hc; try simp only [Int.reduceLT, Int.reduceLE, Int.reduceEq, Int.reduceNe, Int.cast_ofNat_Int, Int.reduceNeg, reduceCtorEq, ne_eq, ge_iff_le, gt_iff_lt, beq_iff_eq, beq_eq_false_iff_ne, bne_iff_ne, bne_eq_false_iff_eq, nrm, *] at hc) <;> try (exfalso; omega))
| ((with_reducible apply opsF.callv); (case hf => exact tEV); case hx => exact tCV)
| ((with_reducible first | apply retF.r | apply retF.nn); case hv => exact tRS)
| ((refine Call.use (hI _) ?_)))
        refine ⟨i + 1, by omega, rfl, g1, g4, g5, g58, g59, rfl, ?_, by omega⟩
        rw [htk]
        rfl
      · obtain rfl : i = mk.length := by omega
        rw [List.take_length] at g8
        generalize mkS mk = M at *
        have hS3 : ((pre ++ kv K8 M) ++ [10]) ++ bdS bd = T := by rw [← hS2]; simp
        clear hS2
        unfold K8 at hS3 hSl hkl
        repeat' (first
| ((with_reducible apply opsF.op rfl); case hs => first | exact tHT | exact tHS)
| (with_reducible first | apply opsF.nil | apply seqF.nn | apply vcF.seq | apply vcF.region | apply vcF.skip | apply vcF.block | apply vcF.exit | apply vcF.ret | apply vcF.loop | apply seqF.e | apply seqF.r | apply blkF.nn | apply blkF.e | apply blkF.r | apply blkF.o rfl)
| ((with_reducible apply opsF.call); case hx => exact tAG)
| ((with_reducible apply vcF.cond); case hx => exact tEV) <;> ((intro hc; try simp only [Int.reduceLT, Int.reduceLE, Int.reduceEq, Int.reduceNe, Int.cast_ofNat_Int, Int.reduceNeg, reduceCtorEq, ne_eq, ge_iff_le, gt_iff_lt, beq_iff_eq, beq_eq_false_iff_ne, bne_iff_ne, bne_eq_false_iff_eq, nrm, *] at hc) <;> try (exfalso; omega))
| ((with_reducible apply opsF.callv); (case hf => exact tEV); case hx => exact tCV)
| ((with_reducible first | apply retF.r | apply retF.nn); case hv => exact tRS)
| ((refine (eline_call (h.n + 1) _ _ _ _ hB (by omega)).mono fun u h2 hp => ?_); obtain ⟨hB2, hx⟩ := hp; replace hM := (hx.objs h.n (by have := hB.1; omega) (by omega)).trans hM; replace hE := Ext.transX hE hx (fun i (hi : h.n + 1 ≤ i) => (by omega)) (fun t ht => ht.elim); replace hB := hB2; clear hB2 hx)
| ((refine (ws_call (h.n + 1) _ _ _ hB (by simp only [List.length_append, List.length_cons, List.length_nil]; omega)).mono fun u h2 hp => ?_); obtain ⟨rfl, hB2, hx⟩ := hp; replace hM := (hx.objs h.n (by have := hB.1; omega) (by omega)).trans hM; replace hE := Ext.transX hE hx (fun i (hi : h.n + 1 ≤ i) => (by omega)) (fun t ht => ht.elim); replace hB := hB2; clear hB2 hx))
        refine LpF.ind rfl (fun i : Nat => bd.length - i) (fun i σ hh => ∃ (pre : L8), Ext h hh ∧ hh.objs h.n = some (.cells [.v (.int .i64 n1), .v (.int .i64 n2), .v (.int .i64 n3), .v (.int .i64 n4), .v (.int .i64 n5), .v (.string (bs f)), .list 1 (srows rc) t1, .list 1 (irows mk) t2, .list 1 (srows bd) t3]) ∧ Bld hh (h.n + 1) pre ∧ σ 4 = .ptr (h.n + 1) 0 ∧ σ 74 = .list 1 (srows bd) t3 ∧ σ 75 = .v (.int .i64 (bd.length : Nat)) ∧ σ 76 = .v (.int .i64 (i : Nat)) ∧ i ≤ bd.length ∧ pre ≠ [] ∧ pre ++ bdS (bd.drop i) = T) ?_ (i := 0)
          ⟨_, hE, hM, hB, g4, rfl, by first | rfl | (rw [← e3]; rfl), rfl, Nat.zero_le _, by simp, hS3⟩
        clear hE hM hB hS3 g1 g4 g5 g58 g59 g60 g8
        rintro i σ hh ⟨pre, hE, hM, hB, g4, g74, g75, g76, hi, hpn, hS⟩
        rcases Nat.lt_or_ge i bd.length with hlt | hge
        · obtain ⟨x, hx⟩ : ∃ x, bd[i]? = some x := ⟨_, List.getElem?_eq_getElem hlt⟩
          have hS2 : (pre ++ (x ++ [10])) ++ bdS (bd.drop (i + 1)) = T := by rw [← hS, bdS_drop hx]; simp
          have hSl : pre.length + (x ++ [10]).length ≤ 10000000000000 := by
            have := congrArg List.length hS2
            simp only [List.length_append] at this ⊢
            omega
          have hxl : x.length ≤ 10000000000000 := by rw [List.length_append] at hSl; omega
          clear hS
          repeat' (first
| ((with_reducible apply opsF.op rfl); case hs => first | exact tHT | exact tHS)
| (with_reducible first | apply opsF.nil | apply seqF.nn | apply vcF.seq | apply vcF.region | apply vcF.skip | apply vcF.block | apply vcF.exit | apply vcF.ret | apply vcF.loop | apply seqF.e | apply seqF.r | apply blkF.nn | apply blkF.e | apply blkF.r | apply blkF.o rfl)
| ((with_reducible apply opsF.call); case hx => exact tAG)
| ((with_reducible apply vcF.cond); case hx => exact tEV) <;> ((intro hc; try simp only [Int.reduceLT, Int.reduceLE, Int.reduceEq, Int.reduceNe, Int.cast_ofNat_Int, Int.reduceNeg, reduceCtorEq, ne_eq, ge_iff_le, gt_iff_lt, beq_iff_eq, beq_eq_false_iff_ne, bne_iff_ne, bne_eq_false_iff_eq, nrm, *] at hc) <;> try (exfalso; omega))
| ((with_reducible apply opsF.callv); (case hf => exact tEV); case hx => exact tCV)
| ((with_reducible first | apply retF.r | apply retF.nn); case hv => exact tRS)
| ((refine (ws_call (h.n + 1) _ (x ++ [10]) _ hB (by omega)).mono fun u h2 hp => ?_); obtain ⟨rfl, hB2, hx⟩ := hp; replace hM := (hx.objs h.n (by have := hB.1; omega) (by omega)).trans hM; replace hE := Ext.transX hE hx (fun i (hi : h.n + 1 ≤ i) => (by omega)) (fun t ht => ht.elim); replace hB := hB2; clear hB2 hx))
          exact ⟨i + 1, by omega, _, hE, hM, hB, g4, g74, g75, rfl, by omega, by simp, hS2⟩
        · obtain rfl : i = bd.length := by omega
          rw [List.drop_length, bdS, List.append_nil] at hS
          subst hS
          have hsc := str_call (w0 := w0) (h.n + 1) pre hh hB hpn (by omega)
          repeat' (first
| ((with_reducible apply opsF.op rfl); case hs => first | exact tHT | exact tHS)
| (with_reducible first | apply opsF.nil | apply seqF.nn | apply vcF.seq | apply vcF.region | apply vcF.skip | apply vcF.block | apply vcF.exit | apply vcF.ret | apply vcF.loop | apply seqF.e | apply seqF.r | apply blkF.nn | apply blkF.e | apply blkF.r | apply blkF.o rfl)
| ((with_reducible apply opsF.call); case hx => exact tAG)
| ((with_reducible apply vcF.cond); case hx => exact tEV) <;> ((intro hc; try simp only [Int.reduceLT, Int.reduceLE, Int.reduceEq, Int.reduceNe, Int.cast_ofNat_Int, Int.reduceNeg, reduceCtorEq, ne_eq, ge_iff_le, gt_iff_lt, beq_iff_eq, beq_eq_false_iff_ne, bne_iff_ne, bne_eq_false_iff_eq, nrm, *] at hc) <;> try (exfalso; omega))
| ((with_reducible apply opsF.callv); (case hf => exact tEV); case hx => exact tCV)
| ((with_reducible first | apply retF.r | apply retF.nn); case hv => exact tRS)
| ((refine Call.use hsc ?_)))
          all_goals exact ⟨rfl, hE⟩
end Go.Abs.F
namespace Go.Abs.F
open Go Go.Abs
set_option maxRecDepth 10000
set_option maxHeartbeats 20000000
set_option linter.unusedSimpArgs false
set_option linter.unusedVariables false
variable {w0 : World}
end Go.Abs.F
/- Layer 12: Encode. -/
namespace Go.Abs.F
open Go Go.Abs
set_option maxRecDepth 10000
set_option maxHeartbeats 20000000
set_option linter.unusedSimpArgs false
set_option linter.unusedVariables false
variable {w0 : World}
theorem wnum_lit (c : Int) (size : Nat) (hc : c = (size : Int)) (id : Nat) (h0 : AH) (pre : L8) (n : Nat) (h : AH) (hw : Wr h0 h id pre) (hn : n ≤ 1099511627776) (hs : size ≤ 6) (hp : pre.length ≤ 1000000000) :
    Call P w0 bin_writer_num [.ptr id 0, .v (.int .i64 (n : Nat)), .v (.int .i64 c)] h (fun v h' => Wr h0 h' id (pre ++ numW size n)) := by
  rw [hc]
  exact wnum_call id h0 pre n size h hw hn hs hp
def binV (m : Msg) : AV := if goodM m = true then .tup [.list 1 (brows (bytesM m)) .no, .v (.int .i64 0)] else .tup [.list 1 [] .full, .v (.int .i64 2)]
theorem textsB_len {l : List L8} {K : Nat} (h : ∀ s ∈ l, s.length ≤ K) : (textsB l).length ≤ l.length * (K + 6) := by
  induction l with
  | nil => simp [textsB]
  | cons x l ih =>
    have h1 := h x (by simp)
    have h2 := ih fun s hs => h s (by simp [hs])
    simp only [textsB, textB, List.length_append, List.length_cons, Nat.add_mul, numW_len]
    omega
theorem textsB_size (l : List L8) : (textsB l).length = bsizeS l := by
  induction l with
  | nil => rfl
  | cons x l ih => simp only [textsB, textB, List.length_append, numW_len, bsizeS, ih]; omega
theorem bytes_len {m : Msg} (hm : MOk m) (hg : goodM m = true) : (bytesM m).length ≤ 100000000 := by
  simp only [goodM, Bool.and_eq_true, bodyS, decide_eq_true_eq] at hg
  obtain ⟨⟨⟨⟨⟨⟨⟨_, _⟩, h1⟩, hr⟩, _⟩, hk⟩, _⟩, _, hb⟩ := hg
  have a1 := textsB_len hm.rs
  have m1 : m.2.2.2.2.2.2.1.length * (1000000 + 6) ≤ 20 * (1000000 + 6) := Nat.mul_le_mul_right _ hr
  have a2 := textsB_size m.2.2.2.2.2.2.2.2
  have hf := hm.f
  simp only [bytesM, List.length_append, textB, numW_len, List.length_cons, marksB, List.length_map, a2]
  omega
theorem textsB_drop {l : List L8} {i : Nat} {x : L8} (hx : l[i]? = some x) : textsB (l.drop i) = textB x ++ textsB (l.drop (i + 1)) := by rw [drop_step hx, textsB]
theorem marksB_drop {l : List Int} {i : Nat} {k : Nat} (hx : l[i]? = some (k : Int)) (hk : k ≤ 2) : marksB (l.drop i) = numW 1 k ++ marksB (l.drop (i + 1)) := by
  rw [drop_step hx]
  have : k % 256 = k := by omega
  simp [marksB, numW, this]
theorem time_le {n : Int} (h : timeS n = true) : ∃ k : Nat, n = (k : Int) ∧ k ≤ 1099511627776 := by
  simp only [timeS, Bool.and_eq_true, decide_eq_true_eq] at h
  exact ⟨n.toNat, by omega, by omega⟩
theorem bencode_raw (m : Msg) (t1 t2 t3 : Tok) (h : AH) (hm : MOk m) : Call P w0 bin_Encode [.agg (msgC m t1 t2 t3)] h (fun v h' => v.le (binV m) ∧ Ext h h') := by
  have hG := fun h => egood_call (w0 := w0) m t1 t2 t3 h hm
  have xl := srows_len
  have xg := srows_get
  have yl := irows_len
  have yg := irows_get
  rw [binV]
  refine Call.bodyF b_bin_Encode rfl rfl ?_
  unfold c_bin_Encode
  cases hg : goodM m with
  | false =>
    rw [hg] at hG
    obtain ⟨n1, n2, n3, n4, n5, f, rc, mk, bd⟩ := m
    unfold msgC at hG ⊢
    dsimp only at hG ⊢
    clear hg
    repeat' (first
| ((with_reducible apply opsF.op rfl); case hs => first | exact tHT | exact tHS)
| (with_reducible first | apply opsF.nil | apply seqF.nn | apply vcF.seq | apply vcF.region | apply vcF.skip | apply vcF.block | apply vcF.exit | apply vcF.ret | apply vcF.loop | apply seqF.e | apply seqF.r | apply blkF.nn | apply blkF.e | apply blkF.r | apply blkF.o rfl)
| ((with_reducible apply opsF.call); case hx => exact tAG)
| ((with_reducible apply vcF.cond); case hx => exact tEV) <;> ((intro hc; try simp only [Int.reduceLT, Int.reduceLE, Int.reduceEq, Int.reduceNe, Int.cast_ofNat_Int, Int.reduceNeg, reduceCtorEq, ne_eq, ge_iff_le, gt_iff_lt, beq_iff_eq, beq_eq_false_iff_ne, bne_iff_ne, bne_eq_false_iff_eq, nrm, *] at hc) <;> try (exfalso; omega))
| ((with_reducible first | apply retF.r | apply retF.nn); case hv => exact tRS)
| ((refine Call.use (hG _) ?_)))
    all_goals exact ⟨.refl _, Ext.alloc _ _⟩
  | true =>
    have htl := bytes_len hm hg
    rw [hg] at hG
    obtain ⟨n1, n2, n3, n4, n5, f, rc, mk, bd⟩ := m
    simp only [goodM, numsS, Bool.and_eq_true, decide_eq_true_eq] at hg
    obtain ⟨⟨⟨⟨⟨⟨⟨⟨⟨⟨⟨q1, q2⟩, q3⟩, q4⟩, q5⟩, _⟩, _⟩, _⟩, _⟩, _⟩, rm⟩, _⟩ := hg
    obtain ⟨a, rfl, ha⟩ := time_le q1
    obtain ⟨b, rfl, hb⟩ := time_le q2
    obtain ⟨c, rfl, hc⟩ := time_le q3
    obtain ⟨d, rfl, hd⟩ := time_le q4
    obtain ⟨e, rfl, he⟩ := time_le q5
    clear q1 q2 q3 q4 q5
    obtain ⟨zf, zr, zrs, zm, zb, zbs⟩ := hm
    simp only at zf zr zrs zm zb zbs
    have e1 := srows_len rc
    have e2 := irows_len mk
    have e3 := srows_len bd
    obtain ⟨T, hT⟩ : ∃ T, bytesM ((a : Int), (b : Int), (c : Int), (d : Int), (e : Int), f, rc, mk, bd) = T := ⟨_, rfl⟩
    rw [hT] at htl
    rw [if_pos rfl, hT]
    have hS : (((((((([2] ++ numW 6 a) ++ numW 6 b) ++ numW 6 c) ++ numW 6 d) ++ numW 6 e) ++ textB f) ++ numW 2 rc.length)) ++ (textsB rc ++ (numW 2 mk.length ++ (marksB mk ++ (numW 4 bd.length ++ textsB bd)))) = T := by
      rw [← hT]; simp [bytesM]
    have hSl := congrArg List.length hS
    simp only [List.length_append, List.length_nil, List.length_cons, numW_len] at hSl
    clear hT
    unfold msgC at hG ⊢
    dsimp only at hG ⊢
    obtain ⟨CS, hCS⟩ : ∃ CS, CS = [AV.v (.int .i64 (a : Int)), .v (.int .i64 (b : Int)), .v (.int .i64 (c : Int)), .v (.int .i64 (d : Int)), .v (.int .i64 (e : Int)), .v (.string (bs f)), .list 1 (srows rc) t1, .list 1 (irows mk) t2, .list 1 (srows bd) t3] := ⟨_, rfl⟩
    have hM : ((h.alloc (.cells CS)).alloc (.cells [.list 1 (brows [2]) .full])).objs h.n = some (.cells CS) := by simp [alloc_at, alloc_n]
    obtain ⟨H0, hH0, hX, hW⟩ : ∃ H0, H0 = h.alloc (.cells CS) ∧ H0.n = h.n + 1 ∧ Wr H0 ((h.alloc (.cells CS)).alloc (.cells [.list 1 (brows [2]) .full])) (h.n + 1) [2] := ⟨_, rfl, alloc_n _ _, ⟨by simp [alloc_n], by simp [alloc_n], Ext.alloc _ _, .full, by simp [alloc_at, alloc_n], trivial, fun t ht => by cases ht⟩⟩
    have hM0 : H0.objs h.n = some (.cells CS) := by rw [hH0]; simp [alloc_at, alloc_n]
    subst hCS
    repeat' (first
| ((with_reducible apply opsF.op rfl); case hs => first | exact tHT | exact tHS)
| (with_reducible first | apply opsF.nil | apply seqF.nn | apply vcF.seq | apply vcF.region | apply vcF.skip | apply vcF.block | apply vcF.exit | apply vcF.ret | apply vcF.loop | apply seqF.e | apply seqF.r | apply blkF.nn | apply blkF.e | apply blkF.r | apply blkF.o rfl)
| ((with_reducible apply opsF.call); case hx => exact tAG)
| ((with_reducible apply vcF.cond); case hx => exact tEV) <;> ((intro hc; try simp only [Int.reduceLT, Int.reduceLE, Int.reduceEq, Int.reduceNe, Int.cast_ofNat_Int, Int.reduceNeg, reduceCtorEq, ne_eq, ge_iff_le, gt_iff_lt, beq_iff_eq, beq_eq_false_iff_ne, bne_iff_ne, bne_eq_false_iff_eq, nrm, *] at hc) <;> try (exfalso; omega))
| ((with_reducible first | apply retF.r | apply retF.nn); case hv => exact tRS)
| ((refine Call.use (hG _) ?_)))
    repeat' (first
| ((with_reducible apply opsF.op rfl); case hs => first | exact tHT | exact tHS)
| (with_reducible first | apply opsF.nil | apply seqF.nn | apply vcF.seq | apply vcF.region | apply vcF.skip | apply vcF.block | apply vcF.exit | apply vcF.ret | apply vcF.loop | apply seqF.e | apply seqF.r | apply blkF.nn | apply blkF.e | apply blkF.r | apply blkF.o rfl)
| ((with_reducible apply opsF.call); case hx => exact tAG)
| ((with_reducible apply vcF.cond); case hx => exact tEV) <;> ((intro hc; try simp only [Int.reduceLT, Int.reduceLE, Int.reduceEq, Int.reduceNe, Int.cast_ofNat_Int, Int.reduceNeg, reduceCtorEq, ne_eq, ge_iff_le, gt_iff_lt, beq_iff_eq, beq_eq_false_iff_ne, bne_iff_ne, bne_eq_false_iff_eq, nrm, *] at hc) <;> try (exfalso; omega))
| ((with_reducible first | apply retF.r | apply retF.nn); case hv => exact tRS)
| with_reducible apply LpF.unfold rfl
| ((refine (wnum_lit 6 6 rfl (h.n + 1) H0 _ _ _ hW (by omega) (by omega) (by simp only [List.length_append, numW_len, List.length_cons, List.length_nil] <;> omega)).mono fun u h2 hp => ?_); replace hM := (hp.ext.objs h.n (by omega)).trans hM0; replace hW := hp; clear hp))
    repeat' (first
| ((with_reducible apply opsF.op rfl); case hs => first | exact tHT | exact tHS)
| (with_reducible first | apply opsF.nil | apply seqF.nn | apply vcF.seq | apply vcF.region | apply vcF.skip | apply vcF.block | apply vcF.exit | apply vcF.ret | apply vcF.loop | apply seqF.e | apply seqF.r | apply blkF.nn | apply blkF.e | apply blkF.r | apply blkF.o rfl)
| ((with_reducible apply opsF.call); case hx => exact tAG)
| ((with_reducible apply vcF.cond); case hx => exact tEV) <;> ((intro hc; try simp only [Int.reduceLT, Int.reduceLE, Int.reduceEq, Int.reduceNe, Int.cast_ofNat_Int, Int.reduceNeg, reduceCtorEq, ne_eq, ge_iff_le, gt_iff_lt, beq_iff_eq, beq_eq_false_iff_ne, bne_iff_ne, bne_eq_false_iff_eq, nrm, *] at hc) <;> try (exfalso; omega))
| ((with_reducible first | apply retF.r | apply retF.nn); case hv => exact tRS)
| ((refine (wnum_lit 2 2 rfl (h.n + 1) H0 _ _ _ hW (by omega) (by omega) (by simp only [List.length_append, numW_len, List.length_cons, List.length_nil] <;> omega)).mono fun u h2 hp => ?_); replace hM := (hp.ext.objs h.n (by omega)).trans hM0; replace hW := hp; clear hp)
| ((refine (wtext_call (h.n + 1) H0 _ _ _ hW (by omega) (by simp only [List.length_append, numW_len, List.length_cons, List.length_nil] <;> omega)).mono fun u h2 hp => ?_); replace hM := (hp.ext.objs h.n (by omega)).trans hM0; replace hW := hp; clear hp))
    clear hG hSl hc ha hb hd he
    refine LpF.ind rfl (fun i : Nat => rc.length - i) (fun i σ hh => ∃ (pre : L8), Wr H0 hh (h.n + 1) pre ∧ σ 1 = .ptr h.n 0 ∧ σ 4 = .ptr (h.n + 1) 0 ∧ σ 47 = .list 1 (srows rc) t1 ∧ σ 48 = .v (.int .i64 (rc.length : Nat)) ∧ σ 49 = .v (.int .i64 (i : Nat)) ∧ i ≤ rc.length ∧ pre ++ (textsB (rc.drop i) ++ (numW 2 mk.length ++ (marksB mk ++ (numW 4 bd.length ++ textsB bd)))) = T) ?_ (i := 0)
      ⟨_, hW, rfl, rfl, rfl, by first | rfl | (rw [← e1]; rfl), rfl, Nat.zero_le _, hS⟩
    clear hM hW hS
    rintro i σ hh ⟨pre, hW, g1, g4, g47, g48, g49, hi, hS⟩
    have hM := (hW.ext.objs h.n (by omega)).trans hM0
    rcases Nat.lt_or_ge i rc.length with hlt | hge
    · obtain ⟨x, hx⟩ : ∃ x, rc[i]? = some x := ⟨_, List.getElem?_eq_getElem hlt⟩
      have hxl := zrs x (List.mem_of_getElem? hx)
      have hS2 : (pre ++ textB x) ++ (textsB (rc.drop (i + 1)) ++ (numW 2 mk.length ++ (marksB mk ++ (numW 4 bd.length ++ textsB bd)))) = T := by rw [← hS, textsB_drop hx]; simp
      have hSl : pre.length ≤ 100000000 := by
        have := congrArg List.length hS2
        simp only [List.length_append] at this
        omega
      clear hS
      repeat' (first
| ((with_reducible apply opsF.op rfl); case hs => first | exact tHT | exact tHS)
| (with_reducible first | apply opsF.nil | apply seqF.nn | apply vcF.seq | apply vcF.region | apply vcF.skip | apply vcF.block | apply vcF.exit | apply vcF.ret | apply vcF.loop | apply seqF.e | apply seqF.r | apply blkF.nn | apply blkF.e | apply blkF.r | apply blkF.o rfl)
| ((with_reducible apply opsF.call); case hx => exact tAG)
| ((with_reducible apply vcF.cond); case hx => exact tEV) <;> ((intro hc; try simp only [Int.reduceLT, Int.reduceLE, Int.reduceEq, Int.reduceNe, Int.cast_ofNat_Int, Int.reduceNeg, reduceCtorEq, ne_eq, ge_iff_le, gt_iff_lt, beq_iff_eq, beq_eq_false_iff_ne, bne_iff_ne, bne_eq_false_iff_eq, nrm, *] at hc) <;> try (exfalso; omega))
| ((with_reducible first | apply retF.r | apply retF.nn); case hv => exact tRS)
| ((refine (wtext_call (h.n + 1) H0 _ _ _ hW (by omega) (by omega)).mono fun u h2 hp => ?_); replace hM := (hp.ext.objs h.n (by omega)).trans hM0; replace hW := hp; clear hp))
      exact ⟨i + 1, by omega, _, hW, g1, g4, g47, g48, rfl, by omega, hS2⟩
    · obtain rfl : i = rc.length := by omega
      rw [List.drop_length] at hS
      have hS2 : (pre ++ numW 2 mk.length) ++ (marksB mk ++ (numW 4 bd.length ++ textsB bd)) = T := by rw [← hS]; simp [textsB]
      have hSl : pre.length ≤ 100000000 := by
        have := congrArg List.length hS2
        simp only [List.length_append] at this
        omega
      clear hS
      repeat' (first
| ((with_reducible apply opsF.op rfl); case hs => first | exact tHT | exact tHS)
| (with_reducible first | apply opsF.nil | apply seqF.nn | apply vcF.seq | apply vcF.region | apply vcF.skip | apply vcF.block | apply vcF.exit | apply vcF.ret | apply vcF.loop | apply seqF.e | apply seqF.r | apply blkF.nn | apply blkF.e | apply blkF.r | apply blkF.o rfl)
| ((with_reducible apply opsF.call); case hx => exact tAG)
| ((with_reducible apply vcF.cond); case hx => exact tEV) <;> ((intro hc; try simp only [Int.reduceLT, Int.reduceLE, Int.reduceEq, Int.reduceNe, Int.cast_ofNat_Int, Int.reduceNeg, reduceCtorEq, ne_eq, ge_iff_le, gt_iff_lt, beq_iff_eq, beq_eq_false_iff_ne, bne_iff_ne, bne_eq_false_iff_eq, nrm, *] at hc) <;> try (exfalso; omega))
| ((with_reducible first | apply retF.r | apply retF.nn); case hv => exact tRS)
| ((refine (wnum_lit 2 2 rfl (h.n + 1) H0 _ _ _ hW (by omega) (by omega) (by omega)).mono fun u h2 hp => ?_); replace hM := (hp.ext.objs h.n (by omega)).trans hM0; replace hW := hp; clear hp))
      refine LpF.ind rfl (fun i : Nat => mk.length - i) (fun i σ hh => ∃ (pre : L8), Wr H0 hh (h.n + 1) pre ∧ σ 1 = .ptr h.n 0 ∧ σ 4 = .ptr (h.n + 1) 0 ∧ σ 63 = .list 1 (irows mk) t2 ∧ σ 64 = .v (.int .i64 (mk.length : Nat)) ∧ σ 65 = .v (.int .i64 (i : Nat)) ∧ i ≤ mk.length ∧ pre ++ (marksB (mk.drop i) ++ (numW 4 bd.length ++ textsB bd)) = T) ?_ (i := 0)
        ⟨_, hW, g1, g4, rfl, by first | rfl | (rw [← e2]; rfl), rfl, Nat.zero_le _, hS2⟩
      clear hM hW hS2 hSl g1 g4 g47 g48 g49
      rintro i σ hh ⟨pre, hW, g1, g4, g47, g48, g49, hi, hS⟩
      have hM := (hW.ext.objs h.n (by omega)).trans hM0
      rcases Nat.lt_or_ge i mk.length with hlt | hge
      · obtain ⟨x, hx⟩ : ∃ x, mk[i]? = some x := ⟨_, List.getElem?_eq_getElem hlt⟩
        have hmx : markS x = true := List.all_eq_true.1 rm x (List.mem_of_getElem? hx)
        simp only [markS, Bool.and_eq_true, decide_eq_true_eq] at hmx
        obtain ⟨k, rfl⟩ : ∃ k : Nat, x = (k : Int) := ⟨x.toNat, by omega⟩
        have hk : k ≤ 2 := by omega
        have hS2 : (pre ++ numW 1 k) ++ (marksB (mk.drop (i + 1)) ++ (numW 4 bd.length ++ textsB bd)) = T := by rw [← hS, marksB_drop hx hk]; simp
        have hSl : pre.length ≤ 100000000 := by
          have := congrArg List.length hS2
          simp only [List.length_append] at this
          omega
        clear hS
        repeat' (first
| ((with_reducible apply opsF.op rfl); case hs => first | exact tHT | exact tHS)
| (with_reducible first | apply opsF.nil | apply seqF.nn | apply vcF.seq | apply vcF.region | apply vcF.skip | apply vcF.block | apply vcF.exit | apply vcF.ret | apply vcF.loop | apply seqF.e | apply seqF.r | apply blkF.nn | apply blkF.e | apply blkF.r | apply blkF.o rfl)
| ((with_reducible apply opsF.call); case hx => exact tAG)
| ((with_reducible apply vcF.cond); case hx => exact tEV) <;> ((intro hc; try simp only [Int.reduceLT, Int.reduceLE, Int.reduceEq, Int.reduceNe, Int.cast_ofNat_Int, Int.reduceNeg, reduceCtorEq, ne_eq, ge_iff_le, gt_iff_lt, beq_iff_eq, beq_eq_false_iff_ne, bne_iff_ne, bne_eq_false_iff_eq, nrm, *] at hc) <;> try (exfalso; omega))
| ((with_reducible first | apply retF.r | apply retF.nn); case hv => exact tRS)
| ((refine (wnum_lit 1 1 rfl (h.n + 1) H0 _ _ _ hW (by omega) (by omega) (by omega)).mono fun u h2 hp => ?_); replace hM := (hp.ext.objs h.n (by omega)).trans hM0; replace hW := hp; clear hp))
        exact ⟨i + 1, by omega, _, hW, g1, g4, g47, g48, rfl, by omega, hS2⟩
      · obtain rfl : i = mk.length := by omega
        rw [List.drop_length] at hS
        have hS2 : (pre ++ numW 4 bd.length) ++ textsB bd = T := by rw [← hS]; simp [marksB]
        have hSl : pre.length ≤ 100000000 := by
          have := congrArg List.length hS2
          simp only [List.length_append] at this
          omega
        clear hS
        repeat' (first
| ((with_reducible apply opsF.op rfl); case hs => first | exact tHT | exact tHS)
| (with_reducible first | apply opsF.nil | apply seqF.nn | apply vcF.seq | apply vcF.region | apply vcF.skip | apply vcF.block | apply vcF.exit | apply vcF.ret | apply vcF.loop | apply seqF.e | apply seqF.r | apply blkF.nn | apply blkF.e | apply blkF.r | apply blkF.o rfl)
| ((with_reducible apply opsF.call); case hx => exact tAG)
| ((with_reducible apply vcF.cond); case hx => exact tEV) <;> ((intro hc; try simp only [Int.reduceLT, Int.reduceLE, Int.reduceEq, Int.reduceNe, Int.cast_ofNat_Int, Int.reduceNeg, reduceCtorEq, ne_eq, ge_iff_le, gt_iff_lt, beq_iff_eq, beq_eq_false_iff_ne, bne_iff_ne, bne_eq_false_iff_eq, nrm, *] at hc) <;> try (exfalso; omega))
| ((with_reducible first | apply retF.r | apply retF.nn); case hv => exact tRS)
| ((refine (wnum_lit 4 4 rfl (h.n + 1) H0 _ _ _ hW (by omega) (by omega) (by omega)).mono fun u h2 hp => ?_); replace hM := (hp.ext.objs h.n (by omega)).trans hM0; replace hW := hp; clear hp))
        refine LpF.ind rfl (fun i : Nat => bd.length - i) (fun i σ hh => ∃ (pre : L8), Wr H0 hh (h.n + 1) pre ∧ σ 1 = .ptr h.n 0 ∧ σ 4 = .ptr (h.n + 1) 0 ∧ σ 79 = .list 1 (srows bd) t3 ∧ σ 80 = .v (.int .i64 (bd.length : Nat)) ∧ σ 81 = .v (.int .i64 (i : Nat)) ∧ i ≤ bd.length ∧ pre ++ textsB (bd.drop i) = T) ?_ (i := 0)
          ⟨_, hW, g1, g4, rfl, by first | rfl | (rw [← e3]; rfl), rfl, Nat.zero_le _, hS2⟩
        clear hM hW hS2 hSl g1 g4 g47 g48 g49
        rintro i σ hh ⟨pre, hW, g1, g4, g47, g48, g49, hi, hS⟩
        have hM := (hW.ext.objs h.n (by omega)).trans hM0
        rcases Nat.lt_or_ge i bd.length with hlt | hge
        · obtain ⟨x, hx⟩ : ∃ x, bd[i]? = some x := ⟨_, List.getElem?_eq_getElem hlt⟩
          have hxl := zbs x (List.mem_of_getElem? hx)
          have hS2 : (pre ++ textB x) ++ textsB (bd.drop (i + 1)) = T := by rw [← hS, textsB_drop hx]; simp
          have hSl : pre.length ≤ 100000000 := by
            have := congrArg List.length hS2
            simp only [List.length_append] at this
            omega
          clear hS
          repeat' (first
| ((with_reducible apply opsF.op rfl); case hs => first | exact tHT | exact tHS)
| (with_reducible first | apply opsF.nil | apply seqF.nn | apply vcF.seq | apply vcF.region | apply vcF.skip | apply vcF.block | apply vcF.exit | apply vcF.ret | apply vcF.loop | apply seqF.e | apply seqF.r | apply blkF.nn | apply blkF.e | apply blkF.r | apply blkF.o rfl)
| ((with_reducible apply opsF.call); case hx => exact tAG)
| ((with_reducible apply vcF.cond); case hx => exact tEV) <;> ((intro hc; try simp only [Int.reduceLT, Int.reduceLE, Int.reduceEq, Int.reduceNe, Int.cast_ofNat_Int, Int.reduceNeg, reduceCtorEq, ne_eq, ge_iff_le, gt_iff_lt, beq_iff_eq, beq_eq_false_iff_ne, bne_iff_ne, bne_eq_false_iff_eq, nrm, *] at hc) <;> try (exfalso; omega))
| ((with_reducible first | apply retF.r | apply retF.nn); case hv => exact tRS)
| ((refine (wtext_call (h.n + 1) H0 _ _ _ hW (by omega) (by omega)).mono fun u h2 hp => ?_); replace hM := (hp.ext.objs h.n (by omega)).trans hM0; replace hW := hp; clear hp))
          exact ⟨i + 1, by omega, _, hW, g1, g4, g47, g48, rfl, by omega, hS2⟩
        · obtain rfl : i = bd.length := by omega
          rw [List.drop_length, textsB, List.append_nil] at hS
          subst hS
          obtain ⟨tk, hO, _, _⟩ := hW.ob
          have hE : Ext h hh := (hH0 ▸ Ext.alloc h _).trans hW.ext
          repeat' (first
| ((with_reducible apply opsF.op rfl); case hs => first | exact tHT | exact tHS)
| (with_reducible first | apply opsF.nil | apply seqF.nn | apply vcF.seq | apply vcF.region | apply vcF.skip | apply vcF.block | apply vcF.exit | apply vcF.ret | apply vcF.loop | apply seqF.e | apply seqF.r | apply blkF.nn | apply blkF.e | apply blkF.r | apply blkF.o rfl)
| ((with_reducible apply opsF.call); case hx => exact tAG)
| ((with_reducible apply vcF.cond); case hx => exact tEV) <;> ((intro hc; try simp only [Int.reduceLT, Int.reduceLE, Int.reduceEq, Int.reduceNe, Int.cast_ofNat_Int, Int.reduceNeg, reduceCtorEq, ne_eq, ge_iff_le, gt_iff_lt, beq_iff_eq, beq_eq_false_iff_ne, bne_iff_ne, bne_eq_false_iff_eq, nrm, *] at hc) <;> try (exfalso; omega))
| ((with_reducible first | apply retF.r | apply retF.nn); case hv => exact tRS))
          all_goals exact ⟨.tup (.cons .noTok (.cons (.refl _) .nil)), hE⟩
theorem binV_plain (m : Msg) : Plain (binV m) := by
  unfold binV
  split
  · refine Plain.tupv fun x hx => ?_
    simp only [List.mem_cons, List.not_mem_nil, or_false] at hx
    rcases hx with rfl | rfl
    · refine Plain.listv trivial fun r hr x hx => ?_
      simp only [brows, List.mem_map] at hr
      obtain ⟨b, _, rfl⟩ := hr
      rw [List.mem_singleton.1 hx]; exact .v _
    · exact .v _
  · refine Plain.tupv fun x hx => ?_
    simp only [List.mem_cons, List.not_mem_nil, or_false] at hx
    rcases hx with rfl | rfl
    · exact Plain.listv trivial fun r hr x hx => by cases hr
    · exact .v _
theorem bencode_call (m : Msg) (t1 t2 t3 : Tok) (h : AH) (hm : MOk m) : Call P w0 bin_Encode [.agg (msgC m t1 t2 t3)] h (fun v h' => v = binV m ∧ h' = h) := Call.pure (binV_plain m) ((bencode_raw m t1 t2 t3 h hm).weak fun v h' hq => ⟨_, _, hq.1, .refl _, rfl, hq.2⟩)
end Go.Abs.F
