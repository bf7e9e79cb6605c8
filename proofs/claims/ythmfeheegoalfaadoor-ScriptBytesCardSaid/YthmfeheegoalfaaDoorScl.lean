/- Layer 26: what its laws call first. -/
import Derived.Test.YthmfeheegoalfaaDoorPri
import Derived.Test.YthmfeheegoalfaaDoorAbsW
namespace Go.Abs.F
open Go Go.Abs
set_option maxRecDepth 10000
set_option maxHeartbeats 20000000
set_option linter.unusedSimpArgs false
set_option linter.unusedVariables false
variable {w0 : World}
/-! the plain side, more -/
theorem parseT_good : ∀ (m : Nat) (s : List UInt8) (k : Nat) (acc : List St), s.length ≤ m → 0 < k → (parseT k s acc).1 = 0 → ∃ l, (parseT k s acc).2 = acc ++ l ∧ l.all stFits = true
  | m, [], k, acc, _, _, _ => by rw [parseT_nil]; exact ⟨[], by simp, rfl⟩
  | m + 1, x :: s, k, acc, hm, hk, h => by
    generalize hs : x :: s = t at hm h ⊢
    have hne : t ≠ [] := by rw [← hs]; simp
    clear hs
    rcases cutB_cases 10 t with ⟨h1, h2⟩ | ⟨a, r, rfl, h2, h3⟩
    · rw [parseT_cut h1 hne] at h
      simp at h; omega
    · cases hx : stepO (splB 32 a) with
      | none =>
        rw [parseT_bad h2 hx] at h
        simp at h; omega
      | some y =>
        rw [parseT_ok h2 hx] at h ⊢
        have hr : r.length ≤ m := by simp at hm; omega
        obtain ⟨l, e1, e2⟩ := parseT_good m r (k + 1) (acc ++ [y]) hr (by omega) h
        exact ⟨y :: l, by rw [e1]; simp, by rw [List.all_cons, (stepO_some hx).2, e2]; rfl⟩
theorem parseS_good {s : List UInt8} (h : (parseS s).2.2 = 0) : goodS (parseS s).1 (parseS s).2.1 = true := by
  rcases cutB_cases 10 s with ⟨h1, h2⟩ | ⟨a, r, rfl, h2, h3⟩
  · rw [parseS_none (.inr (by rw [h2]))] at h
    simp at h
  · cases hx : roomO (splB 32 a) with
    | none =>
      rw [parseS_none (.inl (by rw [h3]; exact hx))] at h
      simp at h
    | some n =>
      rw [parseS_hit h2 hx] at h ⊢
      unfold parFin at h ⊢
      split at h
      · rename_i h0
        obtain ⟨l, e1, e2⟩ := parseT_good r.length r 2 [] (Nat.le_refl _) (by omega) h0
        rw [if_pos h0, e1, goodS, (roomO_some hx).2]
        simpa using e2
      · rename_i h0
        exact absurd h h0
theorem stepsS_ge : ∀ l : List St, l.length ≤ (stepsS l).length ∧ ∀ x ∈ l, x.2.2.2.length ≤ (stepsS l).length
  | [] => ⟨Nat.le_refl _, fun x h => by cases h⟩
  | x :: l => by
    obtain ⟨h1, h2⟩ := stepsS_ge l
    simp only [stepsS, List.length_append, List.length_cons]
    have h3 : x.2.2.2.length + 1 ≤ (stepS x).length := by
      simp only [stepS, joinB, wordsS, List.length_append, List.length_cons, hexS_len]
      omega
    refine ⟨by omega, fun y hy => ?_⟩
    rcases List.mem_cons.1 hy with rfl | hy
    · omega
    · have := h2 y hy
      omega
theorem stFits_in {l : List St} (h : l.all stFits = true) {x : St} (hx : x ∈ l) : inR x.1 ∧ inR x.2.1 ∧ inR x.2.2.1 := by
  have := List.all_eq_true.1 h x hx
  simp only [stFits, Bool.and_eq_true, fitsS_iff] at this
  refine ⟨⟨by omega, by omega⟩, ⟨by omega, by omega⟩, ⟨by omega, by omega⟩⟩
theorem stOk_parse {s : List UInt8} (h : (parseS s).2.2 = 0) (hl : s.length ≤ 100000) : inR (parseS s).1 ∧ StOk (parseS s).2.1 := by
  have hg := parseS_good h
  have hp := (parseS_reads s).1 h
  simp only [goodS, Bool.and_eq_true] at hg
  have h1 := fitsS_iff.1 hg.1
  have h2 := stepsS_ge (parseS s).2.1
  have h3 : (stepsS (parseS s).2.1).length ≤ s.length := by
    conv => rhs; rw [← hp]
    rw [printS, List.length_append]; omega
  exact ⟨⟨by omega, by omega⟩, ⟨by omega, fun x hx => by have := h2.2 x hx; omega, fun x hx => (stFits_in hg.2 hx).1, fun x hx => (stFits_in hg.2 hx).2.1, fun x hx => (stFits_in hg.2 hx).2.2⟩⟩
/-! what the laws call -/
def txtSum : List St → Nat
  | [] => 0
  | x :: l => x.2.2.2.length + txtSum l
theorem txtSum_app (l m : List St) : txtSum (l ++ m) = txtSum l + txtSum m := by
  induction l with
  | nil => simp [txtSum]
  | cons x l ih => simp only [List.cons_append, txtSum, ih]; omega
theorem txtSum_take (l : List St) (i : Nat) : txtSum (l.take i) ≤ txtSum l := by
  conv => rhs; rw [← List.take_append_drop i l, txtSum_app]
  omega
def smallS (l : List St) : Bool := decide (l.length + txtSum l < 2000)
theorem small_call (l : List St) (tok : Tok) (h : AH) (hl : l.length ≤ 140737488355328) (ht : ∀ x ∈ l, x.2.2.2.length ≤ 140737488355328) : Call P w0 law26_small [.list 4 (trows l) tok] h (fun v h' => v = .v (.bool (smallS l)) ∧ h' = h) := by
  have xl := trows_len
  have xg := trows_get
  refine Call.bodyF b_law26_small rfl rfl ?_
  unfold c_law26_small
  repeat' (first
    | ((with_reducible apply opsF.op rfl); (case hs => (first | exact tHT | exact tHS)))
    | with_reducible (first | apply opsF.nil | apply seqF.nn | apply vcF.seq | apply vcF.region | apply vcF.dregion | apply vcF.skip | apply vcF.block | apply vcF.exit | apply vcF.ret | apply vcF.loop | apply seqF.e | apply seqF.r | apply blkF.nn | apply blkF.e | apply blkF.r | apply blkF.o rfl | apply dopsF.nil | apply stabsF.nil | apply stabsF.cons | apply dopsF.cont)
    | ((with_reducible apply opsF.call); (case hx => exact tAG))
    | ((with_reducible apply opsF.want); (case hg => exact tEV); (case hb => exact tNB))
    | ((with_reducible apply opsF.skip); (case hg => exact tEV); (case hb => exact tNB))
    | (first | ((with_reducible apply opsF.case); (case hg => exact tEV)) | ((with_reducible apply vcF.cond); (case hx => exact tEV)) | ((with_reducible apply dopsF.case); (case hg => exact tEV))) <;> ((intro hc; try simp only [Int.reduceLT, Int.reduceLE, Int.reduceEq, Int.reduceNe, Int.cast_ofNat_Int, Int.reduceNeg, decide_true, decide_false, not_true_eq_false, not_false_eq_true, decide_eq_true_eq, decide_eq_false_iff_not, Bool.not_eq_true', Bool.not_eq_false', Bool.not_true, Bool.not_false, Bool.false_eq_true, Bool.true_eq_false, Bool.not_eq_true, Bool.not_eq_false, beq_iff_eq, beq_eq_false_iff_ne, bne_iff_ne, bne_eq_false_iff_eq, ne_eq, Int.not_lt, Int.not_le, ge_iff_le, gt_iff_lt, Decidable.not_not, reduceCtorEq, *] at hc) <;> (try (exfalso; omega)))
    | ((with_reducible apply opsF.und); (case hg => rfl))
    | ((with_reducible apply opsF.callv); (case hf => exact tEV); (case hx => exact tCV))
    | ((with_reducible apply dopsF.op rfl); (case hs => (first | exact tHT | exact tHS)))
    | ((with_reducible apply dopsF.call); (case hx => exact tAG))
    | ((with_reducible apply dopsF.want); (case hg => exact tEV); (case hb => exact tNB))
    | ((with_reducible apply dopsF.skip); (case hg => exact tEV); (case hb => exact tNB))
    | ((with_reducible apply dopsF.und); (case hg => rfl))
    | ((with_reducible apply stabF.und); rfl)
    | ((with_reducible apply stabF.want); (case hg => exact tEV); (case hb => exact tNB))
    | ((with_reducible apply stabF.skip); (case hg => exact tEV); (case hb => exact tNB))
    | ((with_reducible apply stabF.op); (case hs => (first | exact tHT | exact tHS)); (case hv => exact tSV))
    | ((with_reducible apply retF.r); (case hv => exact tRS))
    | ((with_reducible apply retF.nn); (case hv => exact tRS)))
  refine LpF.ind rfl (fun i : Nat => l.length - i) (fun i σ h' => h' = h ∧ σ 0 = .list 4 (trows l) tok ∧ σ 3 = .v (.int .i64 ((l.length + txtSum (l.take i) : Nat) : Int)) ∧ σ 4 = .v (.int .i64 (i : Nat)) ∧ i ≤ l.length) ?_ (i := 0) ⟨rfl, rfl, rfl, rfl, Nat.zero_le _⟩
  rintro i σ h' ⟨rfl, h0, h3, h4, hi⟩
  have hts := txtSum_take l i
  rcases Nat.lt_or_ge i l.length with hlt | hge
  · obtain ⟨x, hx⟩ : ∃ x, l[i]? = some x := ⟨_, List.getElem?_eq_getElem hlt⟩
    have hxl := ht x (List.mem_of_getElem? hx)
    have htk : txtSum (l.take (i + 1)) = txtSum (l.take i) + x.2.2.2.length := by
      rw [List.take_add_one, hx, Option.toList_some, txtSum_app]; rfl
    generalize hm : l.length + txtSum (l.take i) = m at *
    rcases Nat.lt_or_ge m 2000 with hm2 | hm2
    · repeat' (first
    | ((with_reducible apply opsF.op rfl); (case hs => (first | exact tHT | exact tHS)))
    | with_reducible (first | apply opsF.nil | apply seqF.nn | apply vcF.seq | apply vcF.region | apply vcF.dregion | apply vcF.skip | apply vcF.block | apply vcF.exit | apply vcF.ret | apply vcF.loop | apply seqF.e | apply seqF.r | apply blkF.nn | apply blkF.e | apply blkF.r | apply blkF.o rfl | apply dopsF.nil | apply stabsF.nil | apply stabsF.cons | apply dopsF.cont)
    | ((with_reducible apply opsF.call); (case hx => exact tAG))
    | ((with_reducible apply opsF.want); (case hg => exact tEV); (case hb => exact tNB))
    | ((with_reducible apply opsF.skip); (case hg => exact tEV); (case hb => exact tNB))
    | (first | ((with_reducible apply opsF.case); (case hg => exact tEV)) | ((with_reducible apply vcF.cond); (case hx => exact tEV)) | ((with_reducible apply dopsF.case); (case hg => exact tEV))) <;> ((intro hc; try simp only [Int.reduceLT, Int.reduceLE, Int.reduceEq, Int.reduceNe, Int.cast_ofNat_Int, Int.reduceNeg, decide_true, decide_false, not_true_eq_false, not_false_eq_true, decide_eq_true_eq, decide_eq_false_iff_not, Bool.not_eq_true', Bool.not_eq_false', Bool.not_true, Bool.not_false, Bool.false_eq_true, Bool.true_eq_false, Bool.not_eq_true, Bool.not_eq_false, beq_iff_eq, beq_eq_false_iff_ne, bne_iff_ne, bne_eq_false_iff_eq, ne_eq, Int.not_lt, Int.not_le, ge_iff_le, gt_iff_lt, Decidable.not_not, reduceCtorEq, *] at hc) <;> (try (exfalso; omega)))
    | ((with_reducible apply opsF.und); (case hg => rfl))
    | ((with_reducible apply opsF.callv); (case hf => exact tEV); (case hx => exact tCV))
    | ((with_reducible apply dopsF.op rfl); (case hs => (first | exact tHT | exact tHS)))
    | ((with_reducible apply dopsF.call); (case hx => exact tAG))
    | ((with_reducible apply dopsF.want); (case hg => exact tEV); (case hb => exact tNB))
    | ((with_reducible apply dopsF.skip); (case hg => exact tEV); (case hb => exact tNB))
    | ((with_reducible apply dopsF.und); (case hg => rfl))
    | ((with_reducible apply stabF.und); rfl)
    | ((with_reducible apply stabF.want); (case hg => exact tEV); (case hb => exact tNB))
    | ((with_reducible apply stabF.skip); (case hg => exact tEV); (case hb => exact tNB))
    | ((with_reducible apply stabF.op); (case hs => (first | exact tHT | exact tHS)); (case hv => exact tSV))
    | ((with_reducible apply retF.r); (case hv => exact tRS))
    | ((with_reducible apply retF.nn); (case hv => exact tRS)))
      refine ⟨i + 1, by omega, rfl, h0, ?_, rfl, by omega⟩
      conv => lhs; whnf
      rw [htk, ← Nat.add_assoc, hm]
      rfl
    · have hs : smallS l = false := by rw [smallS, decide_eq_false]; omega
      rw [hs]
      repeat' (first
    | ((with_reducible apply opsF.op rfl); (case hs => (first | exact tHT | exact tHS)))
    | with_reducible (first | apply opsF.nil | apply seqF.nn | apply vcF.seq | apply vcF.region | apply vcF.dregion | apply vcF.skip | apply vcF.block | apply vcF.exit | apply vcF.ret | apply vcF.loop | apply seqF.e | apply seqF.r | apply blkF.nn | apply blkF.e | apply blkF.r | apply blkF.o rfl | apply dopsF.nil | apply stabsF.nil | apply stabsF.cons | apply dopsF.cont)
    | ((with_reducible apply opsF.call); (case hx => exact tAG))
    | ((with_reducible apply opsF.want); (case hg => exact tEV); (case hb => exact tNB))
    | ((with_reducible apply opsF.skip); (case hg => exact tEV); (case hb => exact tNB))
    | (first | ((with_reducible apply opsF.case); (case hg => exact tEV)) | ((with_reducible apply vcF.cond); (case hx => exact tEV)) | ((with_reducible apply dopsF.case); (case hg => exact tEV))) <;> ((intro hc; try simp only [Int.reduceLT, Int.reduceLE, Int.reduceEq, Int.reduceNe, Int.cast_ofNat_Int, Int.reduceNeg, decide_true, decide_false, not_true_eq_false, not_false_eq_true, decide_eq_true_eq, decide_eq_false_iff_not, Bool.not_eq_true', Bool.not_eq_false', Bool.not_true, Bool.not_false, Bool.false_eq_true, Bool.true_eq_false, Bool.not_eq_true, Bool.not_eq_false, beq_iff_eq, beq_eq_false_iff_ne, bne_iff_ne, bne_eq_false_iff_eq, ne_eq, Int.not_lt, Int.not_le, ge_iff_le, gt_iff_lt, Decidable.not_not, reduceCtorEq, *] at hc) <;> (try (exfalso; omega)))
    | ((with_reducible apply opsF.und); (case hg => rfl))
    | ((with_reducible apply opsF.callv); (case hf => exact tEV); (case hx => exact tCV))
    | ((with_reducible apply dopsF.op rfl); (case hs => (first | exact tHT | exact tHS)))
    | ((with_reducible apply dopsF.call); (case hx => exact tAG))
    | ((with_reducible apply dopsF.want); (case hg => exact tEV); (case hb => exact tNB))
    | ((with_reducible apply dopsF.skip); (case hg => exact tEV); (case hb => exact tNB))
    | ((with_reducible apply dopsF.und); (case hg => rfl))
    | ((with_reducible apply stabF.und); rfl)
    | ((with_reducible apply stabF.want); (case hg => exact tEV); (case hb => exact tNB))
    | ((with_reducible apply stabF.skip); (case hg => exact tEV); (case hb => exact tNB))
    | ((with_reducible apply stabF.op); (case hs => (first | exact tHT | exact tHS)); (case hv => exact tSV))
    | ((with_reducible apply retF.r); (case hv => exact tRS))
    | ((with_reducible apply retF.nn); (case hv => exact tRS)))
      all_goals first
        | (refine ⟨?_, rfl⟩; simp; omega)
        | (exfalso; omega)
  · obtain rfl : i = l.length := by omega
    rw [List.take_length] at h3
    have hs : smallS l = decide (l.length + txtSum l < 2000) := rfl
    rw [hs]
    generalize l.length + txtSum l = m at *
    repeat' (first
    | ((with_reducible apply opsF.op rfl); (case hs => (first | exact tHT | exact tHS)))
    | with_reducible (first | apply opsF.nil | apply seqF.nn | apply vcF.seq | apply vcF.region | apply vcF.dregion | apply vcF.skip | apply vcF.block | apply vcF.exit | apply vcF.ret | apply vcF.loop | apply seqF.e | apply seqF.r | apply blkF.nn | apply blkF.e | apply blkF.r | apply blkF.o rfl | apply dopsF.nil | apply stabsF.nil | apply stabsF.cons | apply dopsF.cont)
    | ((with_reducible apply opsF.call); (case hx => exact tAG))
    | ((with_reducible apply opsF.want); (case hg => exact tEV); (case hb => exact tNB))
    | ((with_reducible apply opsF.skip); (case hg => exact tEV); (case hb => exact tNB))
    | (first | ((with_reducible apply opsF.case); (case hg => exact tEV)) | ((with_reducible apply vcF.cond); (case hx => exact tEV)) | ((with_reducible apply dopsF.case); (case hg => exact tEV))) <;> ((intro hc; try simp only [Int.reduceLT, Int.reduceLE, Int.reduceEq, Int.reduceNe, Int.cast_ofNat_Int, Int.reduceNeg, decide_true, decide_false, not_true_eq_false, not_false_eq_true, decide_eq_true_eq, decide_eq_false_iff_not, Bool.not_eq_true', Bool.not_eq_false', Bool.not_true, Bool.not_false, Bool.false_eq_true, Bool.true_eq_false, Bool.not_eq_true, Bool.not_eq_false, beq_iff_eq, beq_eq_false_iff_ne, bne_iff_ne, bne_eq_false_iff_eq, ne_eq, Int.not_lt, Int.not_le, ge_iff_le, gt_iff_lt, Decidable.not_not, reduceCtorEq, *] at hc) <;> (try (exfalso; omega)))
    | ((with_reducible apply opsF.und); (case hg => rfl))
    | ((with_reducible apply opsF.callv); (case hf => exact tEV); (case hx => exact tCV))
    | ((with_reducible apply dopsF.op rfl); (case hs => (first | exact tHT | exact tHS)))
    | ((with_reducible apply dopsF.call); (case hx => exact tAG))
    | ((with_reducible apply dopsF.want); (case hg => exact tEV); (case hb => exact tNB))
    | ((with_reducible apply dopsF.skip); (case hg => exact tEV); (case hb => exact tNB))
    | ((with_reducible apply dopsF.und); (case hg => rfl))
    | ((with_reducible apply stabF.und); rfl)
    | ((with_reducible apply stabF.want); (case hg => exact tEV); (case hb => exact tNB))
    | ((with_reducible apply stabF.skip); (case hg => exact tEV); (case hb => exact tNB))
    | ((with_reducible apply stabF.op); (case hs => (first | exact tHT | exact tHS)); (case hv => exact tSV))
    | ((with_reducible apply retF.r); (case hv => exact tRS))
    | ((with_reducible apply retF.nn); (case hv => exact tRS)))
    all_goals (refine ⟨?_, rfl⟩; simp; try omega)
def ansL : List St := [(2, 1, 0, [97])]
def ansT : List UInt8 := [114, 111, 111, 109, 32, 57, 10, 115, 116, 101, 112, 32, 50, 32, 49, 32, 48, 32, 120, 54, 49, 10]
theorem ans_print : printS 9 ansL = ansT := by
  simp [printS, ansL, ansT, roomS, joinB, stepsS, stepS, wordsS, decS, udecS, hexS, hexG, hexd]
theorem ans_good : goodS 9 ansL = true := by decide
theorem ans_ok : StOk ansL := ⟨by decide, by decide, by simp [ansL, inR], by simp [ansL, inR], by simp [ansL, inR]⟩
theorem ans_parse : parseS ansT = (9, ansL, 0) := by rw [← ans_print]; exact parseS_print ans_good
theorem answers_call (hT : PowTab w0) (hE : ErrVars w0) (h : AH) : Call P w0 law26_answers [] h (fun v h' => v = .v (.bool true) ∧ Ext h h') := by
  have hp : printV 9 ansL = .tup [.v (.string (bs ansT)), .v (.int .i64 0)] := by rw [printV, if_pos ans_good, ans_print]
  have hq : ∀ tk, parV (parseS ansT) tk = .tup [.v (.int .i64 9), .list 4 (trows ansL) tk, .v (.int .i64 0), .v (.int .i64 0)] := fun tk => by rw [ans_parse]; rfl
  have hT2 : ∀ h', (Call P w0 script_Parse [.v (.string (bs ansT))] h' fun v h'' => (∃ tk, v = .tup [.v (.int .i64 9), .list 4 (trows ansL) tk, .v (.int .i64 0), .v (.int .i64 0)]) ∧ Ext h' h'') := fun h' => by
    have := parse_call (w0 := w0) hT hE ansT h' (by decide)
    simp only [hq] at this
    exact this
  have hP2 : ∀ h', (Call P w0 script_Print [.v (.int .i64 9), .list 4 (trows ansL) .full] h' fun v h'' => v = .tup [.v (.string (bs ansT)), .v (.int .i64 0)] ∧ Ext h' h'') := fun h' => by
    have := pprint_call (w0 := w0) hT 9 ansL .full h' (by simp [inR]) ans_ok
    rw [hp] at this
    exact this
  have hta : trows ansL = [[.v (.int .i64 2), .v (.int .i64 1), .v (.int .i64 0), .v (.string (bs [97]))]] := rfl
  rw [hta] at hT2 hP2
  refine Call.bodyF b_law26_answers rfl rfl ?_
  unfold c_law26_answers
  repeat' (first
    | ((with_reducible apply opsF.op rfl); (case hs => (first | exact tHT | exact tHS)))
    | with_reducible (first | apply opsF.nil | apply seqF.nn | apply vcF.seq | apply vcF.region | apply vcF.dregion | apply vcF.skip | apply vcF.block | apply vcF.exit | apply vcF.ret | apply vcF.loop | apply seqF.e | apply seqF.r | apply blkF.nn | apply blkF.e | apply blkF.r | apply blkF.o rfl | apply dopsF.nil | apply stabsF.nil | apply stabsF.cons | apply dopsF.cont)
    | ((with_reducible apply opsF.call); (case hx => exact tAG))
    | ((with_reducible apply opsF.want); (case hg => exact tEV); (case hb => exact tNB))
    | ((with_reducible apply opsF.skip); (case hg => exact tEV); (case hb => exact tNB))
    | (first | ((with_reducible apply opsF.case); (case hg => exact tEV)) | ((with_reducible apply vcF.cond); (case hx => exact tEV)) | ((with_reducible apply dopsF.case); (case hg => exact tEV))) <;> ((intro hc; try simp only [Int.reduceLT, Int.reduceLE, Int.reduceEq, Int.reduceNe, Int.cast_ofNat_Int, Int.reduceNeg, decide_true, decide_false, not_true_eq_false, not_false_eq_true, decide_eq_true_eq, decide_eq_false_iff_not, Bool.not_eq_true', Bool.not_eq_false', Bool.not_true, Bool.not_false, Bool.false_eq_true, Bool.true_eq_false, Bool.not_eq_true, Bool.not_eq_false, beq_iff_eq, beq_eq_false_iff_ne, bne_iff_ne, bne_eq_false_iff_eq, ne_eq, Int.not_lt, Int.not_le, ge_iff_le, gt_iff_lt, Decidable.not_not, reduceCtorEq, *] at hc) <;> (try (exfalso; omega)))
    | ((with_reducible apply opsF.und); (case hg => rfl))
    | ((with_reducible apply opsF.callv); (case hf => exact tEV); (case hx => exact tCV))
    | ((with_reducible apply dopsF.op rfl); (case hs => (first | exact tHT | exact tHS)))
    | ((with_reducible apply dopsF.call); (case hx => exact tAG))
    | ((with_reducible apply dopsF.want); (case hg => exact tEV); (case hb => exact tNB))
    | ((with_reducible apply dopsF.skip); (case hg => exact tEV); (case hb => exact tNB))
    | ((with_reducible apply dopsF.und); (case hg => rfl))
    | ((with_reducible apply stabF.und); rfl)
    | ((with_reducible apply stabF.want); (case hg => exact tEV); (case hb => exact tNB))
    | ((with_reducible apply stabF.skip); (case hg => exact tEV); (case hb => exact tNB))
    | ((with_reducible apply stabF.op); (case hs => (first | exact tHT | exact tHS)); (case hv => exact tSV))
    | ((with_reducible apply retF.r); (case hv => exact tRS))
    | ((with_reducible apply retF.nn); (case hv => exact tRS))
    | ((refine (hP2 _).mono fun v h' hp => ?_); obtain ⟨rfl, he⟩ := hp; have hN := he.n; have hO := he.objs; (try simp only [alloc_n, set_n, newTok_n, bump_n] at hN hO))
    | ((refine (hT2 _).mono fun v h2 hp => ?_); obtain ⟨⟨tk, rfl⟩, he2⟩ := hp; have hN := he2.n; have hO := he2.objs; (try simp only [alloc_n, set_n, newTok_n, bump_n] at hN hO)))
  exact ⟨by simp, he.trans he2⟩
end Go.Abs.F
