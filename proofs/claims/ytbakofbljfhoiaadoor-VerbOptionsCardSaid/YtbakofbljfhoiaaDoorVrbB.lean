/- Layer 3: MAIL, RCPT. Layer 3: commands: the program's. Layer 3: commands: the reference's. -/
import Derived.Test.YtbakofbljfhoiaaDoorVrbA
namespace Go.Abs.F
open Go Go.Abs
set_option maxRecDepth 10000
set_option maxHeartbeats 20000000
set_option linter.unusedSimpArgs false
set_option linter.unusedVariables false
variable {w0 : World}
theorem pathW_mem {lead rest m : List UInt8} {ws : List (List UInt8)} (hl : rest.length ≤ 1000000000) (h : pathW lead rest = some (m, ws)) : (∀ w ∈ ws, w.length ≤ 1000000000) ∧ ws.length ≤ 1000000001 := by
  unfold pathW at h
  split at h
  · have hdl : (rest.drop lead.length).length ≤ rest.length := by rw [List.length_drop]; omega
    have hsl := splB_len (c := 32) (rest.drop lead.length).length (Nat.le_refl _)
    cases hp : pathO ((splB 32 (rest.drop lead.length)).headD []) with
    | none => rw [hp] at h; cases h
    | some x =>
      rw [hp, Option.map_some] at h
      injection h with h
      injection h with h1 h2
      subst h2
      refine ⟨fun w hw => ?_, by rw [List.length_tail]; omega⟩
      have := splB_mem (rest.drop lead.length).length (Nat.le_refl _) (List.mem_of_mem_tail hw)
      omega
  · cases h
theorem mail1_call (hE : ErrVars w0) (i j : Nat) (nm ar : List UInt8) (st : OS) (w : List UInt8) (h : AH) (k : VO h i j nm ar st) (hl : w.length ≤ 1000000000) :
    Call P w0 verb_mail_1 [.v (.string (bs w)), .ptr i 0, .ptr j 0] h (fun v h' => v = .v (.int .i64 (optS st w).1) ∧ VO h' i j nm ar (optS st w).2 ∧ ExtX (fun x => x = i ∨ x = j) (fun _ => False) h h') := by
  have ho := option_call hE i j nm ar st w h k hl
  refine Call.bodyF b_verb_mail_1 rfl rfl ?_
  unfold c_verb_mail_1
  repeat' (first
    | ((with_reducible apply opsF.op rfl); (case hs => (first | exact tHT | exact tHS)))
    | with_reducible (first | apply opsF.nil | apply seqF.nn | apply vcF.seq | apply vcF.region | apply vcF.skip | apply vcF.ret | apply seqF.r)
    | ((with_reducible apply opsF.call); (case hx => exact tAG))
    | (first | ((with_reducible apply vcF.cond); (case hx => exact tEV))) <;> ((intro hc; try simp only [Int.reduceLT, Int.reduceLE, Int.reduceEq, Int.reduceNe, Int.cast_ofNat_Int, Int.reduceNeg, decide_true, decide_false, not_true_eq_false, not_false_eq_true, decide_eq_true_eq, decide_eq_false_iff_not, Bool.not_eq_true', Bool.not_eq_false', Bool.not_true, Bool.not_false, Bool.false_eq_true, Bool.true_eq_false, Bool.not_eq_true, Bool.not_eq_false, beq_iff_eq, beq_eq_false_iff_ne, bne_iff_ne, bne_eq_false_iff_eq, ne_eq, Int.not_lt, Int.not_le, ge_iff_le, gt_iff_lt, Decidable.not_not, reduceCtorEq, *] at hc) <;> (try (exfalso; omega)))
    | ((with_reducible apply retF.r); (case hv => exact tRS))
    | ((with_reducible apply retF.nn); (case hv => exact tRS))
    | ((refine ho.mono fun v h2 hp => ?_); obtain ⟨rfl, hp2⟩ := hp))
  all_goals exact ⟨rfl, hp2⟩
theorem meach_call (hE : ErrVars w0) (i j : Nat) (nm ar : List UInt8) (st : OS) (ws : List (List UInt8)) (tk : Tok) (h : AH) (hw : ∀ w ∈ ws, w.length ≤ 1000000000) (hl : ws.length ≤ 1000000001) (k : VO h i j nm ar st) :
    Call P w0 verb_each [.list 1 (srows ws) tk, .func (.func verb_mail_1) [] [.ptr i 0, .ptr j 0]] h (fun v h' => v = .v (.int .i64 (eachG optS st 0 ws).1) ∧ VO h' i j nm ar (eachG optS st 0 ws).2 ∧ ExtX (fun x => x = i ∨ x = j) (fun _ => False) h h') :=
  each_call verb_mail_1 [.ptr i 0, .ptr j 0] optS (fun st h' => VO h' i j nm ar st ∧ ExtX (fun x => x = i ∨ x = j) (fun _ => False) h h') ws tk
    (fun w hm st' h' hR => (mail1_call hE i j nm ar st' w h' hR.1 (hw w hm)).mono fun v h2 hp => ⟨hp.1, hp.2.1, hR.2.trans hp.2.2⟩)
    st h ⟨k, .of (.refl _)⟩ (by omega)
theorem rcpt1_call (w : List UInt8) (h : AH) (hl : w.length ≤ 1000000000) : Call P w0 verb_rcpt_1 [.v (.string (bs w))] h (fun v h' => v = .v (.int .i64 (rcptO w)) ∧ h' = h) := by
  have hcut := fun h => cut_call (w0 := w0) w 61 h (by omega)
  refine Call.bodyF b_verb_rcpt_1 rfl rfl ?_
  unfold c_verb_rcpt_1 rcptO
  generalize cutB 61 w = q at *
  obtain ⟨a, r, ok⟩ := q
  simp only [] at hcut ⊢
  by_cases ha : a = []
  · rw [if_pos ha]
    repeat' (first
    | ((with_reducible apply opsF.op rfl); (case hs => (first | exact tHT | exact tHS)))
    | with_reducible (first | apply opsF.nil | apply seqF.nn | apply vcF.seq | apply vcF.region | apply vcF.skip | apply vcF.ret | apply seqF.r)
    | ((with_reducible apply opsF.call); (case hx => exact tAG))
    | (first | ((with_reducible apply vcF.cond); (case hx => exact tEV))) <;> ((intro hc; try simp only [Int.reduceLT, Int.reduceLE, Int.reduceEq, Int.reduceNe, Int.cast_ofNat_Int, Int.reduceNeg, decide_true, decide_false, not_true_eq_false, not_false_eq_true, decide_eq_true_eq, decide_eq_false_iff_not, Bool.not_eq_true', Bool.not_eq_false', Bool.not_true, Bool.not_false, Bool.false_eq_true, Bool.true_eq_false, Bool.not_eq_true, Bool.not_eq_false, beq_iff_eq, beq_eq_false_iff_ne, bne_iff_ne, bne_eq_false_iff_eq, ne_eq, Int.not_lt, Int.not_le, ge_iff_le, gt_iff_lt, Decidable.not_not, reduceCtorEq, *] at hc) <;> (try (exfalso; omega)))
    | ((with_reducible apply retF.r); (case hv => exact tRS))
    | ((with_reducible apply retF.nn); (case hv => exact tRS))
    | ((refine (hcut _).mono fun v h2 hp => ?_); obtain ⟨rfl, rfl⟩ := hp))
    all_goals exact ⟨rfl, rfl⟩
  · rw [if_neg ha]
    repeat' (first
    | ((with_reducible apply opsF.op rfl); (case hs => (first | exact tHT | exact tHS)))
    | with_reducible (first | apply opsF.nil | apply seqF.nn | apply vcF.seq | apply vcF.region | apply vcF.skip | apply vcF.ret | apply seqF.r)
    | ((with_reducible apply opsF.call); (case hx => exact tAG))
    | (first | ((with_reducible apply vcF.cond); (case hx => exact tEV))) <;> ((intro hc; try simp only [Int.reduceLT, Int.reduceLE, Int.reduceEq, Int.reduceNe, Int.cast_ofNat_Int, Int.reduceNeg, decide_true, decide_false, not_true_eq_false, not_false_eq_true, decide_eq_true_eq, decide_eq_false_iff_not, Bool.not_eq_true', Bool.not_eq_false', Bool.not_true, Bool.not_false, Bool.false_eq_true, Bool.true_eq_false, Bool.not_eq_true, Bool.not_eq_false, beq_iff_eq, beq_eq_false_iff_ne, bne_iff_ne, bne_eq_false_iff_eq, ne_eq, Int.not_lt, Int.not_le, ge_iff_le, gt_iff_lt, Decidable.not_not, reduceCtorEq, *] at hc) <;> (try (exfalso; omega)))
    | ((with_reducible apply retF.r); (case hv => exact tRS))
    | ((with_reducible apply retF.nn); (case hv => exact tRS))
    | ((refine (hcut _).mono fun v h2 hp => ?_); obtain ⟨rfl, rfl⟩ := hp))
    all_goals exact ⟨rfl, rfl⟩
theorem reach_call (ws : List (List UInt8)) (tk : Tok) (h : AH) (hw : ∀ w ∈ ws, w.length ≤ 1000000000) (hl : ws.length ≤ 1000000001) :
    Call P w0 verb_each [.list 1 (srows ws) tk, .func (.func verb_rcpt_1) [] []] h (fun v h' => v = .v (.int .i64 (eachG (fun (_ : Unit) w => (rcptO w, ())) () 0 ws).1) ∧ h' = h) :=
  each_call verb_rcpt_1 [] (fun (_ : Unit) w => (rcptO w, ())) (fun _ h' => h' = h) ws tk
    (fun w hm st' h' hR => by
      subst hR
      exact rcpt1_call w _ (hw w hm)) () h rfl (by omega)
theorem mail_call (hE : ErrVars w0) (nm rest : List UInt8) (h : AH) (hl : rest.length ≤ 1000000000) : Call P w0 verb_mail [verbA (nm, [], -1, false), .v (.string (bs rest))] h (fun v h' => v = codeV (mailS nm rest) ∧ Ext h h') := by
  have hpa := fun h => vpath_call (w0 := w0) [70, 82, 79, 77, 58] rest h hl (by decide)
  unfold verbA codeV mailS
  simp only []
  refine Call.bodyF b_verb_mail rfl rfl ?_
  unfold c_verb_mail
  cases hq : pathW [70, 82, 79, 77, 58] rest with
  | none =>
    rw [hq] at hpa
    unfold PathP at hpa
    simp only [] at hpa ⊢
    repeat' (first
    | ((with_reducible apply opsF.op rfl); (case hs => (first | exact tHT | exact tHS)))
    | with_reducible (first | apply opsF.nil | apply seqF.nn | apply vcF.seq | apply vcF.region | apply vcF.skip | apply vcF.ret | apply seqF.r)
    | ((with_reducible apply opsF.call); (case hx => exact tAG))
    | (first | ((with_reducible apply vcF.cond); (case hx => exact tEV))) <;> ((intro hc; try simp only [Int.reduceLT, Int.reduceLE, Int.reduceEq, Int.reduceNe, Int.cast_ofNat_Int, Int.reduceNeg, decide_true, decide_false, not_true_eq_false, not_false_eq_true, decide_eq_true_eq, decide_eq_false_iff_not, Bool.not_eq_true', Bool.not_eq_false', Bool.not_true, Bool.not_false, Bool.false_eq_true, Bool.true_eq_false, Bool.not_eq_true, Bool.not_eq_false, beq_iff_eq, beq_eq_false_iff_ne, bne_iff_ne, bne_eq_false_iff_eq, ne_eq, Int.not_lt, Int.not_le, ge_iff_le, gt_iff_lt, Decidable.not_not, reduceCtorEq, *] at hc) <;> (try (exfalso; omega)))
    | ((with_reducible apply retF.r); (case hv => exact tRS))
    | ((with_reducible apply retF.nn); (case hv => exact tRS))
    | ((refine (hpa _).mono fun v h2 hp => ?_); obtain ⟨⟨m, ws, tk, rfl⟩, he⟩ := hp; have hN := he.n; have hO := he.objs; (try simp only [alloc_n, set_n, newTok_n, bump_n] at hN hO)))
    all_goals exact ⟨rfl, (((Ext.alloc h _).trans (Ext.alloc _ _)).trans he).set (by simp [alloc_n]) _⟩
  | some x =>
    obtain ⟨m, ws⟩ := x
    obtain ⟨hw, hwl⟩ := pathW_mem hl hq
    rw [hq] at hpa
    unfold PathP at hpa
    simp only [] at hpa ⊢
    have hme := fun i j tk h => meach_call (w0 := w0) hE i j nm m (-1, false, false) ws tk h hw hwl
    generalize eachG optS (-1, false, false) 0 ws = r at *
    obtain ⟨c, sz, wd, bd⟩ := r
    simp only [] at *
    repeat' (first
    | ((with_reducible apply opsF.op rfl); (case hs => (first | exact tHT | exact tHS)))
    | with_reducible (first | apply opsF.nil | apply seqF.nn | apply vcF.seq | apply vcF.region | apply vcF.skip | apply vcF.ret | apply seqF.r)
    | ((with_reducible apply opsF.call); (case hx => exact tAG))
    | (first | ((with_reducible apply vcF.cond); (case hx => exact tEV))) <;> ((intro hc; try simp only [Int.reduceLT, Int.reduceLE, Int.reduceEq, Int.reduceNe, Int.cast_ofNat_Int, Int.reduceNeg, decide_true, decide_false, not_true_eq_false, not_false_eq_true, decide_eq_true_eq, decide_eq_false_iff_not, Bool.not_eq_true', Bool.not_eq_false', Bool.not_true, Bool.not_false, Bool.false_eq_true, Bool.true_eq_false, Bool.not_eq_true, Bool.not_eq_false, beq_iff_eq, beq_eq_false_iff_ne, bne_iff_ne, bne_eq_false_iff_eq, ne_eq, Int.not_lt, Int.not_le, ge_iff_le, gt_iff_lt, Decidable.not_not, reduceCtorEq, *] at hc) <;> (try (exfalso; omega)))
    | ((with_reducible apply retF.r); (case hv => exact tRS))
    | ((with_reducible apply retF.nn); (case hv => exact tRS))
    | ((refine (hpa _).mono fun v h2 hp => ?_); obtain ⟨⟨tk, rfl⟩, he⟩ := hp; have hN := he.n; have hO := he.objs; (try simp only [alloc_n, set_n, newTok_n, bump_n] at hN hO))
    | ((refine (hme _ _ _ _ ⟨by simp (disch := omega) only [set_at, alloc_at, alloc_n, set_n, if_neg, if_pos, eq_self, if_true], by simp (disch := omega) only [set_at, alloc_at, alloc_n, set_n, if_neg, if_pos, eq_self, if_true], by simp only [alloc_n, set_n] at *; omega, by simp only [alloc_n, set_n] at *; omega, by simp only [alloc_n, set_n] at *; omega⟩).mono fun v h4 hp => ?_); obtain ⟨rfl, hV, hX⟩ := hp; have hXn := hX.n; have hVv := hV.v; have hVb := hV.b; have hXo := hX.objs (h.n + 1) (by simp only [alloc_n, set_n] at *; omega) (by simp only [alloc_n, set_n] at *; omega); simp only [alloc_n, set_n] at hXn hVv))
    all_goals refine ⟨rfl, (Ext.transX ?_ hX ?_ (fun _ hf => hf.elim)).set (by simp only [alloc_n, set_n] at *; omega) _⟩
    all_goals first
      | (rintro x (rfl | rfl) <;> (simp only [alloc_n, set_n] at *; omega))
      | skip
    all_goals repeat' first
      | exact (((Ext.alloc h _).trans (Ext.alloc _ _)).trans he)
      | refine Ext.set ?_ (by simp only [alloc_n, set_n] at *; omega) _
      | refine Ext.trans ?_ (Ext.alloc _ _)
theorem vrcpt_call (nm rest : List UInt8) (h : AH) (hl : rest.length ≤ 1000000000) : Call P w0 verb_rcpt [verbA (nm, [], -1, false), .v (.string (bs rest))] h (fun v h' => v = codeV (rcptS nm rest) ∧ Ext h h') := by
  have hpa := fun h => vpath_call (w0 := w0) [84, 79, 58] rest h hl (by decide)
  unfold verbA codeV rcptS
  simp only []
  refine Call.bodyF b_verb_rcpt rfl rfl ?_
  unfold c_verb_rcpt
  cases hq : pathW [84, 79, 58] rest with
  | none =>
    rw [hq] at hpa
    unfold PathP at hpa
    simp only [] at hpa ⊢
    repeat' (first
    | ((with_reducible apply opsF.op rfl); (case hs => (first | exact tHT | exact tHS)))
    | with_reducible (first | apply opsF.nil | apply seqF.nn | apply vcF.seq | apply vcF.region | apply vcF.dregion | apply vcF.skip | apply vcF.ret | apply seqF.r | apply dopsF.nil | apply stabsF.nil | apply stabsF.cons | apply dopsF.cont)
    | ((with_reducible apply opsF.call); (case hx => exact tAG))
    | ((with_reducible apply opsF.want); (case hg => exact tEV); (case hb => exact tNB))
    | ((with_reducible apply opsF.skip); (case hg => exact tEV); (case hb => exact tNB))
    | (first | ((with_reducible apply opsF.case); (case hg => exact tEV)) | ((with_reducible apply vcF.cond); (case hx => exact tEV)) | ((with_reducible apply dopsF.case); (case hg => exact tEV))) <;> ((intro hc; try simp only [Int.reduceLT, Int.reduceLE, Int.reduceEq, Int.reduceNe, Int.cast_ofNat_Int, Int.reduceNeg, decide_true, decide_false, not_true_eq_false, not_false_eq_true, decide_eq_true_eq, decide_eq_false_iff_not, Bool.not_eq_true', Bool.not_eq_false', Bool.not_true, Bool.not_false, Bool.false_eq_true, Bool.true_eq_false, Bool.not_eq_true, Bool.not_eq_false, beq_iff_eq, beq_eq_false_iff_ne, bne_iff_ne, bne_eq_false_iff_eq, ne_eq, Int.not_lt, Int.not_le, ge_iff_le, gt_iff_lt, Decidable.not_not, reduceCtorEq, *] at hc) <;> (try (exfalso; omega)))
    | ((with_reducible apply opsF.und); (case hg => rfl))
    | ((with_reducible apply dopsF.op rfl); (case hs => (first | exact tHT | exact tHS)))
    | ((with_reducible apply dopsF.call); (case hx => exact tAG))
    | ((with_reducible apply dopsF.want); (case hg => exact tEV); (case hb => exact tNB))
    | ((with_reducible apply dopsF.skip); (case hg => exact tEV); (case hb => exact tNB))
    | ((with_reducible apply dopsF.und); (case hg => rfl))
    | ((with_reducible apply stabF.und); rfl)
    | ((with_reducible apply stabF.want); (case hg => exact tEV); (case hb => exact tNB))
    | ((with_reducible apply stabF.skip); (case hg => exact tEV); (case hb => exact tNB))
    | ((with_reducible apply stabF.op); (case hs => (first | exact tHT | exact tHS)); (case hv => exact tSV))
    | ((with_reducible apply retF.r); (case hv => exact tRS))
    | ((with_reducible apply retF.nn); (case hv => exact tRS))
    | ((refine (hpa _).mono fun v h2 hp => ?_); obtain ⟨⟨m, ws, tk, rfl⟩, he⟩ := hp; have hN := he.n; have hO := he.objs; (try simp only [alloc_n, set_n, newTok_n, bump_n] at hN hO)))
    all_goals exact ⟨rfl, (((Ext.alloc h _).trans (Ext.alloc _ _)).trans he).set (by simp [alloc_n]) _⟩
  | some x =>
    obtain ⟨m, ws⟩ := x
    obtain ⟨hw, hwl⟩ := pathW_mem hl hq
    rw [hq] at hpa
    unfold PathP at hpa
    simp only [] at hpa ⊢
    have hre := fun tk h => reach_call (w0 := w0) ws tk h hw hwl
    generalize eachG (fun (_ : Unit) w => (rcptO w, ())) () 0 ws = r at *
    obtain ⟨c, u⟩ := r
    simp only [] at *
    by_cases hm : m = []
    · rw [if_pos hm]
      subst hm
      repeat' (first
    | ((with_reducible apply opsF.op rfl); (case hs => (first | exact tHT | exact tHS)))
    | with_reducible (first | apply opsF.nil | apply seqF.nn | apply vcF.seq | apply vcF.region | apply vcF.dregion | apply vcF.skip | apply vcF.ret | apply seqF.r | apply dopsF.nil | apply stabsF.nil | apply stabsF.cons | apply dopsF.cont)
    | ((with_reducible apply opsF.call); (case hx => exact tAG))
    | ((with_reducible apply opsF.want); (case hg => exact tEV); (case hb => exact tNB))
    | ((with_reducible apply opsF.skip); (case hg => exact tEV); (case hb => exact tNB))
    | (first | ((with_reducible apply opsF.case); (case hg => exact tEV)) | ((with_reducible apply vcF.cond); (case hx => exact tEV)) | ((with_reducible apply dopsF.case); (case hg => exact tEV))) <;> ((intro hc; try simp only [Int.reduceLT, Int.reduceLE, Int.reduceEq, Int.reduceNe, Int.cast_ofNat_Int, Int.reduceNeg, decide_true, decide_false, not_true_eq_false, not_false_eq_true, decide_eq_true_eq, decide_eq_false_iff_not, Bool.not_eq_true', Bool.not_eq_false', Bool.not_true, Bool.not_false, Bool.false_eq_true, Bool.true_eq_false, Bool.not_eq_true, Bool.not_eq_false, beq_iff_eq, beq_eq_false_iff_ne, bne_iff_ne, bne_eq_false_iff_eq, ne_eq, Int.not_lt, Int.not_le, ge_iff_le, gt_iff_lt, Decidable.not_not, reduceCtorEq, *] at hc) <;> (try (exfalso; omega)))
    | ((with_reducible apply opsF.und); (case hg => rfl))
    | ((with_reducible apply dopsF.op rfl); (case hs => (first | exact tHT | exact tHS)))
    | ((with_reducible apply dopsF.call); (case hx => exact tAG))
    | ((with_reducible apply dopsF.want); (case hg => exact tEV); (case hb => exact tNB))
    | ((with_reducible apply dopsF.skip); (case hg => exact tEV); (case hb => exact tNB))
    | ((with_reducible apply dopsF.und); (case hg => rfl))
    | ((with_reducible apply stabF.und); rfl)
    | ((with_reducible apply stabF.want); (case hg => exact tEV); (case hb => exact tNB))
    | ((with_reducible apply stabF.skip); (case hg => exact tEV); (case hb => exact tNB))
    | ((with_reducible apply stabF.op); (case hs => (first | exact tHT | exact tHS)); (case hv => exact tSV))
    | ((with_reducible apply retF.r); (case hv => exact tRS))
    | ((with_reducible apply retF.nn); (case hv => exact tRS))
    | ((refine (hpa _).mono fun v h2 hp => ?_); obtain ⟨⟨tk, rfl⟩, he⟩ := hp; have hN := he.n; have hO := he.objs; (try simp only [alloc_n, set_n, newTok_n, bump_n] at hN hO)))
      all_goals exact ⟨rfl, (((Ext.alloc h _).trans (Ext.alloc _ _)).trans he).set (by simp [alloc_n]) _⟩
    · rw [if_neg hm]
      repeat' (first
    | ((with_reducible apply opsF.op rfl); (case hs => (first | exact tHT | exact tHS)))
    | with_reducible (first | apply opsF.nil | apply seqF.nn | apply vcF.seq | apply vcF.region | apply vcF.dregion | apply vcF.skip | apply vcF.ret | apply seqF.r | apply dopsF.nil | apply stabsF.nil | apply stabsF.cons | apply dopsF.cont)
    | ((with_reducible apply opsF.call); (case hx => exact tAG))
    | ((with_reducible apply opsF.want); (case hg => exact tEV); (case hb => exact tNB))
    | ((with_reducible apply opsF.skip); (case hg => exact tEV); (case hb => exact tNB))
    | (first | ((with_reducible apply opsF.case); (case hg => exact tEV)) | ((with_reducible apply vcF.cond); (case hx => exact tEV)) | ((with_reducible apply dopsF.case); (case hg => exact tEV))) <;> ((intro hc; try simp only [Int.reduceLT, Int.reduceLE, Int.reduceEq, Int.reduceNe, Int.cast_ofNat_Int, Int.reduceNeg, decide_true, decide_false, not_true_eq_false, not_false_eq_true, decide_eq_true_eq, decide_eq_false_iff_not, Bool.not_eq_true', Bool.not_eq_false', Bool.not_true, Bool.not_false, Bool.false_eq_true, Bool.true_eq_false, Bool.not_eq_true, Bool.not_eq_false, beq_iff_eq, beq_eq_false_iff_ne, bne_iff_ne, bne_eq_false_iff_eq, ne_eq, Int.not_lt, Int.not_le, ge_iff_le, gt_iff_lt, Decidable.not_not, reduceCtorEq, *] at hc) <;> (try (exfalso; omega)))
    | ((with_reducible apply opsF.und); (case hg => rfl))
    | ((with_reducible apply dopsF.op rfl); (case hs => (first | exact tHT | exact tHS)))
    | ((with_reducible apply dopsF.call); (case hx => exact tAG))
    | ((with_reducible apply dopsF.want); (case hg => exact tEV); (case hb => exact tNB))
    | ((with_reducible apply dopsF.skip); (case hg => exact tEV); (case hb => exact tNB))
    | ((with_reducible apply dopsF.und); (case hg => rfl))
    | ((with_reducible apply stabF.und); rfl)
    | ((with_reducible apply stabF.want); (case hg => exact tEV); (case hb => exact tNB))
    | ((with_reducible apply stabF.skip); (case hg => exact tEV); (case hb => exact tNB))
    | ((with_reducible apply stabF.op); (case hs => (first | exact tHT | exact tHS)); (case hv => exact tSV))
    | ((with_reducible apply retF.r); (case hv => exact tRS))
    | ((with_reducible apply retF.nn); (case hv => exact tRS))
    | ((refine (hpa _).mono fun v h2 hp => ?_); obtain ⟨⟨tk, rfl⟩, he⟩ := hp; have hN := he.n; have hO := he.objs; (try simp only [alloc_n, set_n, newTok_n, bump_n] at hN hO))
    | ((refine (hre _ _).mono fun v h4 hp => ?_); obtain ⟨rfl, rfl⟩ := hp))
      all_goals exact ⟨rfl, ((((Ext.alloc h _).trans (Ext.alloc _ _)).trans he).set (by simp [alloc_n]) _).set (by simp [alloc_n]) _⟩
end Go.Abs.F
namespace Go.Abs.F
open Go Go.Abs
set_option maxRecDepth 10000
set_option maxHeartbeats 20000000
set_option linter.unusedSimpArgs false
set_option linter.unusedVariables false
variable {w0 : World}
def cmdS (s : List UInt8) : Int × VS :=
  if upperS (cutB 32 s).1 = [72, 69, 76, 79] ∨ upperS (cutB 32 s).1 = [69, 72, 76, 79] then greetS (upperS (cutB 32 s).1) (cutB 32 s).2.1
  else if upperS (cutB 32 s).1 = [77, 65, 73, 76] then mailS (upperS (cutB 32 s).1) (cutB 32 s).2.1
  else if upperS (cutB 32 s).1 = [82, 67, 80, 84] then rcptS (upperS (cutB 32 s).1) (cutB 32 s).2.1
  else if upperS (cutB 32 s).1 = [68, 65, 84, 65] ∨ upperS (cutB 32 s).1 = [82, 83, 69, 84] ∨ upperS (cutB 32 s).1 = [81, 85, 73, 84] then (if (cutB 32 s).2.2 = true then 501 else 0, (upperS (cutB 32 s).1, [], -1, false))
  else if upperS (cutB 32 s).1 = [78, 79, 79, 80] then (0, (upperS (cutB 32 s).1, [], -1, false))
  else if upperS (cutB 32 s).1 = [86, 82, 70, 89] then (if (cutB 32 s).2.1 = [] then 501 else 0, (upperS (cutB 32 s).1, (cutB 32 s).2.1, -1, false))
  else (500, (upperS (cutB 32 s).1, [], -1, false))
def normS (x : Int × VS) : Int × VS := if x.1 = 0 then x else (x.1, zeroV)
def verbS (s : List UInt8) : Int × VS := normS (cmdS s)
section
variable {s a r nm : List UInt8} {ok : Bool} (hA : (cutB 32 s).1 = a) (hR : (cutB 32 s).2.1 = r) (hB : (cutB 32 s).2.2 = ok) (hU : upperS a = nm)
include hA hR hB hU
theorem cmd_HELO (h : nm = [72, 69, 76, 79]) : cmdS s = greetS [72, 69, 76, 79] r := by
  unfold cmdS
  rw [hA, hU, hR, hB, h]
  simp
theorem cmd_EHLO (h : nm = [69, 72, 76, 79]) : cmdS s = greetS [69, 72, 76, 79] r := by
  unfold cmdS
  rw [hA, hU, hR, hB, h]
  simp
theorem cmd_MAIL (h : nm = [77, 65, 73, 76]) : cmdS s = mailS [77, 65, 73, 76] r := by
  unfold cmdS
  rw [hA, hU, hR, hB, h]
  simp
theorem cmd_RCPT (h : nm = [82, 67, 80, 84]) : cmdS s = rcptS [82, 67, 80, 84] r := by
  unfold cmdS
  rw [hA, hU, hR, hB, h]
  simp
theorem cmd_DATA (h : nm = [68, 65, 84, 65]) : cmdS s = (if ok = true then 501 else 0, ([68, 65, 84, 65], [], -1, false)) := by
  unfold cmdS
  rw [hA, hU, hR, hB, h]
  simp
theorem cmd_RSET (h : nm = [82, 83, 69, 84]) : cmdS s = (if ok = true then 501 else 0, ([82, 83, 69, 84], [], -1, false)) := by
  unfold cmdS
  rw [hA, hU, hR, hB, h]
  simp
theorem cmd_QUIT (h : nm = [81, 85, 73, 84]) : cmdS s = (if ok = true then 501 else 0, ([81, 85, 73, 84], [], -1, false)) := by
  unfold cmdS
  rw [hA, hU, hR, hB, h]
  simp
theorem cmd_NOOP (h : nm = [78, 79, 79, 80]) : cmdS s = (0, ([78, 79, 79, 80], [], -1, false)) := by
  unfold cmdS
  rw [hA, hU, hR, hB, h]
  simp
theorem cmd_VRFY (h : nm = [86, 82, 70, 89]) : cmdS s = (if r = [] then 501 else 0, ([86, 82, 70, 89], r, -1, false)) := by
  unfold cmdS
  rw [hA, hU, hR, hB, h]
  simp
theorem cmd_none (h0 : ¬ nm = [72, 69, 76, 79]) (h1 : ¬ nm = [69, 72, 76, 79]) (h2 : ¬ nm = [77, 65, 73, 76]) (h3 : ¬ nm = [82, 67, 80, 84]) (h4 : ¬ nm = [68, 65, 84, 65]) (h5 : ¬ nm = [82, 83, 69, 84]) (h6 : ¬ nm = [81, 85, 73, 84]) (h7 : ¬ nm = [78, 79, 79, 80]) (h8 : ¬ nm = [86, 82, 70, 89]) : cmdS s = (500, (nm, [], -1, false)) := by
  unfold cmdS
  rw [hA, hU, hR, hB]
  simp [h0, h1, h2, h3, h4, h5, h6, h7, h8]
end
theorem parse_call (hE : ErrVars w0) (s : List UInt8) (h : AH) (hl : s.length ≤ 1000000000) : Call P w0 verb_parse [.v (.string (bs s))] h (fun v h' => v = codeV (cmdS s) ∧ Ext h h') := by
  have hcut := fun h => cut_call (w0 := w0) s 32 h (by omega)
  obtain ⟨l1, l2⟩ := cutB_le 32 s
  have hup := fun h => upper_call (w0 := w0) (cutB 32 s).1 h (by omega)
  have hgr := fun nm h => greeting_call (w0 := w0) nm (cutB 32 s).2.1 h (by omega)
  have hma := fun nm h => mail_call (w0 := w0) hE nm (cutB 32 s).2.1 h (by omega)
  have hrc := fun nm h => vrcpt_call (w0 := w0) nm (cutB 32 s).2.1 h (by omega)
  simp only [verbA, codeV] at hgr hma hrc
  refine Call.bodyF b_verb_parse rfl rfl ?_
  unfold c_verb_parse
  have hq1 : cmdS s = cmdS s := rfl
  generalize hA : (cutB 32 s).1 = a at *
  generalize hR : (cutB 32 s).2.1 = r at *
  generalize hB : (cutB 32 s).2.2 = ok at *
  generalize hU : upperS a = nm at *
  clear hq1
  cases ok
  all_goals repeat' (first
    | ((with_reducible apply opsF.op rfl); (case hs => (first | exact tHT | exact tHS)))
    | with_reducible (first | apply opsF.nil | apply seqF.nn | apply vcF.seq | apply vcF.region | apply vcF.skip | apply vcF.block | apply vcF.exit | apply vcF.ret | apply vcF.loop | apply seqF.e | apply seqF.r | apply blkF.nn | apply blkF.e | apply blkF.r | apply blkF.o rfl)
    | ((with_reducible apply opsF.call); (case hx => exact tAG))
    | (first | ((with_reducible apply vcF.cond); (case hx => exact tEV))) <;> ((intro hc; try simp only [Int.reduceLT, Int.reduceLE, Int.reduceEq, Int.reduceNe, Int.cast_ofNat_Int, Int.reduceNeg, decide_true, decide_false, not_true_eq_false, not_false_eq_true, decide_eq_true_eq, decide_eq_false_iff_not, Bool.not_eq_true', Bool.not_eq_false', Bool.not_true, Bool.not_false, Bool.false_eq_true, Bool.true_eq_false, Bool.not_eq_true, Bool.not_eq_false, beq_iff_eq, beq_eq_false_iff_ne, bne_iff_ne, bne_eq_false_iff_eq, ne_eq, Int.not_lt, Int.not_le, ge_iff_le, gt_iff_lt, Decidable.not_not, reduceCtorEq, *] at hc) <;> (try (exfalso; omega)))
    | ((with_reducible apply retF.r); (case hv => exact tRS))
    | ((with_reducible apply retF.nn); (case hv => exact tRS))
    | ((refine (hcut _).mono fun v h2 hp => ?_); obtain ⟨rfl, rfl⟩ := hp)
    | ((refine (hup _).mono fun v h2 hp => ?_); obtain ⟨rfl, he⟩ := hp; have hN := he.n; have hO := he.objs; (try simp only [alloc_n, set_n, newTok_n, bump_n] at hN hO))
    | ((refine (hgr _ _).mono fun v h3 hp => ?_); obtain ⟨rfl, he2⟩ := hp; have hN := he2.n; have hO := he2.objs; (try simp only [alloc_n, set_n, newTok_n, bump_n] at hN hO))
    | ((refine (hma _ _).mono fun v h3 hp => ?_); obtain ⟨rfl, he2⟩ := hp; have hN := he2.n; have hO := he2.objs; (try simp only [alloc_n, set_n, newTok_n, bump_n] at hN hO))
    | ((refine (hrc _ _).mono fun v h3 hp => ?_); obtain ⟨rfl, he2⟩ := hp; have hN := he2.n; have hO := he2.objs; (try simp only [alloc_n, set_n, newTok_n, bump_n] at hN hO)))
  all_goals refine ⟨?_, ?_⟩
  all_goals first
    | (rw [cmd_HELO hA hR hB hU (by assumption)]; first | rfl | (simp only [if_true, if_false]; rfl) | (simp only [*, if_true, if_false]; rfl))
    | (rw [cmd_EHLO hA hR hB hU (by assumption)]; first | rfl | (simp only [if_true, if_false]; rfl) | (simp only [*, if_true, if_false]; rfl))
    | (rw [cmd_MAIL hA hR hB hU (by assumption)]; first | rfl | (simp only [if_true, if_false]; rfl) | (simp only [*, if_true, if_false]; rfl))
    | (rw [cmd_RCPT hA hR hB hU (by assumption)]; first | rfl | (simp only [if_true, if_false]; rfl) | (simp only [*, if_true, if_false]; rfl))
    | (rw [cmd_DATA hA hR hB hU (by assumption)]; first | rfl | (simp only [if_true, if_false]; rfl) | (simp only [*, if_true, if_false]; rfl))
    | (rw [cmd_RSET hA hR hB hU (by assumption)]; first | rfl | (simp only [if_true, if_false]; rfl) | (simp only [*, if_true, if_false]; rfl))
    | (rw [cmd_QUIT hA hR hB hU (by assumption)]; first | rfl | (simp only [if_true, if_false]; rfl) | (simp only [*, if_true, if_false]; rfl))
    | (rw [cmd_NOOP hA hR hB hU (by assumption)]; first | rfl | (simp only [if_true, if_false]; rfl) | (simp only [*, if_true, if_false]; rfl))
    | (rw [cmd_VRFY hA hR hB hU (by assumption)]; first | rfl | (simp only [if_true, if_false]; rfl) | (simp only [*, if_true, if_false]; rfl))
    | (rw [cmd_none hA hR hB hU (by assumption) (by assumption) (by assumption) (by assumption) (by assumption) (by assumption) (by assumption) (by assumption) (by assumption)]; rfl)
    | (repeat' first
        | exact (Ext.alloc _ _).trans he
        | refine Ext.trans ?_ he2
        | refine Ext.set ?_ (by first | exact Nat.le_refl _ | omega | (simp only [alloc_n, set_n] at *; omega)) _
        | refine Ext.trans ?_ (Ext.alloc _ _))
theorem Parse_call (hE : ErrVars w0) (s : List UInt8) (h : AH) (hl : s.length ≤ 1000000000) : Call P w0 verb_Parse [.v (.string (bs s))] h (fun v h' => v = codeV (verbS s) ∧ Ext h h') := by
  have hpa := fun h => parse_call (w0 := w0) hE s h (by omega)
  simp only [verbA, codeV] at hpa
  have hn : codeV (verbS s) = if (cmdS s).1 = 0 then codeV (cmdS s) else codeV ((cmdS s).1, zeroV) := by
    unfold verbS normS
    split <;> rfl
  rw [hn]
  clear hn
  generalize cmdS s = r at *
  obtain ⟨c, a, b, sz, wd⟩ := r
  simp only [] at hpa ⊢
  refine Call.bodyF b_verb_Parse rfl rfl ?_
  unfold c_verb_Parse
  by_cases hc : c = 0
  · rw [if_pos hc]
    subst hc
    repeat' (first
    | ((with_reducible apply opsF.op rfl); (case hs => (first | exact tHT | exact tHS)))
    | with_reducible (first | apply opsF.nil | apply seqF.nn | apply vcF.seq | apply vcF.region | apply vcF.skip | apply vcF.ret | apply seqF.r)
    | ((with_reducible apply opsF.call); (case hx => exact tAG))
    | (first | ((with_reducible apply vcF.cond); (case hx => exact tEV))) <;> ((intro hc; try simp only [Int.reduceLT, Int.reduceLE, Int.reduceEq, Int.reduceNe, Int.cast_ofNat_Int, Int.reduceNeg, decide_true, decide_false, not_true_eq_false, not_false_eq_true, decide_eq_true_eq, decide_eq_false_iff_not, Bool.not_eq_true', Bool.not_eq_false', Bool.not_true, Bool.not_false, Bool.false_eq_true, Bool.true_eq_false, Bool.not_eq_true, Bool.not_eq_false, beq_iff_eq, beq_eq_false_iff_ne, bne_iff_ne, bne_eq_false_iff_eq, ne_eq, Int.not_lt, Int.not_le, ge_iff_le, gt_iff_lt, Decidable.not_not, reduceCtorEq, *] at hc) <;> (try (exfalso; omega)))
    | ((with_reducible apply retF.r); (case hv => exact tRS))
    | ((with_reducible apply retF.nn); (case hv => exact tRS))
    | ((refine (hpa _).mono fun v h2 hp => ?_); obtain ⟨rfl, he⟩ := hp; have hN := he.n; have hO := he.objs; (try simp only [alloc_n, set_n, newTok_n, bump_n] at hN hO)))
    all_goals refine ⟨rfl, ?_⟩
    all_goals repeat' first
      | exact (Ext.alloc _ _).trans he
      | refine Ext.set ?_ (by first | exact Nat.le_refl _ | omega | (simp only [alloc_n, set_n] at *; omega)) _
      | refine Ext.trans ?_ (Ext.alloc _ _)
  · rw [if_neg hc]
    repeat' (first
    | ((with_reducible apply opsF.op rfl); (case hs => (first | exact tHT | exact tHS)))
    | with_reducible (first | apply opsF.nil | apply seqF.nn | apply vcF.seq | apply vcF.region | apply vcF.skip | apply vcF.ret | apply seqF.r)
    | ((with_reducible apply opsF.call); (case hx => exact tAG))
    | (first | ((with_reducible apply vcF.cond); (case hx => exact tEV))) <;> ((intro hc; try simp only [Int.reduceLT, Int.reduceLE, Int.reduceEq, Int.reduceNe, Int.cast_ofNat_Int, Int.reduceNeg, decide_true, decide_false, not_true_eq_false, not_false_eq_true, decide_eq_true_eq, decide_eq_false_iff_not, Bool.not_eq_true', Bool.not_eq_false', Bool.not_true, Bool.not_false, Bool.false_eq_true, Bool.true_eq_false, Bool.not_eq_true, Bool.not_eq_false, beq_iff_eq, beq_eq_false_iff_ne, bne_iff_ne, bne_eq_false_iff_eq, ne_eq, Int.not_lt, Int.not_le, ge_iff_le, gt_iff_lt, Decidable.not_not, reduceCtorEq, *] at hc) <;> (try (exfalso; omega)))
    | ((with_reducible apply retF.r); (case hv => exact tRS))
    | ((with_reducible apply retF.nn); (case hv => exact tRS))
    | ((refine (hpa _).mono fun v h2 hp => ?_); obtain ⟨rfl, he⟩ := hp; have hN := he.n; have hO := he.objs; (try simp only [alloc_n, set_n, newTok_n, bump_n] at hN hO)))
    all_goals refine ⟨rfl, ?_⟩
    all_goals repeat' first
      | exact (Ext.alloc _ _).trans he
      | refine Ext.set ?_ (by first | exact Nat.le_refl _ | omega | (simp only [alloc_n, set_n] at *; omega)) _
      | refine Ext.trans ?_ (Ext.alloc _ _)
end Go.Abs.F
namespace Go.Abs.F
open Go Go.Abs
set_option maxRecDepth 10000
set_option maxHeartbeats 20000000
set_option linter.unusedSimpArgs false
set_option linter.unusedVariables false
variable {w0 : World}
theorem rverb_miss (s : List UInt8) (h : AH) (hl : s.length ≤ 1000000000) (h1 : 32 ∉ s) : Call P w0 ref01_Verb [.v (.string (bs s))] h (fun v h' => v = codeV (verbS s) ∧ Ext h h') := by
  have hfind := fun h => rfind_call (w0 := w0) s 32 h (by omega)
  rw [idx_miss h1] at hfind
  have hA : (cutB 32 s).1 = s := by rw [cutB_miss h1]
  have hR : (cutB 32 s).2.1 = [] := by rw [cutB_miss h1]
  have hB : (cutB 32 s).2.2 = false := by rw [cutB_miss h1]
  have hup := fun h => rupper_call (w0 := w0) s h (by omega)
  have hdo := fun h => rdomain_call (w0 := w0) [] h (by simp)
  rw [show domainS [] = false from rfl] at hdo
  have hdd : True := trivial
  have hr0 : True := trivial
  have n1 : ¬ ([77, 65, 73, 76] : List UInt8) = [82, 67, 80, 84] := by decide
  have n2 : ¬ ([82, 67, 80, 84] : List UInt8) = [77, 65, 73, 76] := by decide
  generalize hU : upperS s = nm at *
  refine Call.bodyF b_ref01_Verb rfl rfl ?_
  unfold c_ref01_Verb
  repeat' (first
    | ((with_reducible apply opsF.op rfl); (case hs => (first | exact tHT | exact tHS)))
    | with_reducible (first | apply opsF.nil | apply seqF.nn | apply vcF.seq | apply vcF.region | apply vcF.skip | apply vcF.block | apply vcF.exit | apply vcF.ret | apply vcF.loop | apply seqF.e | apply seqF.r | apply blkF.nn | apply blkF.e | apply blkF.r | apply blkF.o rfl)
    | ((with_reducible apply opsF.call); (case hx => exact tAG))
    | ((with_reducible apply opsF.want); (case hg => exact tEV); (case hb => exact tNB))
    | ((with_reducible apply opsF.skip); (case hg => exact tEV); (case hb => exact tNB))
    | (first | ((with_reducible apply opsF.case); (case hg => exact tEV)) | ((with_reducible apply vcF.cond); (case hx => exact tEV))) <;> ((intro hc; try simp only [Int.reduceLT, Int.reduceLE, Int.reduceEq, Int.reduceNe, Int.cast_ofNat_Int, Int.reduceNeg, decide_true, decide_false, not_true_eq_false, not_false_eq_true, decide_eq_true_eq, decide_eq_false_iff_not, Bool.not_eq_true', Bool.not_eq_false', Bool.not_true, Bool.not_false, Bool.false_eq_true, Bool.true_eq_false, Bool.not_eq_true, Bool.not_eq_false, beq_iff_eq, beq_eq_false_iff_ne, bne_iff_ne, bne_eq_false_iff_eq, ne_eq, Int.not_lt, Int.not_le, ge_iff_le, gt_iff_lt, Decidable.not_not, reduceCtorEq, *] at hc) <;> (try (exfalso; omega)))
    | ((with_reducible apply opsF.und); (case hg => rfl))
    | ((with_reducible apply retF.r); (case hv => exact tRS))
    | ((with_reducible apply retF.nn); (case hv => exact tRS))
    | ((refine (hfind _).mono fun v h2 hp => ?_); obtain ⟨rfl, rfl⟩ := hp)
    | ((refine (hup _).mono fun v h2 hp => ?_); obtain ⟨rfl, he⟩ := hp; have hN := he.n; have hO := he.objs; (try simp only [alloc_n, set_n, newTok_n, bump_n] at hN hO))
    | ((refine (hdo _).mono fun v h3 hp => ?_); obtain ⟨rfl, he2⟩ := hp; have hN := he2.n; have hO := he2.objs; (try simp only [alloc_n, set_n, newTok_n, bump_n] at hN hO)))
  all_goals refine ⟨?_, ?_⟩
  all_goals first
    | (rw [verbS, cmd_HELO hA hR hB hU (by assumption)]; first | rfl | (simp only [hdd, hr0, greetS, normS, if_true, if_false]; rfl))
    | (rw [verbS, cmd_EHLO hA hR hB hU (by assumption)]; first | rfl | (simp only [hdd, hr0, greetS, normS, if_true, if_false]; rfl))
    | (rw [verbS, cmd_DATA hA hR hB hU (by assumption)]; first | rfl | (simp only [hdd, hr0, greetS, normS, if_true, if_false]; rfl))
    | (rw [verbS, cmd_RSET hA hR hB hU (by assumption)]; first | rfl | (simp only [hdd, hr0, greetS, normS, if_true, if_false]; rfl))
    | (rw [verbS, cmd_QUIT hA hR hB hU (by assumption)]; first | rfl | (simp only [hdd, hr0, greetS, normS, if_true, if_false]; rfl))
    | (rw [verbS, cmd_NOOP hA hR hB hU (by assumption)]; first | rfl | (simp only [hdd, hr0, greetS, normS, if_true, if_false]; rfl))
    | (rw [verbS, cmd_VRFY hA hR hB hU (by assumption)]; first | rfl | (simp only [hdd, hr0, greetS, normS, if_true, if_false]; rfl))
    | (rw [verbS, cmd_MAIL hA hR hB hU (by assumption)]; first | rfl | (simp only [hdd, hr0, greetS, normS, if_true, if_false]; rfl))
    | (rw [verbS, cmd_RCPT hA hR hB hU (by assumption)]; first | rfl | (simp only [hdd, hr0, greetS, normS, if_true, if_false]; rfl))
    | (rw [verbS, cmd_none hA hR hB hU (by assumption) (by assumption) (by assumption) (by assumption) (by assumption) (by assumption) (by assumption) (by assumption) (by assumption)]; rfl)
    | (repeat' first
        | exact (Ext.alloc _ _).trans he
        | refine Ext.trans ?_ he2
        | refine Ext.set ?_ (by first | exact Nat.le_refl _ | omega | (simp only [alloc_n, set_n] at *; omega)) _
        | refine Ext.trans ?_ (Ext.alloc _ _))
end Go.Abs.F
