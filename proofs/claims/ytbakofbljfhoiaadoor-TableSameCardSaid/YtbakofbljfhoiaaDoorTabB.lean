/- Tables: a parser's methods: hop, ban, size, a line. -/
import Derived.Test.YtbakofbljfhoiaaDoorTabA
namespace Go.Abs.F
open Go Go.Abs
set_option maxRecDepth 10000
set_option maxHeartbeats 20000000
set_option linter.unusedSimpArgs false
set_option linter.unusedVariables false
variable {w0 : World}
theorem hopC_p (a : List UInt8 × List UInt8) (d : List UInt8) (id : Nat) (h : AH) (ho : h.objs id = some (.cells [.v (.string (bs d))])) (hlt : id < h.n) :
    Call P w0 table_parser_hop_1 [.agg (hrow a), .ptr id 0] h (fun v h' => v = .v (.bool (decide (a.1 = d))) ∧ h' = h) := by
  refine Call.pure (.v _) ?_
  refine Call.bodyF b_table_parser_hop_1 rfl rfl ?_
  unfold c_table_parser_hop_1 hrow
  repeat' (first
    | ((with_reducible apply opsF.op rfl); (case hs => (first | exact tHT | exact tHS)))
    | with_reducible (first | apply opsF.nil | apply seqF.nn | apply vcF.seq | apply vcF.region | apply vcF.skip | apply vcF.ret | apply seqF.r)
    | ((with_reducible apply opsF.call); (case hx => exact tAG))
    | (first | ((with_reducible apply vcF.cond); (case hx => exact tEV))) <;> ((intro hc; try simp only [Int.reduceLT, Int.reduceLE, Int.reduceEq, Int.reduceNe, Int.cast_ofNat_Int, Int.reduceNeg, decide_true, decide_false, not_true_eq_false, not_false_eq_true, decide_eq_true_eq, decide_eq_false_iff_not, Bool.not_eq_true', Bool.not_eq_false', Bool.not_true, Bool.not_false, Bool.false_eq_true, Bool.true_eq_false, Bool.not_eq_true, Bool.not_eq_false, beq_iff_eq, beq_eq_false_iff_ne, bne_iff_ne, bne_eq_false_iff_eq, ne_eq, Int.not_lt, Int.not_le, ge_iff_le, gt_iff_lt, Decidable.not_not, reduceCtorEq, *] at hc) <;> (try (exfalso; omega)))
    | ((with_reducible apply retF.r); (case hv => exact tRS))
    | ((with_reducible apply retF.nn); (case hv => exact tRS)))
  all_goals exact ⟨rfl, Ext.alloc _ _⟩
theorem methP_none {B : Nat} {h h' : AH} {id : Nat} {rest : List AV} (hE : ExtI B id h h') : MethP B h id none rest (.v (.bool false)) h' := ⟨rfl, hE, fun t' ht => by cases ht⟩
/-- The second list has grown. -/
theorem TS.up2 {B : Nat} {h h1 h6 : AH} {id : Nat} {t : TB} {rest : List AV} {t1 t2 t3 tok1 : Tok} (hT : TS B h id t rest t1 t2 t3) (hE : Ext h h1) (hT2 : TokU h6 tok1) (hT3 : TokN h1 t2 tok1) (hT5 : h6.n = h1.n) (hT6 : ExtX (fun _ => False) (fun x => t2.owner = some x) h1 h6) (x : List UInt8 × List UInt8) :
    MethP B h id (some (t.1, t.2.1 ++ [x], t.2.2)) rest (.v (.bool true)) (h6.set id (.cells (tabC (t.1, t.2.1 ++ [x], t.2.2) t1 tok1 t3 ++ rest))) := by
  have hfr : ∀ x, tok1.owner = some x → ∀ tk : Tok, (∀ y, t2.owner = some y → tk.owner ≠ some y) → TokU h tk → tk.owner ≠ some x := by
    intro x hx tk hd hu he
    rcases hT3 x hx with hz | hz
    · exact hd x hz he
    · have := tokU_lt hu he; have := hE.nt; omega
  have d21 : ∀ x, t2.owner = some x → t1.owner ≠ some x := fun x hx he => hT.d12 x he hx
  refine ⟨rfl, ExtX.set (I := fun i => i = id) (i := id) ((ExtX.of hE).trans (hT6.mono (fun _ x => x.elim) fun x hx => hT.b2 x hx)) (.inl rfl) _, fun t' ht => ?_⟩
  cases ht
  refine ⟨t1, tok1, t3, by rw [set_at, if_pos rfl], by rw [set_n, hT5]; exact Nat.lt_of_lt_of_le hT.lt hE.n, Nat.le_trans hT.nt (Nat.le_trans hE.nt hT6.nt), (tokU_keep (hT.u1.ext hE) hT6 d21).set, hT2.set, (tokU_keep (hT.u3.ext hE) hT6 hT.d23).set,
    fun x hx he => hfr x he t1 d21 hT.u1 hx, hT.d13, fun x hx => hfr x hx t3 hT.d23 hT.u3, hT.b1, fun x hx => ?_, hT.b3⟩
  rcases hT3 x hx with hz | hz
  · exact hT.b2 x hz
  · have := hT.nt; have := hE.nt; omega
theorem hop_call (B : Nat) (id : Nat) (t : TB) (rest : List AV) (t1 t2 t3 : Tok) (ws : List (List UInt8)) (tkw : Tok) (h : AH) (hT : TS B h id t rest t1 t2 t3) (hw : ∀ w ∈ ws, w.length ≤ 1000000) (hl : ws.length ≤ 1000000) (htl : t.2.1.length ≤ 1000000) :
    Call P w0 table_parser_hop [.ptr id 0, .list 1 (srows ws) tkw] h (MethP B h id (hopO t ws) rest) := by
  have xl := srows_len
  have xg := srows_get
  have hob := hT.ob
  have hlt := hT.lt
  refine Call.bodyF b_table_parser_hop rfl rfl ?_
  unfold c_table_parser_hop
  by_cases hl2 : ws.length = 2
  · obtain ⟨a, b, rfl⟩ : ∃ a b, ws = [a, b] := by
      match ws, hl2 with
      | [a, b], _ => exact ⟨a, b, rfl⟩
    have h0 : ([a, b] : List (List UInt8))[0]? = some a := rfl
    have h1 : ([a, b] : List (List UInt8))[1]? = some b := rfl
    have hal := hw a (by simp)
    have hbl := hw b (by simp)
    have hda := fun h => doma_p (w0 := w0) a h (by omega)
    have hdb := fun h => doma_p (w0 := w0) b h (by omega)
    rw [hopO]
    obtain ⟨ws, hws⟩ : ∃ ws, ws = [a, b] := ⟨_, rfl⟩
    rw [← hws] at h0 h1 hl2 ⊢
    clear hws hw hl
    have EX : ∀ o1 o2 : AObj, Ext h ((h.alloc o1).set h.n o2) := fun o1 o2 => (Ext.alloc _ _).set (Nat.le_refl _) _
    have EX2 : ∀ o1 o2 o3 : AObj, Ext h (((h.alloc o1).set h.n o2).set h.n o3) := fun o1 o2 o3 => (EX o1 o2).set (Nat.le_refl _) _
    obtain ⟨q, hq⟩ : ∃ q, (t.2.1.any fun x => decide (x.1 = hopD a)) = q := ⟨_, rfl⟩
    have hcf : ∀ hh : AH, hh.objs h.n = some (.cells [.v (.string (bs (hopD a)))]) → h.n < hh.n → Call P w0 slices_ContainsFunc_api_Hop_api_Hop [.list 2 (t.2.1.map hrow) t2, .func (.func table_parser_hop_1) [] [.ptr h.n 0]] hh (fun v h' => v = .v (.bool q) ∧ h' = hh) := fun hh ho hl => by
      rw [← hq]
      exact confH table_parser_hop_1 [.ptr h.n 0] hrow (fun x => decide (x.1 = hopD a)) t.2.1 t2 hh (fun _ _ => rfl) (fun x _ => hopC_p x (hopD a) h.n hh ho hl) (by omega)
    rw [hq]
    clear hq
    unfold tabC at hob
    rcases Classical.em (a = [42]) with ha | ha
    · have hD : hopD a = [42] := if_pos ha
      rw [hD] at hcf ⊢
      have e1 : decide (a = [42]) = true := decide_eq_true ha
      rw [e1]
      have hat : (a = [42]) = True := eq_true ha
      clear ha e1 hD
      cases hB : domainS b
      · rw [hB] at hdb
        repeat' (first
    | ((with_reducible apply opsF.op rfl); (case hs => (first | exact tHT | exact tHS)))
    | with_reducible (first | apply opsF.nil | apply seqF.nn | apply vcF.seq | apply vcF.region | apply vcF.skip | apply vcF.ret | apply seqF.r)
    | ((with_reducible apply opsF.call); (case hx => exact tAG))
    | ((with_reducible apply opsF.want); (case hg => exact tEV); (case hb => exact tNB))
    | ((with_reducible apply opsF.skip); (case hg => exact tEV); (case hb => exact tNB))
    | (first | ((with_reducible apply opsF.case); (case hg => exact tEV)) | ((with_reducible apply vcF.cond); (case hx => exact tEV))) <;> ((intro hc; try simp only [Int.reduceLT, Int.reduceLE, Int.reduceEq, Int.reduceNe, Int.cast_ofNat_Int, Int.reduceNeg, decide_true, decide_false, not_true_eq_false, not_false_eq_true, decide_eq_true_eq, decide_eq_false_iff_not, Bool.not_eq_true', Bool.not_eq_false', Bool.not_true, Bool.not_false, Bool.false_eq_true, Bool.true_eq_false, Bool.not_eq_true, Bool.not_eq_false, beq_iff_eq, beq_eq_false_iff_ne, bne_iff_ne, bne_eq_false_iff_eq, ne_eq, Int.not_lt, Int.not_le, ge_iff_le, gt_iff_lt, Decidable.not_not, reduceCtorEq, *] at hc) <;> (try (exfalso; omega)))
    | ((with_reducible apply opsF.und); (case hg => rfl))
    | ((with_reducible apply retF.r); (case hv => exact tRS))
    | ((with_reducible apply retF.nn); (case hv => exact tRS))
    | ((refine Call.use (hda _) ?_))
    | ((refine Call.use (hdb _) ?_)))
        all_goals exact methP_none (.of (EX2 _ _ _))
      · rw [hB] at hdb
        cases q
        · simp only [Bool.true_or, Bool.false_or, Bool.true_and, Bool.and_true, Bool.not_false, if_true]
          repeat' (first
    | ((with_reducible apply opsF.op rfl); (case hs => (first | exact tHT | exact tHS)))
    | with_reducible (first | apply opsF.nil | apply seqF.nn | apply vcF.seq | apply vcF.region | apply vcF.skip | apply vcF.ret | apply seqF.r)
    | ((with_reducible apply opsF.call); (case hx => exact tAG))
    | ((with_reducible apply opsF.want); (case hg => exact tEV); (case hb => exact tNB))
    | ((with_reducible apply opsF.skip); (case hg => exact tEV); (case hb => exact tNB))
    | (first | ((with_reducible apply opsF.case); (case hg => exact tEV)) | ((with_reducible apply vcF.cond); (case hx => exact tEV))) <;> ((intro hc; try simp only [Int.reduceLT, Int.reduceLE, Int.reduceEq, Int.reduceNe, Int.cast_ofNat_Int, Int.reduceNeg, decide_true, decide_false, not_true_eq_false, not_false_eq_true, decide_eq_true_eq, decide_eq_false_iff_not, Bool.not_eq_true', Bool.not_eq_false', Bool.not_true, Bool.not_false, Bool.false_eq_true, Bool.true_eq_false, Bool.not_eq_true, Bool.not_eq_false, beq_iff_eq, beq_eq_false_iff_ne, bne_iff_ne, bne_eq_false_iff_eq, ne_eq, Int.not_lt, Int.not_le, ge_iff_le, gt_iff_lt, Decidable.not_not, reduceCtorEq, *] at hc) <;> (try (exfalso; omega)))
    | ((with_reducible apply opsF.und); (case hg => rfl))
    | ((with_reducible apply retF.r); (case hv => exact tRS))
    | ((with_reducible apply retF.nn); (case hv => exact tRS))
    | ((refine Call.use (hda _) ?_))
    | ((refine Call.use (hdb _) ?_))
    | ((refine Call.use (hcf _ (by exact tHX) (by simp only [alloc_n, set_n]; omega)) ?_); obtain ⟨tok1, h6, hap, hT2, hT3, hT4, hT5, hT6⟩ := (hT.u2.ext (EX2 (.cells [.v (.string (bs []))]) (.cells [.v (.string (bs (lowerS a)))]) (.cells [.v (.string (bs [42]))]))).app))
          have k := TS.up2 hT (EX2 _ _ _) hT2 hT3 hT5 hT6 ([42], lowerS b)
          simpa only [tabC, List.map_append, List.map_cons, List.map_nil, hrow, List.cons_append, List.nil_append, List.set_cons_succ, List.set_cons_zero] using k
        · repeat' (first
    | ((with_reducible apply opsF.op rfl); (case hs => (first | exact tHT | exact tHS)))
    | with_reducible (first | apply opsF.nil | apply seqF.nn | apply vcF.seq | apply vcF.region | apply vcF.skip | apply vcF.ret | apply seqF.r)
    | ((with_reducible apply opsF.call); (case hx => exact tAG))
    | ((with_reducible apply opsF.want); (case hg => exact tEV); (case hb => exact tNB))
    | ((with_reducible apply opsF.skip); (case hg => exact tEV); (case hb => exact tNB))
    | (first | ((with_reducible apply opsF.case); (case hg => exact tEV)) | ((with_reducible apply vcF.cond); (case hx => exact tEV))) <;> ((intro hc; try simp only [Int.reduceLT, Int.reduceLE, Int.reduceEq, Int.reduceNe, Int.cast_ofNat_Int, Int.reduceNeg, decide_true, decide_false, not_true_eq_false, not_false_eq_true, decide_eq_true_eq, decide_eq_false_iff_not, Bool.not_eq_true', Bool.not_eq_false', Bool.not_true, Bool.not_false, Bool.false_eq_true, Bool.true_eq_false, Bool.not_eq_true, Bool.not_eq_false, beq_iff_eq, beq_eq_false_iff_ne, bne_iff_ne, bne_eq_false_iff_eq, ne_eq, Int.not_lt, Int.not_le, ge_iff_le, gt_iff_lt, Decidable.not_not, reduceCtorEq, *] at hc) <;> (try (exfalso; omega)))
    | ((with_reducible apply opsF.und); (case hg => rfl))
    | ((with_reducible apply retF.r); (case hv => exact tRS))
    | ((with_reducible apply retF.nn); (case hv => exact tRS))
    | ((refine Call.use (hda _) ?_))
    | ((refine Call.use (hdb _) ?_))
    | ((refine Call.use (hcf _ (by exact tHX) (by simp only [alloc_n, set_n]; omega)) ?_)))
          all_goals exact methP_none (.of (EX2 _ _ _))
    · have hD : hopD a = lowerS a := if_neg ha
      rw [hD] at hcf ⊢
      have e1 : decide (a = [42]) = false := decide_eq_false ha
      rw [e1]
      clear e1 hD
      cases hA : domainS a
      · rw [hA] at hda
        repeat' (first
    | ((with_reducible apply opsF.op rfl); (case hs => (first | exact tHT | exact tHS)))
    | with_reducible (first | apply opsF.nil | apply seqF.nn | apply vcF.seq | apply vcF.region | apply vcF.skip | apply vcF.ret | apply seqF.r)
    | ((with_reducible apply opsF.call); (case hx => exact tAG))
    | ((with_reducible apply opsF.want); (case hg => exact tEV); (case hb => exact tNB))
    | ((with_reducible apply opsF.skip); (case hg => exact tEV); (case hb => exact tNB))
    | (first | ((with_reducible apply opsF.case); (case hg => exact tEV)) | ((with_reducible apply vcF.cond); (case hx => exact tEV))) <;> ((intro hc; try simp only [Int.reduceLT, Int.reduceLE, Int.reduceEq, Int.reduceNe, Int.cast_ofNat_Int, Int.reduceNeg, decide_true, decide_false, not_true_eq_false, not_false_eq_true, decide_eq_true_eq, decide_eq_false_iff_not, Bool.not_eq_true', Bool.not_eq_false', Bool.not_true, Bool.not_false, Bool.false_eq_true, Bool.true_eq_false, Bool.not_eq_true, Bool.not_eq_false, beq_iff_eq, beq_eq_false_iff_ne, bne_iff_ne, bne_eq_false_iff_eq, ne_eq, Int.not_lt, Int.not_le, ge_iff_le, gt_iff_lt, Decidable.not_not, reduceCtorEq, *] at hc) <;> (try (exfalso; omega)))
    | ((with_reducible apply opsF.und); (case hg => rfl))
    | ((with_reducible apply retF.r); (case hv => exact tRS))
    | ((with_reducible apply retF.nn); (case hv => exact tRS))
    | ((refine Call.use (hda _) ?_))
    | ((refine Call.use (hdb _) ?_)))
        all_goals exact methP_none (.of (EX _ _))
      rw [hA] at hda
      cases hB : domainS b
      · rw [hB] at hdb
        repeat' (first
    | ((with_reducible apply opsF.op rfl); (case hs => (first | exact tHT | exact tHS)))
    | with_reducible (first | apply opsF.nil | apply seqF.nn | apply vcF.seq | apply vcF.region | apply vcF.skip | apply vcF.ret | apply seqF.r)
    | ((with_reducible apply opsF.call); (case hx => exact tAG))
    | ((with_reducible apply opsF.want); (case hg => exact tEV); (case hb => exact tNB))
    | ((with_reducible apply opsF.skip); (case hg => exact tEV); (case hb => exact tNB))
    | (first | ((with_reducible apply opsF.case); (case hg => exact tEV)) | ((with_reducible apply vcF.cond); (case hx => exact tEV))) <;> ((intro hc; try simp only [Int.reduceLT, Int.reduceLE, Int.reduceEq, Int.reduceNe, Int.cast_ofNat_Int, Int.reduceNeg, decide_true, decide_false, not_true_eq_false, not_false_eq_true, decide_eq_true_eq, decide_eq_false_iff_not, Bool.not_eq_true', Bool.not_eq_false', Bool.not_true, Bool.not_false, Bool.false_eq_true, Bool.true_eq_false, Bool.not_eq_true, Bool.not_eq_false, beq_iff_eq, beq_eq_false_iff_ne, bne_iff_ne, bne_eq_false_iff_eq, ne_eq, Int.not_lt, Int.not_le, ge_iff_le, gt_iff_lt, Decidable.not_not, reduceCtorEq, *] at hc) <;> (try (exfalso; omega)))
    | ((with_reducible apply opsF.und); (case hg => rfl))
    | ((with_reducible apply retF.r); (case hv => exact tRS))
    | ((with_reducible apply retF.nn); (case hv => exact tRS))
    | ((refine Call.use (hda _) ?_))
    | ((refine Call.use (hdb _) ?_)))
        all_goals exact methP_none (.of (EX _ _))
      · rw [hB] at hdb
        cases q
        · simp only [Bool.true_or, Bool.false_or, Bool.true_and, Bool.and_true, Bool.not_false, if_true]
          repeat' (first
    | ((with_reducible apply opsF.op rfl); (case hs => (first | exact tHT | exact tHS)))
    | with_reducible (first | apply opsF.nil | apply seqF.nn | apply vcF.seq | apply vcF.region | apply vcF.skip | apply vcF.ret | apply seqF.r)
    | ((with_reducible apply opsF.call); (case hx => exact tAG))
    | ((with_reducible apply opsF.want); (case hg => exact tEV); (case hb => exact tNB))
    | ((with_reducible apply opsF.skip); (case hg => exact tEV); (case hb => exact tNB))
    | (first | ((with_reducible apply opsF.case); (case hg => exact tEV)) | ((with_reducible apply vcF.cond); (case hx => exact tEV))) <;> ((intro hc; try simp only [Int.reduceLT, Int.reduceLE, Int.reduceEq, Int.reduceNe, Int.cast_ofNat_Int, Int.reduceNeg, decide_true, decide_false, not_true_eq_false, not_false_eq_true, decide_eq_true_eq, decide_eq_false_iff_not, Bool.not_eq_true', Bool.not_eq_false', Bool.not_true, Bool.not_false, Bool.false_eq_true, Bool.true_eq_false, Bool.not_eq_true, Bool.not_eq_false, beq_iff_eq, beq_eq_false_iff_ne, bne_iff_ne, bne_eq_false_iff_eq, ne_eq, Int.not_lt, Int.not_le, ge_iff_le, gt_iff_lt, Decidable.not_not, reduceCtorEq, *] at hc) <;> (try (exfalso; omega)))
    | ((with_reducible apply opsF.und); (case hg => rfl))
    | ((with_reducible apply retF.r); (case hv => exact tRS))
    | ((with_reducible apply retF.nn); (case hv => exact tRS))
    | ((refine Call.use (hda _) ?_))
    | ((refine Call.use (hdb _) ?_))
    | ((refine Call.use (hcf _ (by exact tHX) (by simp only [alloc_n, set_n]; omega)) ?_); obtain ⟨tok1, h6, hap, hT2, hT3, hT4, hT5, hT6⟩ := (hT.u2.ext (EX (.cells [.v (.string (bs []))]) (.cells [.v (.string (bs (lowerS a)))]))).app))
          have k := TS.up2 hT (EX _ _) hT2 hT3 hT5 hT6 (lowerS a, lowerS b)
          simpa only [tabC, List.map_append, List.map_cons, List.map_nil, hrow, List.cons_append, List.nil_append, List.set_cons_succ, List.set_cons_zero] using k
        · repeat' (first
    | ((with_reducible apply opsF.op rfl); (case hs => (first | exact tHT | exact tHS)))
    | with_reducible (first | apply opsF.nil | apply seqF.nn | apply vcF.seq | apply vcF.region | apply vcF.skip | apply vcF.ret | apply seqF.r)
    | ((with_reducible apply opsF.call); (case hx => exact tAG))
    | ((with_reducible apply opsF.want); (case hg => exact tEV); (case hb => exact tNB))
    | ((with_reducible apply opsF.skip); (case hg => exact tEV); (case hb => exact tNB))
    | (first | ((with_reducible apply opsF.case); (case hg => exact tEV)) | ((with_reducible apply vcF.cond); (case hx => exact tEV))) <;> ((intro hc; try simp only [Int.reduceLT, Int.reduceLE, Int.reduceEq, Int.reduceNe, Int.cast_ofNat_Int, Int.reduceNeg, decide_true, decide_false, not_true_eq_false, not_false_eq_true, decide_eq_true_eq, decide_eq_false_iff_not, Bool.not_eq_true', Bool.not_eq_false', Bool.not_true, Bool.not_false, Bool.false_eq_true, Bool.true_eq_false, Bool.not_eq_true, Bool.not_eq_false, beq_iff_eq, beq_eq_false_iff_ne, bne_iff_ne, bne_eq_false_iff_eq, ne_eq, Int.not_lt, Int.not_le, ge_iff_le, gt_iff_lt, Decidable.not_not, reduceCtorEq, *] at hc) <;> (try (exfalso; omega)))
    | ((with_reducible apply opsF.und); (case hg => rfl))
    | ((with_reducible apply retF.r); (case hv => exact tRS))
    | ((with_reducible apply retF.nn); (case hv => exact tRS))
    | ((refine Call.use (hda _) ?_))
    | ((refine Call.use (hdb _) ?_))
    | ((refine Call.use (hcf _ (by exact tHX) (by simp only [alloc_n, set_n]; omega)) ?_)))
          all_goals exact methP_none (.of (EX _ _))
  · have hno : hopO t ws = none := by
      unfold hopO
      split
      · simp at hl2
      · rfl
    rw [hno]
    have hl2' : ¬ (ws.length : Int) = 2 := by omega
    repeat' (first
    | ((with_reducible apply opsF.op rfl); (case hs => (first | exact tHT | exact tHS)))
    | with_reducible (first | apply opsF.nil | apply seqF.nn | apply vcF.seq | apply vcF.region | apply vcF.skip | apply vcF.ret | apply seqF.r)
    | ((with_reducible apply opsF.call); (case hx => exact tAG))
    | ((with_reducible apply opsF.want); (case hg => exact tEV); (case hb => exact tNB))
    | ((with_reducible apply opsF.skip); (case hg => exact tEV); (case hb => exact tNB))
    | (first | ((with_reducible apply opsF.case); (case hg => exact tEV)) | ((with_reducible apply vcF.cond); (case hx => exact tEV))) <;> ((intro hc; try simp only [Int.reduceLT, Int.reduceLE, Int.reduceEq, Int.reduceNe, Int.cast_ofNat_Int, Int.reduceNeg, decide_true, decide_false, not_true_eq_false, not_false_eq_true, decide_eq_true_eq, decide_eq_false_iff_not, Bool.not_eq_true', Bool.not_eq_false', Bool.not_true, Bool.not_false, Bool.false_eq_true, Bool.true_eq_false, Bool.not_eq_true, Bool.not_eq_false, beq_iff_eq, beq_eq_false_iff_ne, bne_iff_ne, bne_eq_false_iff_eq, ne_eq, Int.not_lt, Int.not_le, ge_iff_le, gt_iff_lt, Decidable.not_not, reduceCtorEq, *] at hc) <;> (try (exfalso; omega)))
    | ((with_reducible apply opsF.und); (case hg => rfl))
    | ((with_reducible apply retF.r); (case hv => exact tRS))
    | ((with_reducible apply retF.nn); (case hv => exact tRS)))
    all_goals exact methP_none (.of (.refl _))
/-- The third list has grown. -/
theorem TS.up3 {B : Nat} {h h1 h6 : AH} {id : Nat} {t : TB} {rest : List AV} {t1 t2 t3 tok1 : Tok} (hT : TS B h id t rest t1 t2 t3) (hE : Ext h h1) (hT2 : TokU h6 tok1) (hT3 : TokN h1 t3 tok1) (hT5 : h6.n = h1.n) (hT6 : ExtX (fun _ => False) (fun x => t3.owner = some x) h1 h6) (x : Bool × List UInt8) :
    MethP B h id (some (t.1, t.2.1, t.2.2.1 ++ [x], t.2.2.2)) rest (.v (.bool true)) (h6.set id (.cells (tabC (t.1, t.2.1, t.2.2.1 ++ [x], t.2.2.2) t1 t2 tok1 ++ rest))) := by
  have d31 : ∀ x, t3.owner = some x → t1.owner ≠ some x := fun x hx he => hT.d13 x he hx
  have d32 : ∀ x, t3.owner = some x → t2.owner ≠ some x := fun x hx he => hT.d23 x he hx
  have hfr : ∀ x, tok1.owner = some x → ∀ tk : Tok, (∀ y, t3.owner = some y → tk.owner ≠ some y) → TokU h tk → tk.owner ≠ some x := by
    intro x hx tk hd hu he
    rcases hT3 x hx with hz | hz
    · exact hd x hz he
    · have := tokU_lt hu he; have := hE.nt; omega
  refine ⟨rfl, ExtX.set (I := fun i => i = id) (i := id) ((ExtX.of hE).trans (hT6.mono (fun _ x => x.elim) fun x hx => hT.b3 x hx)) (.inl rfl) _, fun t' ht => ?_⟩
  cases ht
  refine ⟨t1, t2, tok1, by rw [set_at, if_pos rfl], by rw [set_n, hT5]; exact Nat.lt_of_lt_of_le hT.lt hE.n, Nat.le_trans hT.nt (Nat.le_trans hE.nt hT6.nt), (tokU_keep (hT.u1.ext hE) hT6 d31).set, (tokU_keep (hT.u2.ext hE) hT6 d32).set, hT2.set,
    hT.d12, fun x hx he => hfr x he t1 d31 hT.u1 hx, fun x hx he => hfr x he t2 d32 hT.u2 hx, hT.b1, hT.b2, fun x hx => ?_⟩
  rcases hT3 x hx with hz | hz
  · exact hT.b3 x hz
  · have := hT.nt; have := hE.nt; omega
theorem contains_call (s : List UInt8) (c : UInt8) (h : AH) : Call P w0 strings_Contains [.v (.string (bs s)), .v (.string (bs [c]))] h (fun v h' => v = .v (.bool (s.contains c)) ∧ h' = h) := by
  have hi : decide (0 ≤ Lib.indexByte s c) = s.contains c := by
    rcases cutB_cases c s with ⟨g1, g2⟩ | ⟨a, r, rfl, g2, g3⟩
    · rw [idx_miss g1]
      have : s.contains c = false := by simpa using g1
      rw [this]; rfl
    · rw [idx_hit g2]
      have : (a ++ c :: r).contains c = true := by simp
      rw [this]
      exact decide_eq_true (by omega)
  refine Call.bodyF b_strings_Contains rfl rfl ?_
  unfold c_strings_Contains
  repeat' (first
    | ((with_reducible apply opsF.op rfl); (case hs => (first | exact tHT | exact tHS)))
    | with_reducible (first | apply opsF.nil | apply seqF.nn | apply vcF.seq | apply vcF.region | apply vcF.skip | apply vcF.ret | apply seqF.r)
    | ((with_reducible apply opsF.call); (case hx => exact tAG))
    | (first | ((with_reducible apply vcF.cond); (case hx => exact tEV))) <;> ((intro hc; try simp only [Int.reduceLT, Int.reduceLE, Int.reduceEq, Int.reduceNe, Int.cast_ofNat_Int, Int.reduceNeg, decide_true, decide_false, not_true_eq_false, not_false_eq_true, decide_eq_true_eq, decide_eq_false_iff_not, Bool.not_eq_true', Bool.not_eq_false', Bool.not_true, Bool.not_false, Bool.false_eq_true, Bool.true_eq_false, Bool.not_eq_true, Bool.not_eq_false, beq_iff_eq, beq_eq_false_iff_ne, bne_iff_ne, bne_eq_false_iff_eq, ne_eq, Int.not_lt, Int.not_le, ge_iff_le, gt_iff_lt, Decidable.not_not, reduceCtorEq, *] at hc) <;> (try (exfalso; omega)))
    | ((with_reducible apply retF.r); (case hv => exact tRS))
    | ((with_reducible apply retF.nn); (case hv => exact tRS))
    | ((refine Call.use (idx_call s c _) ?_)))
  exact ⟨by rw [← hi], rfl⟩
theorem ban_call (B : Nat) (id : Nat) (t : TB) (rest : List AV) (t1 t2 t3 : Tok) (ws : List (List UInt8)) (tkw : Tok) (h : AH) (hT : TS B h id t rest t1 t2 t3) (hw : ∀ w ∈ ws, w.length ≤ 1000000) (hl : ws.length ≤ 1000000) (htl : t.2.2.1.length ≤ 1000000) :
    Call P w0 table_parser_ban [.ptr id 0, .list 1 (srows ws) tkw] h (MethP B h id (banO t ws) rest) := by
  have xl := srows_len
  have xg := srows_get
  have hob := hT.ob
  have hlt := hT.lt
  refine Call.bodyF b_table_parser_ban rfl rfl ?_
  unfold c_table_parser_ban
  by_cases hl2 : ws.length = 2
  · obtain ⟨a, b, rfl⟩ : ∃ a b, ws = [a, b] := by
      match ws, hl2 with
      | [a, b], _ => exact ⟨a, b, rfl⟩
    have h0 : ([a, b] : List (List UInt8))[0]? = some a := rfl
    have h1 : ([a, b] : List (List UInt8))[1]? = some b := rfl
    have hal := hw a (by simp)
    have hbl := hw b (by simp)
    have hdb := fun h => doma_p (w0 := w0) b h (by omega)
    have hcb := fun h => canon_p (w0 := w0) b h (by omega)
    have hco := fun h => contains_call (w0 := w0) b 64 h
    rw [banO]
    obtain ⟨ws, hws⟩ : ∃ ws, ws = [a, b] := ⟨_, rfl⟩
    rw [← hws] at h0 h1 hl2 ⊢
    clear hws hw hl
    unfold tabC at hob
    obtain ⟨tok1, h6, hap, hT2, hT3, hT4, hT5, hT6⟩ := hT.u3.app
    have hX : ∀ cs, ExtI B id h (h6.set id cs) := fun cs => ExtX.set (I := fun i => i = id) (i := id) ((hT6.mono (fun _ x => x.elim) fun x hx => hT.b3 x hx)) (.inl rfl) _
    by_cases ha : a = [102, 114, 111, 109] ∨ a = [116, 111]
    · rw [if_pos ha]
      rcases Classical.em (a = [102, 114, 111, 109]) with ha1 | ha1
      · rw [decide_eq_true ha1]
        have ha2 : (a = [102, 114, 111, 109]) = True := eq_true ha1
        clear ha ha1
        cases hk : b.contains 64
        · rw [hk] at hco
          have hbn : banN b = if domainS b then some (lowerS b) else none := by rw [banN, hk]; rfl
          rw [hbn]
          clear hbn hcb
          cases hd : domainS b
          · rw [hd] at hdb
            repeat' (first
    | ((with_reducible apply opsF.op rfl); (case hs => (first | exact tHT | exact tHS)))
    | with_reducible (first | apply opsF.nil | apply seqF.nn | apply vcF.seq | apply vcF.region | apply vcF.skip | apply vcF.ret | apply seqF.r)
    | ((with_reducible apply opsF.call); (case hx => exact tAG))
    | ((with_reducible apply opsF.want); (case hg => exact tEV); (case hb => exact tNB))
    | ((with_reducible apply opsF.skip); (case hg => exact tEV); (case hb => exact tNB))
    | (first | ((with_reducible apply opsF.case); (case hg => exact tEV)) | ((with_reducible apply vcF.cond); (case hx => exact tEV))) <;> ((intro hc; try simp only [Int.reduceLT, Int.reduceLE, Int.reduceEq, Int.reduceNe, Int.cast_ofNat_Int, Int.reduceNeg, decide_true, decide_false, not_true_eq_false, not_false_eq_true, decide_eq_true_eq, decide_eq_false_iff_not, Bool.not_eq_true', Bool.not_eq_false', Bool.not_true, Bool.not_false, Bool.false_eq_true, Bool.true_eq_false, Bool.not_eq_true, Bool.not_eq_false, beq_iff_eq, beq_eq_false_iff_ne, bne_iff_ne, bne_eq_false_iff_eq, ne_eq, Int.not_lt, Int.not_le, ge_iff_le, gt_iff_lt, Decidable.not_not, reduceCtorEq, *] at hc) <;> (try (exfalso; omega)))
    | ((with_reducible apply opsF.und); (case hg => rfl))
    | ((with_reducible apply retF.r); (case hv => exact tRS))
    | ((with_reducible apply retF.nn); (case hv => exact tRS))
    | ((refine Call.use (hdb _) ?_))
    | ((refine Call.use (hco _) ?_))
    | ((refine Call.use (hcb _) ?_)))
            all_goals exact methP_none (hX _)
          · rw [hd] at hdb
            repeat' (first
    | ((with_reducible apply opsF.op rfl); (case hs => (first | exact tHT | exact tHS)))
    | with_reducible (first | apply opsF.nil | apply seqF.nn | apply vcF.seq | apply vcF.region | apply vcF.skip | apply vcF.ret | apply seqF.r)
    | ((with_reducible apply opsF.call); (case hx => exact tAG))
    | ((with_reducible apply opsF.want); (case hg => exact tEV); (case hb => exact tNB))
    | ((with_reducible apply opsF.skip); (case hg => exact tEV); (case hb => exact tNB))
    | (first | ((with_reducible apply opsF.case); (case hg => exact tEV)) | ((with_reducible apply vcF.cond); (case hx => exact tEV))) <;> ((intro hc; try simp only [Int.reduceLT, Int.reduceLE, Int.reduceEq, Int.reduceNe, Int.cast_ofNat_Int, Int.reduceNeg, decide_true, decide_false, not_true_eq_false, not_false_eq_true, decide_eq_true_eq, decide_eq_false_iff_not, Bool.not_eq_true', Bool.not_eq_false', Bool.not_true, Bool.not_false, Bool.false_eq_true, Bool.true_eq_false, Bool.not_eq_true, Bool.not_eq_false, beq_iff_eq, beq_eq_false_iff_ne, bne_iff_ne, bne_eq_false_iff_eq, ne_eq, Int.not_lt, Int.not_le, ge_iff_le, gt_iff_lt, Decidable.not_not, reduceCtorEq, *] at hc) <;> (try (exfalso; omega)))
    | ((with_reducible apply opsF.und); (case hg => rfl))
    | ((with_reducible apply retF.r); (case hv => exact tRS))
    | ((with_reducible apply retF.nn); (case hv => exact tRS))
    | ((refine Call.use (hdb _) ?_))
    | ((refine Call.use (hco _) ?_))
    | ((refine Call.use (hcb _) ?_)))
            have k := TS.up3 hT (.refl _) hT2 hT3 hT5 hT6 (true, lowerS b)
            simpa only [tabC, List.map_append, List.map_cons, List.map_nil, brow, List.cons_append, List.nil_append, List.set_cons_succ, List.set_cons_zero, Option.map_some, if_true, decide_true] using k
        · rw [hk] at hco
          have hbn : banN b = canonO b := by rw [banN, hk]; rfl
          rw [hbn]
          clear hbn
          cases hd : canonO b with
          | none =>
            rw [hd] at hcb
            simp only [optV] at hcb
            repeat' (first
    | ((with_reducible apply opsF.op rfl); (case hs => (first | exact tHT | exact tHS)))
    | with_reducible (first | apply opsF.nil | apply seqF.nn | apply vcF.seq | apply vcF.region | apply vcF.skip | apply vcF.ret | apply seqF.r)
    | ((with_reducible apply opsF.call); (case hx => exact tAG))
    | ((with_reducible apply opsF.want); (case hg => exact tEV); (case hb => exact tNB))
    | ((with_reducible apply opsF.skip); (case hg => exact tEV); (case hb => exact tNB))
    | (first | ((with_reducible apply opsF.case); (case hg => exact tEV)) | ((with_reducible apply vcF.cond); (case hx => exact tEV))) <;> ((intro hc; try simp only [Int.reduceLT, Int.reduceLE, Int.reduceEq, Int.reduceNe, Int.cast_ofNat_Int, Int.reduceNeg, decide_true, decide_false, not_true_eq_false, not_false_eq_true, decide_eq_true_eq, decide_eq_false_iff_not, Bool.not_eq_true', Bool.not_eq_false', Bool.not_true, Bool.not_false, Bool.false_eq_true, Bool.true_eq_false, Bool.not_eq_true, Bool.not_eq_false, beq_iff_eq, beq_eq_false_iff_ne, bne_iff_ne, bne_eq_false_iff_eq, ne_eq, Int.not_lt, Int.not_le, ge_iff_le, gt_iff_lt, Decidable.not_not, reduceCtorEq, *] at hc) <;> (try (exfalso; omega)))
    | ((with_reducible apply opsF.und); (case hg => rfl))
    | ((with_reducible apply retF.r); (case hv => exact tRS))
    | ((with_reducible apply retF.nn); (case hv => exact tRS))
    | ((refine Call.use (hdb _) ?_))
    | ((refine Call.use (hco _) ?_))
    | ((refine Call.use (hcb _) ?_)))
            all_goals exact methP_none (hX _)
          | some n =>
            rw [hd] at hcb
            simp only [optV] at hcb
            repeat' (first
    | ((with_reducible apply opsF.op rfl); (case hs => (first | exact tHT | exact tHS)))
    | with_reducible (first | apply opsF.nil | apply seqF.nn | apply vcF.seq | apply vcF.region | apply vcF.skip | apply vcF.ret | apply seqF.r)
    | ((with_reducible apply opsF.call); (case hx => exact tAG))
    | ((with_reducible apply opsF.want); (case hg => exact tEV); (case hb => exact tNB))
    | ((with_reducible apply opsF.skip); (case hg => exact tEV); (case hb => exact tNB))
    | (first | ((with_reducible apply opsF.case); (case hg => exact tEV)) | ((with_reducible apply vcF.cond); (case hx => exact tEV))) <;> ((intro hc; try simp only [Int.reduceLT, Int.reduceLE, Int.reduceEq, Int.reduceNe, Int.cast_ofNat_Int, Int.reduceNeg, decide_true, decide_false, not_true_eq_false, not_false_eq_true, decide_eq_true_eq, decide_eq_false_iff_not, Bool.not_eq_true', Bool.not_eq_false', Bool.not_true, Bool.not_false, Bool.false_eq_true, Bool.true_eq_false, Bool.not_eq_true, Bool.not_eq_false, beq_iff_eq, beq_eq_false_iff_ne, bne_iff_ne, bne_eq_false_iff_eq, ne_eq, Int.not_lt, Int.not_le, ge_iff_le, gt_iff_lt, Decidable.not_not, reduceCtorEq, *] at hc) <;> (try (exfalso; omega)))
    | ((with_reducible apply opsF.und); (case hg => rfl))
    | ((with_reducible apply retF.r); (case hv => exact tRS))
    | ((with_reducible apply retF.nn); (case hv => exact tRS))
    | ((refine Call.use (hdb _) ?_))
    | ((refine Call.use (hco _) ?_))
    | ((refine Call.use (hcb _) ?_)))
            have k := TS.up3 hT (.refl _) hT2 hT3 hT5 hT6 (true, n)
            simpa only [tabC, List.map_append, List.map_cons, List.map_nil, brow, List.cons_append, List.nil_append, List.set_cons_succ, List.set_cons_zero, Option.map_some, if_true, decide_true] using k
      · rw [decide_eq_false ha1]
        have ha2 : (a = [116, 111]) = True := eq_true (ha.resolve_left ha1)
        clear ha
        cases hk : b.contains 64
        · rw [hk] at hco
          have hbn : banN b = if domainS b then some (lowerS b) else none := by rw [banN, hk]; rfl
          rw [hbn]
          clear hbn hcb
          cases hd : domainS b
          · rw [hd] at hdb
            repeat' (first
    | ((with_reducible apply opsF.op rfl); (case hs => (first | exact tHT | exact tHS)))
    | with_reducible (first | apply opsF.nil | apply seqF.nn | apply vcF.seq | apply vcF.region | apply vcF.skip | apply vcF.ret | apply seqF.r)
    | ((with_reducible apply opsF.call); (case hx => exact tAG))
    | ((with_reducible apply opsF.want); (case hg => exact tEV); (case hb => exact tNB))
    | ((with_reducible apply opsF.skip); (case hg => exact tEV); (case hb => exact tNB))
    | (first | ((with_reducible apply opsF.case); (case hg => exact tEV)) | ((with_reducible apply vcF.cond); (case hx => exact tEV))) <;> ((intro hc; try simp only [Int.reduceLT, Int.reduceLE, Int.reduceEq, Int.reduceNe, Int.cast_ofNat_Int, Int.reduceNeg, decide_true, decide_false, not_true_eq_false, not_false_eq_true, decide_eq_true_eq, decide_eq_false_iff_not, Bool.not_eq_true', Bool.not_eq_false', Bool.not_true, Bool.not_false, Bool.false_eq_true, Bool.true_eq_false, Bool.not_eq_true, Bool.not_eq_false, beq_iff_eq, beq_eq_false_iff_ne, bne_iff_ne, bne_eq_false_iff_eq, ne_eq, Int.not_lt, Int.not_le, ge_iff_le, gt_iff_lt, Decidable.not_not, reduceCtorEq, *] at hc) <;> (try (exfalso; omega)))
    | ((with_reducible apply opsF.und); (case hg => rfl))
    | ((with_reducible apply retF.r); (case hv => exact tRS))
    | ((with_reducible apply retF.nn); (case hv => exact tRS))
    | ((refine Call.use (hdb _) ?_))
    | ((refine Call.use (hco _) ?_))
    | ((refine Call.use (hcb _) ?_)))
            all_goals exact methP_none (hX _)
          · rw [hd] at hdb
            repeat' (first
    | ((with_reducible apply opsF.op rfl); (case hs => (first | exact tHT | exact tHS)))
    | with_reducible (first | apply opsF.nil | apply seqF.nn | apply vcF.seq | apply vcF.region | apply vcF.skip | apply vcF.ret | apply seqF.r)
    | ((with_reducible apply opsF.call); (case hx => exact tAG))
    | ((with_reducible apply opsF.want); (case hg => exact tEV); (case hb => exact tNB))
    | ((with_reducible apply opsF.skip); (case hg => exact tEV); (case hb => exact tNB))
    | (first | ((with_reducible apply opsF.case); (case hg => exact tEV)) | ((with_reducible apply vcF.cond); (case hx => exact tEV))) <;> ((intro hc; try simp only [Int.reduceLT, Int.reduceLE, Int.reduceEq, Int.reduceNe, Int.cast_ofNat_Int, Int.reduceNeg, decide_true, decide_false, not_true_eq_false, not_false_eq_true, decide_eq_true_eq, decide_eq_false_iff_not, Bool.not_eq_true', Bool.not_eq_false', Bool.not_true, Bool.not_false, Bool.false_eq_true, Bool.true_eq_false, Bool.not_eq_true, Bool.not_eq_false, beq_iff_eq, beq_eq_false_iff_ne, bne_iff_ne, bne_eq_false_iff_eq, ne_eq, Int.not_lt, Int.not_le, ge_iff_le, gt_iff_lt, Decidable.not_not, reduceCtorEq, *] at hc) <;> (try (exfalso; omega)))
    | ((with_reducible apply opsF.und); (case hg => rfl))
    | ((with_reducible apply retF.r); (case hv => exact tRS))
    | ((with_reducible apply retF.nn); (case hv => exact tRS))
    | ((refine Call.use (hdb _) ?_))
    | ((refine Call.use (hco _) ?_))
    | ((refine Call.use (hcb _) ?_)))
            have k := TS.up3 hT (.refl _) hT2 hT3 hT5 hT6 (false, lowerS b)
            simpa only [tabC, List.map_append, List.map_cons, List.map_nil, brow, List.cons_append, List.nil_append, List.set_cons_succ, List.set_cons_zero, Option.map_some, if_true, decide_false, ha1] using k
        · rw [hk] at hco
          have hbn : banN b = canonO b := by rw [banN, hk]; rfl
          rw [hbn]
          clear hbn
          cases hd : canonO b with
          | none =>
            rw [hd] at hcb
            simp only [optV] at hcb
            repeat' (first
    | ((with_reducible apply opsF.op rfl); (case hs => (first | exact tHT | exact tHS)))
    | with_reducible (first | apply opsF.nil | apply seqF.nn | apply vcF.seq | apply vcF.region | apply vcF.skip | apply vcF.ret | apply seqF.r)
    | ((with_reducible apply opsF.call); (case hx => exact tAG))
    | ((with_reducible apply opsF.want); (case hg => exact tEV); (case hb => exact tNB))
    | ((with_reducible apply opsF.skip); (case hg => exact tEV); (case hb => exact tNB))
    | (first | ((with_reducible apply opsF.case); (case hg => exact tEV)) | ((with_reducible apply vcF.cond); (case hx => exact tEV))) <;> ((intro hc; try simp only [Int.reduceLT, Int.reduceLE, Int.reduceEq, Int.reduceNe, Int.cast_ofNat_Int, Int.reduceNeg, decide_true, decide_false, not_true_eq_false, not_false_eq_true, decide_eq_true_eq, decide_eq_false_iff_not, Bool.not_eq_true', Bool.not_eq_false', Bool.not_true, Bool.not_false, Bool.false_eq_true, Bool.true_eq_false, Bool.not_eq_true, Bool.not_eq_false, beq_iff_eq, beq_eq_false_iff_ne, bne_iff_ne, bne_eq_false_iff_eq, ne_eq, Int.not_lt, Int.not_le, ge_iff_le, gt_iff_lt, Decidable.not_not, reduceCtorEq, *] at hc) <;> (try (exfalso; omega)))
    | ((with_reducible apply opsF.und); (case hg => rfl))
    | ((with_reducible apply retF.r); (case hv => exact tRS))
    | ((with_reducible apply retF.nn); (case hv => exact tRS))
    | ((refine Call.use (hdb _) ?_))
    | ((refine Call.use (hco _) ?_))
    | ((refine Call.use (hcb _) ?_)))
            all_goals exact methP_none (hX _)
          | some n =>
            rw [hd] at hcb
            simp only [optV] at hcb
            repeat' (first
    | ((with_reducible apply opsF.op rfl); (case hs => (first | exact tHT | exact tHS)))
    | with_reducible (first | apply opsF.nil | apply seqF.nn | apply vcF.seq | apply vcF.region | apply vcF.skip | apply vcF.ret | apply seqF.r)
    | ((with_reducible apply opsF.call); (case hx => exact tAG))
    | ((with_reducible apply opsF.want); (case hg => exact tEV); (case hb => exact tNB))
    | ((with_reducible apply opsF.skip); (case hg => exact tEV); (case hb => exact tNB))
    | (first | ((with_reducible apply opsF.case); (case hg => exact tEV)) | ((with_reducible apply vcF.cond); (case hx => exact tEV))) <;> ((intro hc; try simp only [Int.reduceLT, Int.reduceLE, Int.reduceEq, Int.reduceNe, Int.cast_ofNat_Int, Int.reduceNeg, decide_true, decide_false, not_true_eq_false, not_false_eq_true, decide_eq_true_eq, decide_eq_false_iff_not, Bool.not_eq_true', Bool.not_eq_false', Bool.not_true, Bool.not_false, Bool.false_eq_true, Bool.true_eq_false, Bool.not_eq_true, Bool.not_eq_false, beq_iff_eq, beq_eq_false_iff_ne, bne_iff_ne, bne_eq_false_iff_eq, ne_eq, Int.not_lt, Int.not_le, ge_iff_le, gt_iff_lt, Decidable.not_not, reduceCtorEq, *] at hc) <;> (try (exfalso; omega)))
    | ((with_reducible apply opsF.und); (case hg => rfl))
    | ((with_reducible apply retF.r); (case hv => exact tRS))
    | ((with_reducible apply retF.nn); (case hv => exact tRS))
    | ((refine Call.use (hdb _) ?_))
    | ((refine Call.use (hco _) ?_))
    | ((refine Call.use (hcb _) ?_)))
            have k := TS.up3 hT (.refl _) hT2 hT3 hT5 hT6 (false, n)
            simpa only [tabC, List.map_append, List.map_cons, List.map_nil, brow, List.cons_append, List.nil_append, List.set_cons_succ, List.set_cons_zero, Option.map_some, if_true, decide_false, ha1] using k
    · rw [if_neg ha]
      have ha1 : ¬ a = [102, 114, 111, 109] := fun e => ha (.inl e)
      have ha2 : ¬ a = [116, 111] := fun e => ha (.inr e)
      clear ha
      repeat' (first
    | ((with_reducible apply opsF.op rfl); (case hs => (first | exact tHT | exact tHS)))
    | with_reducible (first | apply opsF.nil | apply seqF.nn | apply vcF.seq | apply vcF.region | apply vcF.skip | apply vcF.ret | apply seqF.r)
    | ((with_reducible apply opsF.call); (case hx => exact tAG))
    | ((with_reducible apply opsF.want); (case hg => exact tEV); (case hb => exact tNB))
    | ((with_reducible apply opsF.skip); (case hg => exact tEV); (case hb => exact tNB))
    | (first | ((with_reducible apply opsF.case); (case hg => exact tEV)) | ((with_reducible apply vcF.cond); (case hx => exact tEV))) <;> ((intro hc; try simp only [Int.reduceLT, Int.reduceLE, Int.reduceEq, Int.reduceNe, Int.cast_ofNat_Int, Int.reduceNeg, decide_true, decide_false, not_true_eq_false, not_false_eq_true, decide_eq_true_eq, decide_eq_false_iff_not, Bool.not_eq_true', Bool.not_eq_false', Bool.not_true, Bool.not_false, Bool.false_eq_true, Bool.true_eq_false, Bool.not_eq_true, Bool.not_eq_false, beq_iff_eq, beq_eq_false_iff_ne, bne_iff_ne, bne_eq_false_iff_eq, ne_eq, Int.not_lt, Int.not_le, ge_iff_le, gt_iff_lt, Decidable.not_not, reduceCtorEq, *] at hc) <;> (try (exfalso; omega)))
    | ((with_reducible apply opsF.und); (case hg => rfl))
    | ((with_reducible apply retF.r); (case hv => exact tRS))
    | ((with_reducible apply retF.nn); (case hv => exact tRS)))
      all_goals exact methP_none (.of (.refl _))
  · have hno : banO t ws = none := by
      unfold banO
      split
      · simp at hl2
      · rfl
    rw [hno]
    have hl2' : ¬ (ws.length : Int) = 2 := by omega
    repeat' (first
    | ((with_reducible apply opsF.op rfl); (case hs => (first | exact tHT | exact tHS)))
    | with_reducible (first | apply opsF.nil | apply seqF.nn | apply vcF.seq | apply vcF.region | apply vcF.skip | apply vcF.ret | apply seqF.r)
    | ((with_reducible apply opsF.call); (case hx => exact tAG))
    | ((with_reducible apply opsF.want); (case hg => exact tEV); (case hb => exact tNB))
    | ((with_reducible apply opsF.skip); (case hg => exact tEV); (case hb => exact tNB))
    | (first | ((with_reducible apply opsF.case); (case hg => exact tEV)) | ((with_reducible apply vcF.cond); (case hx => exact tEV))) <;> ((intro hc; try simp only [Int.reduceLT, Int.reduceLE, Int.reduceEq, Int.reduceNe, Int.cast_ofNat_Int, Int.reduceNeg, decide_true, decide_false, not_true_eq_false, not_false_eq_true, decide_eq_true_eq, decide_eq_false_iff_not, Bool.not_eq_true', Bool.not_eq_false', Bool.not_true, Bool.not_false, Bool.false_eq_true, Bool.true_eq_false, Bool.not_eq_true, Bool.not_eq_false, beq_iff_eq, beq_eq_false_iff_ne, bne_iff_ne, bne_eq_false_iff_eq, ne_eq, Int.not_lt, Int.not_le, ge_iff_le, gt_iff_lt, Decidable.not_not, reduceCtorEq, *] at hc) <;> (try (exfalso; omega)))
    | ((with_reducible apply opsF.und); (case hg => rfl))
    | ((with_reducible apply retF.r); (case hv => exact tRS))
    | ((with_reducible apply retF.nn); (case hv => exact tRS)))
    all_goals exact methP_none (.of (.refl _))
end Go.Abs.F
