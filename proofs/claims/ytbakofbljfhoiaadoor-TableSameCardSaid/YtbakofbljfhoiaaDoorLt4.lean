/- Tables: the program's Same; layer 14: the same ones. -/
import Derived.Test.YtbakofbljfhoiaaDoorTabL
namespace Go.Abs.F
open Go Go.Abs
set_option maxRecDepth 10000
set_option maxHeartbeats 20000000
set_option linter.unusedSimpArgs false
set_option linter.unusedVariables false
variable {w0 : World}
theorem eqa_call (a b : List AliasT) (ta tb : Tok) (h : AH) (hl : a.length ≤ 140737488351232) (htx : ∀ x ∈ a, x.2.length ≤ 140737488351232) : Call P w0 slices_EqualFunc_api_Alias_api_Alias_api_Alias_api_Alias [.list 2 (a.map arow) ta, .list 2 (b.map arow) tb, .func (.func table_Same_1) [] []] h (fun v h' => v = .v (.bool (decide (a = b))) ∧ h' = h) := by
  refine Call.pure (.v _) ?_
  have m1 : (a.map arow).length = a.length := List.length_map ..
  have m2 : (b.map arow).length = b.length := List.length_map ..
  refine Call.bodyF b_slices_EqualFunc_api_Alias_api_Alias_api_Alias_api_Alias rfl rfl ?_
  unfold c_slices_EqualFunc_api_Alias_api_Alias_api_Alias_api_Alias
  by_cases e1 : a.length = b.length
  · have e1' : (a.length : Int) = b.length := by omega
    clear e1
    repeat' (first
    | ((with_reducible apply opsF.op rfl); (case hs => (first | exact tHT | exact tHS)))
    | with_reducible (first | apply opsF.nil | apply seqF.nn | apply vcF.seq | apply vcF.region | apply vcF.skip | apply vcF.block | apply vcF.exit | apply vcF.ret | apply vcF.loop | apply seqF.e | apply seqF.r | apply blkF.nn | apply blkF.e | apply blkF.r | apply blkF.o rfl)
    | ((with_reducible apply opsF.call); (case hx => exact tAG))
    | (first | ((with_reducible apply vcF.cond); (case hx => exact tEV))) <;> ((intro hc; try simp only [Int.reduceLT, Int.reduceLE, Int.reduceEq, Int.reduceNe, Int.cast_ofNat_Int, Int.reduceNeg, decide_true, decide_false, not_true_eq_false, not_false_eq_true, decide_eq_true_eq, decide_eq_false_iff_not, Bool.not_eq_true', Bool.not_eq_false', Bool.not_true, Bool.not_false, Bool.false_eq_true, Bool.true_eq_false, Bool.not_eq_true, Bool.not_eq_false, beq_iff_eq, beq_eq_false_iff_ne, bne_iff_ne, bne_eq_false_iff_eq, ne_eq, Int.not_lt, Int.not_le, ge_iff_le, gt_iff_lt, Decidable.not_not, reduceCtorEq, *] at hc) <;> (try (exfalso; omega)))
    | ((with_reducible apply opsF.callv); (case hf => exact tEV); (case hx => exact tCV))
    | ((with_reducible apply retF.r); (case hv => exact tRS))
    | ((with_reducible apply retF.nn); (case hv => exact tRS)))
    refine LpF.ind rfl (fun i : Nat => a.length - i) (fun i σ hh => Ext h hh ∧ σ 1 = .list 2 (b.map arow) tb ∧ σ 2 = .func (.func table_Same_1) [] [] ∧ σ 15 = .list 2 (a.map arow) ta ∧ σ 16 = .v (.int .i64 (a.length : Nat)) ∧ σ 17 = .v (.int .i64 (i : Nat)) ∧ i ≤ a.length ∧ a.take i = b.take i) ?_ (i := 0) ⟨.refl _, rfl, rfl, rfl, by rw [← m1]; rfl, rfl, Nat.zero_le _, rfl⟩
    rintro i σ hh ⟨hE, h1, h2, h15, h16, h17, hi, hk⟩
    rcases Nat.lt_or_ge i a.length with hlt | hge
    · obtain ⟨x, hx⟩ : ∃ x, a[i]? = some x := ⟨_, List.getElem?_eq_getElem hlt⟩
      obtain ⟨y, hy⟩ : ∃ y, b[i]? = some y := ⟨_, List.getElem?_eq_getElem (by omega)⟩
      have hs1 := fun hh => same1_call (w0 := w0) x y hh (htx x (List.mem_of_getElem? hx))
      have rx : (a.map arow)[i]? = some [.v (.string (bs x.1)), .list 1 (srows x.2) .no] := by rw [List.getElem?_map, hx]; rfl
      have ry : (b.map arow)[i]? = some [.v (.string (bs y.1)), .list 1 (srows y.2) .no] := by rw [List.getElem?_map, hy]; rfl
      have hE2 : ∀ o1 o2 o3 o4, Ext hh ((((hh.alloc o1).set hh.n o2).alloc o3).set (hh.n + 1) o4) := fun o1 o2 o3 o4 => (((Ext.alloc hh o1).set (Nat.le_refl _) o2).trans (Ext.alloc _ o3)).set (by omega) o4
      have hlt' : (i : Int) < b.length := by omega
      unfold arow at hs1
      have hx' := hx
      have hy' := hy
      clear hx hy htx
      by_cases g1 : x = y
      · subst g1
        rw [decide_eq_true rfl] at hs1
        repeat' (first
    | ((with_reducible apply opsF.op rfl); (case hs => (first | exact tHT | exact tHS)))
    | with_reducible (first | apply opsF.nil | apply seqF.nn | apply vcF.seq | apply vcF.region | apply vcF.skip | apply vcF.block | apply vcF.exit | apply vcF.ret | apply vcF.loop | apply seqF.e | apply seqF.r | apply blkF.nn | apply blkF.e | apply blkF.r | apply blkF.o rfl)
    | ((with_reducible apply opsF.call); (case hx => exact tAG))
    | (first | ((with_reducible apply vcF.cond); (case hx => exact tEV))) <;> ((intro hc; try simp only [Int.reduceLT, Int.reduceLE, Int.reduceEq, Int.reduceNe, Int.cast_ofNat_Int, Int.reduceNeg, decide_true, decide_false, not_true_eq_false, not_false_eq_true, decide_eq_true_eq, decide_eq_false_iff_not, Bool.not_eq_true', Bool.not_eq_false', Bool.not_true, Bool.not_false, Bool.false_eq_true, Bool.true_eq_false, Bool.not_eq_true, Bool.not_eq_false, beq_iff_eq, beq_eq_false_iff_ne, bne_iff_ne, bne_eq_false_iff_eq, ne_eq, Int.not_lt, Int.not_le, ge_iff_le, gt_iff_lt, Decidable.not_not, reduceCtorEq, *] at hc) <;> (try (exfalso; omega)))
    | ((with_reducible apply opsF.callv); (case hf => exact tEV); (case hx => exact tCV))
    | ((with_reducible apply retF.r); (case hv => exact tRS))
    | ((with_reducible apply retF.nn); (case hv => exact tRS))
    | ((refine Call.use (hs1 _) ?_)))
        refine ⟨i + 1, by omega, ?_, h1, h2, h15, h16, rfl, by omega, take_ext hk hx' hy' rfl⟩
        exact hE.trans (hE2 _ _ _ _)
      · rw [decide_eq_false g1] at hs1
        have hne : decide (a = b) = false := decide_eq_false (take_ne hx' hy' g1)
        rw [hne]
        clear hne
        repeat' (first
    | ((with_reducible apply opsF.op rfl); (case hs => (first | exact tHT | exact tHS)))
    | with_reducible (first | apply opsF.nil | apply seqF.nn | apply vcF.seq | apply vcF.region | apply vcF.skip | apply vcF.block | apply vcF.exit | apply vcF.ret | apply vcF.loop | apply seqF.e | apply seqF.r | apply blkF.nn | apply blkF.e | apply blkF.r | apply blkF.o rfl)
    | ((with_reducible apply opsF.call); (case hx => exact tAG))
    | (first | ((with_reducible apply vcF.cond); (case hx => exact tEV))) <;> ((intro hc; try simp only [Int.reduceLT, Int.reduceLE, Int.reduceEq, Int.reduceNe, Int.cast_ofNat_Int, Int.reduceNeg, decide_true, decide_false, not_true_eq_false, not_false_eq_true, decide_eq_true_eq, decide_eq_false_iff_not, Bool.not_eq_true', Bool.not_eq_false', Bool.not_true, Bool.not_false, Bool.false_eq_true, Bool.true_eq_false, Bool.not_eq_true, Bool.not_eq_false, beq_iff_eq, beq_eq_false_iff_ne, bne_iff_ne, bne_eq_false_iff_eq, ne_eq, Int.not_lt, Int.not_le, ge_iff_le, gt_iff_lt, Decidable.not_not, reduceCtorEq, *] at hc) <;> (try (exfalso; omega)))
    | ((with_reducible apply opsF.callv); (case hf => exact tEV); (case hx => exact tCV))
    | ((with_reducible apply retF.r); (case hv => exact tRS))
    | ((with_reducible apply retF.nn); (case hv => exact tRS))
    | ((refine Call.use (hs1 _) ?_)))
        all_goals exact ⟨rfl, hE.trans (hE2 _ _ _ _)⟩
    · have ea : a = b := by
        have i1 : i = a.length := by omega
        rw [i1, List.take_length, List.take_of_length_le (by omega)] at hk
        exact hk
      have hge' : (a.length : Int) ≤ i := by omega
      rw [decide_eq_true ea]
      clear hk ea
      repeat' (first
    | ((with_reducible apply opsF.op rfl); (case hs => (first | exact tHT | exact tHS)))
    | with_reducible (first | apply opsF.nil | apply seqF.nn | apply vcF.seq | apply vcF.region | apply vcF.skip | apply vcF.block | apply vcF.exit | apply vcF.ret | apply vcF.loop | apply seqF.e | apply seqF.r | apply blkF.nn | apply blkF.e | apply blkF.r | apply blkF.o rfl)
    | ((with_reducible apply opsF.call); (case hx => exact tAG))
    | (first | ((with_reducible apply vcF.cond); (case hx => exact tEV))) <;> ((intro hc; try simp only [Int.reduceLT, Int.reduceLE, Int.reduceEq, Int.reduceNe, Int.cast_ofNat_Int, Int.reduceNeg, decide_true, decide_false, not_true_eq_false, not_false_eq_true, decide_eq_true_eq, decide_eq_false_iff_not, Bool.not_eq_true', Bool.not_eq_false', Bool.not_true, Bool.not_false, Bool.false_eq_true, Bool.true_eq_false, Bool.not_eq_true, Bool.not_eq_false, beq_iff_eq, beq_eq_false_iff_ne, bne_iff_ne, bne_eq_false_iff_eq, ne_eq, Int.not_lt, Int.not_le, ge_iff_le, gt_iff_lt, Decidable.not_not, reduceCtorEq, *] at hc) <;> (try (exfalso; omega)))
    | ((with_reducible apply opsF.callv); (case hf => exact tEV); (case hx => exact tCV))
    | ((with_reducible apply retF.r); (case hv => exact tRS))
    | ((with_reducible apply retF.nn); (case hv => exact tRS)))
      all_goals exact ⟨rfl, hE⟩
  · have hne : decide (a = b) = false := decide_eq_false (fun e => e1 (by rw [e]))
    rw [hne]
    have e1' : ¬ (a.length : Int) = b.length := by omega
    clear e1
    repeat' (first
    | ((with_reducible apply opsF.op rfl); (case hs => (first | exact tHT | exact tHS)))
    | with_reducible (first | apply opsF.nil | apply seqF.nn | apply vcF.seq | apply vcF.region | apply vcF.skip | apply vcF.block | apply vcF.exit | apply vcF.ret | apply vcF.loop | apply seqF.e | apply seqF.r | apply blkF.nn | apply blkF.e | apply blkF.r | apply blkF.o rfl)
    | ((with_reducible apply opsF.call); (case hx => exact tAG))
    | (first | ((with_reducible apply vcF.cond); (case hx => exact tEV))) <;> ((intro hc; try simp only [Int.reduceLT, Int.reduceLE, Int.reduceEq, Int.reduceNe, Int.cast_ofNat_Int, Int.reduceNeg, decide_true, decide_false, not_true_eq_false, not_false_eq_true, decide_eq_true_eq, decide_eq_false_iff_not, Bool.not_eq_true', Bool.not_eq_false', Bool.not_true, Bool.not_false, Bool.false_eq_true, Bool.true_eq_false, Bool.not_eq_true, Bool.not_eq_false, beq_iff_eq, beq_eq_false_iff_ne, bne_iff_ne, bne_eq_false_iff_eq, ne_eq, Int.not_lt, Int.not_le, ge_iff_le, gt_iff_lt, Decidable.not_not, reduceCtorEq, *] at hc) <;> (try (exfalso; omega)))
    | ((with_reducible apply opsF.callv); (case hf => exact tEV); (case hx => exact tCV))
    | ((with_reducible apply retF.r); (case hv => exact tRS))
    | ((with_reducible apply retF.nn); (case hv => exact tRS)))
    all_goals exact ⟨rfl, .refl _⟩
theorem same_call (t u : TB) (h : AH) (hl : t.1.length ≤ 140737488351232 ∧ t.2.1.length ≤ 140737488351232 ∧ t.2.2.1.length ≤ 140737488351232) (htx : ∀ x ∈ t.1, x.2.length ≤ 140737488351232) (a1 a2 a3 b1 b2 b3 : Tok) :
    Call P w0 table_Same [.agg (tabC t a1 a2 a3), .agg (tabC u b1 b2 b3)] h (fun v h' => v = .v (.bool (decide (t = u))) ∧ h' = h) := by
  refine Call.pure (.v _) ?_
  obtain ⟨l1, l2, l3⟩ := hl
  obtain ⟨ta, th, tb, ts⟩ := t
  obtain ⟨ua, uh, ub, us⟩ := u
  simp only at l1 l2 l3 htx
  have hA := fun h => eqa_call (w0 := w0) ta ua a1 b1 h l1 htx
  have hH := fun h => eqh_call (w0 := w0) th uh a2 b2 h l2
  have hB := fun h => eqb_call (w0 := w0) tb ub a3 b3 h l3
  have hE2 : ∀ o1 o2, Ext h ((h.alloc o1).alloc o2) := fun o1 o2 => (Ext.alloc _ _).trans (Ext.alloc _ _)
  refine Call.bodyF b_table_Same rfl rfl ?_
  unfold c_table_Same tabC
  dsimp only
  by_cases e1 : ta = ua
  · by_cases e2 : th = uh
    · by_cases e3 : tb = ub
      · by_cases e4 : ts = us
        · rw [decide_eq_true e1] at hA
          rw [decide_eq_true e2] at hH
          rw [decide_eq_true e3] at hB
          rw [decide_eq_true (show ((ta, th, tb, ts) : TB) = (ua, uh, ub, us) by rw [e1, e2, e3, e4])]
          clear e1 e2 e3 htx
          subst e4
          repeat' (first
    | ((with_reducible apply opsF.op rfl); (case hs => (first | exact tHT | exact tHS)))
    | with_reducible (first | apply opsF.nil | apply seqF.nn | apply vcF.seq | apply vcF.region | apply vcF.skip | apply vcF.ret | apply seqF.r)
    | ((with_reducible apply opsF.call); (case hx => exact tAG))
    | ((with_reducible apply opsF.want); (case hg => exact tEV); (case hb => exact tNB))
    | ((with_reducible apply opsF.skip); (case hg => exact tEV); (case hb => exact tNB))
    | (first | ((with_reducible apply opsF.case); (case hg => exact tEV)) | ((with_reducible apply vcF.cond); (case hx => exact tEV))) <;> ((intro hc; try simp only [Int.reduceLT, Int.reduceLE, Int.reduceEq, Int.reduceNe, Int.cast_ofNat_Int, Int.reduceNeg, decide_true, decide_false, not_true_eq_false, not_false_eq_true, decide_eq_true_eq, decide_eq_false_iff_not, Bool.not_eq_true', Bool.not_eq_false', Bool.not_true, Bool.not_false, Bool.false_eq_true, Bool.true_eq_false, Bool.not_eq_true, Bool.not_eq_false, beq_iff_eq, beq_eq_false_iff_ne, bne_iff_ne, bne_eq_false_iff_eq, ne_eq, Int.not_lt, Int.not_le, ge_iff_le, gt_iff_lt, Decidable.not_not, reduceCtorEq, *] at hc) <;> (try (exfalso; omega)))
    | ((with_reducible apply opsF.und); (case hg => rfl))
    | ((with_reducible apply retF.r); (case hv => exact tRS))
    | ((with_reducible apply retF.nn); (case hv => exact tRS))
    | ((refine Call.use (hA _) ?_))
    | ((refine Call.use (hH _) ?_))
    | ((refine Call.use (hB _) ?_)))
          all_goals exact ⟨by simp, hE2 _ _⟩
        · rw [decide_eq_true e1] at hA
          rw [decide_eq_true e2] at hH
          rw [decide_eq_true e3] at hB
          rw [decide_eq_false (show ¬ ((ta, th, tb, ts) : TB) = (ua, uh, ub, us) by intro e; cases e; exact e4 rfl)]
          clear e1 e2 e3 htx
          repeat' (first
    | ((with_reducible apply opsF.op rfl); (case hs => (first | exact tHT | exact tHS)))
    | with_reducible (first | apply opsF.nil | apply seqF.nn | apply vcF.seq | apply vcF.region | apply vcF.skip | apply vcF.ret | apply seqF.r)
    | ((with_reducible apply opsF.call); (case hx => exact tAG))
    | ((with_reducible apply opsF.want); (case hg => exact tEV); (case hb => exact tNB))
    | ((with_reducible apply opsF.skip); (case hg => exact tEV); (case hb => exact tNB))
    | (first | ((with_reducible apply opsF.case); (case hg => exact tEV)) | ((with_reducible apply vcF.cond); (case hx => exact tEV))) <;> ((intro hc; try simp only [Int.reduceLT, Int.reduceLE, Int.reduceEq, Int.reduceNe, Int.cast_ofNat_Int, Int.reduceNeg, decide_true, decide_false, not_true_eq_false, not_false_eq_true, decide_eq_true_eq, decide_eq_false_iff_not, Bool.not_eq_true', Bool.not_eq_false', Bool.not_true, Bool.not_false, Bool.false_eq_true, Bool.true_eq_false, Bool.not_eq_true, Bool.not_eq_false, beq_iff_eq, beq_eq_false_iff_ne, bne_iff_ne, bne_eq_false_iff_eq, ne_eq, Int.not_lt, Int.not_le, ge_iff_le, gt_iff_lt, Decidable.not_not, reduceCtorEq, *] at hc) <;> (try (exfalso; omega)))
    | ((with_reducible apply opsF.und); (case hg => rfl))
    | ((with_reducible apply retF.r); (case hv => exact tRS))
    | ((with_reducible apply retF.nn); (case hv => exact tRS))
    | ((refine Call.use (hA _) ?_))
    | ((refine Call.use (hH _) ?_))
    | ((refine Call.use (hB _) ?_)))
          all_goals exact ⟨by simp [e4], hE2 _ _⟩
      · rw [decide_eq_true e1] at hA
        rw [decide_eq_true e2] at hH
        rw [decide_eq_false e3] at hB
        rw [decide_eq_false (show ¬ ((ta, th, tb, ts) : TB) = (ua, uh, ub, us) by intro e; cases e; exact e3 rfl)]
        clear e1 e2 e3 htx
        repeat' (first
    | ((with_reducible apply opsF.op rfl); (case hs => (first | exact tHT | exact tHS)))
    | with_reducible (first | apply opsF.nil | apply seqF.nn | apply vcF.seq | apply vcF.region | apply vcF.skip | apply vcF.ret | apply seqF.r)
    | ((with_reducible apply opsF.call); (case hx => exact tAG))
    | ((with_reducible apply opsF.want); (case hg => exact tEV); (case hb => exact tNB))
    | ((with_reducible apply opsF.skip); (case hg => exact tEV); (case hb => exact tNB))
    | (first | ((with_reducible apply opsF.case); (case hg => exact tEV)) | ((with_reducible apply vcF.cond); (case hx => exact tEV))) <;> ((intro hc; try simp only [Int.reduceLT, Int.reduceLE, Int.reduceEq, Int.reduceNe, Int.cast_ofNat_Int, Int.reduceNeg, decide_true, decide_false, not_true_eq_false, not_false_eq_true, decide_eq_true_eq, decide_eq_false_iff_not, Bool.not_eq_true', Bool.not_eq_false', Bool.not_true, Bool.not_false, Bool.false_eq_true, Bool.true_eq_false, Bool.not_eq_true, Bool.not_eq_false, beq_iff_eq, beq_eq_false_iff_ne, bne_iff_ne, bne_eq_false_iff_eq, ne_eq, Int.not_lt, Int.not_le, ge_iff_le, gt_iff_lt, Decidable.not_not, reduceCtorEq, *] at hc) <;> (try (exfalso; omega)))
    | ((with_reducible apply opsF.und); (case hg => rfl))
    | ((with_reducible apply retF.r); (case hv => exact tRS))
    | ((with_reducible apply retF.nn); (case hv => exact tRS))
    | ((refine Call.use (hA _) ?_))
    | ((refine Call.use (hH _) ?_))
    | ((refine Call.use (hB _) ?_)))
        all_goals exact ⟨by simp, hE2 _ _⟩
    · rw [decide_eq_true e1] at hA
      rw [decide_eq_false e2] at hH
      rw [decide_eq_false (show ¬ ((ta, th, tb, ts) : TB) = (ua, uh, ub, us) by intro e; cases e; exact e2 rfl)]
      clear e1 e2 htx
      repeat' (first
    | ((with_reducible apply opsF.op rfl); (case hs => (first | exact tHT | exact tHS)))
    | with_reducible (first | apply opsF.nil | apply seqF.nn | apply vcF.seq | apply vcF.region | apply vcF.skip | apply vcF.ret | apply seqF.r)
    | ((with_reducible apply opsF.call); (case hx => exact tAG))
    | ((with_reducible apply opsF.want); (case hg => exact tEV); (case hb => exact tNB))
    | ((with_reducible apply opsF.skip); (case hg => exact tEV); (case hb => exact tNB))
    | (first | ((with_reducible apply opsF.case); (case hg => exact tEV)) | ((with_reducible apply vcF.cond); (case hx => exact tEV))) <;> ((intro hc; try simp only [Int.reduceLT, Int.reduceLE, Int.reduceEq, Int.reduceNe, Int.cast_ofNat_Int, Int.reduceNeg, decide_true, decide_false, not_true_eq_false, not_false_eq_true, decide_eq_true_eq, decide_eq_false_iff_not, Bool.not_eq_true', Bool.not_eq_false', Bool.not_true, Bool.not_false, Bool.false_eq_true, Bool.true_eq_false, Bool.not_eq_true, Bool.not_eq_false, beq_iff_eq, beq_eq_false_iff_ne, bne_iff_ne, bne_eq_false_iff_eq, ne_eq, Int.not_lt, Int.not_le, ge_iff_le, gt_iff_lt, Decidable.not_not, reduceCtorEq, *] at hc) <;> (try (exfalso; omega)))
    | ((with_reducible apply opsF.und); (case hg => rfl))
    | ((with_reducible apply retF.r); (case hv => exact tRS))
    | ((with_reducible apply retF.nn); (case hv => exact tRS))
    | ((refine Call.use (hA _) ?_))
    | ((refine Call.use (hH _) ?_))
    | ((refine Call.use (hB _) ?_)))
      all_goals exact ⟨by simp, hE2 _ _⟩
  · rw [decide_eq_false e1] at hA
    rw [decide_eq_false (show ¬ ((ta, th, tb, ts) : TB) = (ua, uh, ub, us) by intro e; cases e; exact e1 rfl)]
    clear e1 htx
    repeat' (first
    | ((with_reducible apply opsF.op rfl); (case hs => (first | exact tHT | exact tHS)))
    | with_reducible (first | apply opsF.nil | apply seqF.nn | apply vcF.seq | apply vcF.region | apply vcF.skip | apply vcF.ret | apply seqF.r)
    | ((with_reducible apply opsF.call); (case hx => exact tAG))
    | ((with_reducible apply opsF.want); (case hg => exact tEV); (case hb => exact tNB))
    | ((with_reducible apply opsF.skip); (case hg => exact tEV); (case hb => exact tNB))
    | (first | ((with_reducible apply opsF.case); (case hg => exact tEV)) | ((with_reducible apply vcF.cond); (case hx => exact tEV))) <;> ((intro hc; try simp only [Int.reduceLT, Int.reduceLE, Int.reduceEq, Int.reduceNe, Int.cast_ofNat_Int, Int.reduceNeg, decide_true, decide_false, not_true_eq_false, not_false_eq_true, decide_eq_true_eq, decide_eq_false_iff_not, Bool.not_eq_true', Bool.not_eq_false', Bool.not_true, Bool.not_false, Bool.false_eq_true, Bool.true_eq_false, Bool.not_eq_true, Bool.not_eq_false, beq_iff_eq, beq_eq_false_iff_ne, bne_iff_ne, bne_eq_false_iff_eq, ne_eq, Int.not_lt, Int.not_le, ge_iff_le, gt_iff_lt, Decidable.not_not, reduceCtorEq, *] at hc) <;> (try (exfalso; omega)))
    | ((with_reducible apply opsF.und); (case hg => rfl))
    | ((with_reducible apply retF.r); (case hv => exact tRS))
    | ((with_reducible apply retF.nn); (case hv => exact tRS))
    | ((refine Call.use (hA _) ?_))
    | ((refine Call.use (hH _) ?_))
    | ((refine Call.use (hB _) ?_)))
    all_goals exact ⟨by simp, hE2 _ _⟩
theorem tsame_main (W : World) (hP : PowTab W) (hE : ErrVars W) (t u : TB) (ht : t.1.length ≤ 140737488351232 ∧ t.2.1.length ≤ 140737488351232 ∧ t.2.2.1.length ≤ 140737488351232) (htx : ∀ x ∈ t.1, x.2.length ≤ 140737488351232) :
    Call P W law14_TableSame [.agg (tabC t .no .no .no), .agg (tabC u .no .no .no)] AH.start fun v _ => v = .v (.bool true) := by
  have hans := fun h => answers14_call (w0 := W) hP hE h
  have h1 := fun h => same_call (w0 := W) t u h ht htx .no .no .no .no .no .no
  have h2 := fun h => Call.pure (.v (.bool (decide (t = u)))) (rsame_raw (w0 := W) t u .no .no .no .no .no .no h ht htx)
  have h3 := fun h => same_call (w0 := W) t t h ht htx .no .no .no .no .no .no
  rw [decide_eq_true rfl] at h3
  generalize decide (t = u) = q at *
  have m1 : (t.1.map arow).length = t.1.length := List.length_map ..
  have n1 : (u.1.map arow).length = u.1.length := List.length_map ..
  refine Call.bodyF b_law14_TableSame rfl rfl ?_
  unfold c_law14_TableSame tabC
  unfold tabC at h1 h2 h3
  rcases Nat.lt_or_ge 50 t.1.length with hbig | hsm
  · repeat' (first
    | ((with_reducible apply opsF.op rfl); (case hs => (first | exact tHT | exact tHS)))
    | with_reducible (first | apply opsF.nil | apply seqF.nn | apply vcF.seq | apply vcF.region | apply vcF.dregion | apply vcF.skip | apply vcF.ret | apply seqF.r | apply dopsF.nil | apply stabsF.nil | apply stabsF.cons | apply dopsF.cont)
    | ((with_reducible apply opsF.call); (case hx => exact tAG))
    | ((with_reducible apply opsF.want); (case hg => exact tEV); (case hb => exact tNB))
    | ((with_reducible apply opsF.skip); (case hg => exact tEV); (case hb => exact tNB))
    | (first | ((with_reducible apply opsF.case); (case hg => exact tEV)) | ((with_reducible apply vcF.cond); (case hx => exact tEV)) | ((with_reducible apply dopsF.case); (case hg => exact tEV))) <;> ((intro hc; try simp only [Int.reduceLT, Int.reduceLE, Int.reduceEq, Int.reduceNe, Int.cast_ofNat_Int, Int.reduceNeg, decide_true, decide_false, not_true_eq_false, not_false_eq_true, decide_eq_true_eq, decide_eq_false_iff_not, Bool.not_eq_true', Bool.not_eq_false', Bool.not_true, Bool.not_false, Bool.false_eq_true, Bool.true_eq_false, Bool.not_eq_true, Bool.not_eq_false, beq_iff_eq, beq_eq_false_iff_ne, bne_iff_ne, bne_eq_false_iff_eq, ne_eq, Int.not_lt, Int.not_le, ge_iff_le, gt_iff_lt, Decidable.not_not, reduceCtorEq, *] at hc) <;> (try (exfalso; omega)))
    | ((with_reducible apply opsF.und); (case hg => rfl))
    | ((with_reducible apply dopsF.op rfl); (case hs => (first | exact tHT | exact tHS)))
    | ((with_reducible apply dopsF.call); (case hx => exact tAG))
    | ((with_reducible apply dopsF.want); (case hg => exact tEV); (case hb => exact tNB))
    | ((with_reducible apply dopsF.skip); (case hg => exact tEV); (case hb => exact tNB))
    | ((with_reducible apply dopsF.und); (case hg => rfl))
    | ((with_reducible apply stabF.und); rfl)
    | ((with_reducible apply stabF.want); (case hg => exact tEV); (case hb => exact tNB))
    | ((with_reducible apply stabF.skip); (case hg => exact tEV); (case hb => exact tNB))
    | ((with_reducible apply stabF.op); (case hs => (first | exact tHT | exact tHS)); (case hv => exact tSV))
    | ((with_reducible apply retF.r); (case hv => exact tRS))
    | ((with_reducible apply retF.nn); (case hv => exact tRS))
    | ((refine Call.use (hans _) ?_)))
    all_goals rfl
  rcases Nat.lt_or_ge 50 u.1.length with hbig | hsu
  · repeat' (first
    | ((with_reducible apply opsF.op rfl); (case hs => (first | exact tHT | exact tHS)))
    | with_reducible (first | apply opsF.nil | apply seqF.nn | apply vcF.seq | apply vcF.region | apply vcF.dregion | apply vcF.skip | apply vcF.ret | apply seqF.r | apply dopsF.nil | apply stabsF.nil | apply stabsF.cons | apply dopsF.cont)
    | ((with_reducible apply opsF.call); (case hx => exact tAG))
    | ((with_reducible apply opsF.want); (case hg => exact tEV); (case hb => exact tNB))
    | ((with_reducible apply opsF.skip); (case hg => exact tEV); (case hb => exact tNB))
    | (first | ((with_reducible apply opsF.case); (case hg => exact tEV)) | ((with_reducible apply vcF.cond); (case hx => exact tEV)) | ((with_reducible apply dopsF.case); (case hg => exact tEV))) <;> ((intro hc; try simp only [Int.reduceLT, Int.reduceLE, Int.reduceEq, Int.reduceNe, Int.cast_ofNat_Int, Int.reduceNeg, decide_true, decide_false, not_true_eq_false, not_false_eq_true, decide_eq_true_eq, decide_eq_false_iff_not, Bool.not_eq_true', Bool.not_eq_false', Bool.not_true, Bool.not_false, Bool.false_eq_true, Bool.true_eq_false, Bool.not_eq_true, Bool.not_eq_false, beq_iff_eq, beq_eq_false_iff_ne, bne_iff_ne, bne_eq_false_iff_eq, ne_eq, Int.not_lt, Int.not_le, ge_iff_le, gt_iff_lt, Decidable.not_not, reduceCtorEq, *] at hc) <;> (try (exfalso; omega)))
    | ((with_reducible apply opsF.und); (case hg => rfl))
    | ((with_reducible apply dopsF.op rfl); (case hs => (first | exact tHT | exact tHS)))
    | ((with_reducible apply dopsF.call); (case hx => exact tAG))
    | ((with_reducible apply dopsF.want); (case hg => exact tEV); (case hb => exact tNB))
    | ((with_reducible apply dopsF.skip); (case hg => exact tEV); (case hb => exact tNB))
    | ((with_reducible apply dopsF.und); (case hg => rfl))
    | ((with_reducible apply stabF.und); rfl)
    | ((with_reducible apply stabF.want); (case hg => exact tEV); (case hb => exact tNB))
    | ((with_reducible apply stabF.skip); (case hg => exact tEV); (case hb => exact tNB))
    | ((with_reducible apply stabF.op); (case hs => (first | exact tHT | exact tHS)); (case hv => exact tSV))
    | ((with_reducible apply retF.r); (case hv => exact tRS))
    | ((with_reducible apply retF.nn); (case hv => exact tRS))
    | ((refine Call.use (hans _) ?_)))
    all_goals rfl
  repeat' (first
    | ((with_reducible apply opsF.op rfl); (case hs => (first | exact tHT | exact tHS)))
    | with_reducible (first | apply opsF.nil | apply seqF.nn | apply vcF.seq | apply vcF.region | apply vcF.dregion | apply vcF.skip | apply vcF.ret | apply seqF.r | apply dopsF.nil | apply stabsF.nil | apply stabsF.cons | apply dopsF.cont)
    | ((with_reducible apply opsF.call); (case hx => exact tAG))
    | ((with_reducible apply opsF.want); (case hg => exact tEV); (case hb => exact tNB))
    | ((with_reducible apply opsF.skip); (case hg => exact tEV); (case hb => exact tNB))
    | (first | ((with_reducible apply opsF.case); (case hg => exact tEV)) | ((with_reducible apply vcF.cond); (case hx => exact tEV)) | ((with_reducible apply dopsF.case); (case hg => exact tEV))) <;> ((intro hc; try simp only [Int.reduceLT, Int.reduceLE, Int.reduceEq, Int.reduceNe, Int.cast_ofNat_Int, Int.reduceNeg, decide_true, decide_false, not_true_eq_false, not_false_eq_true, decide_eq_true_eq, decide_eq_false_iff_not, Bool.not_eq_true', Bool.not_eq_false', Bool.not_true, Bool.not_false, Bool.false_eq_true, Bool.true_eq_false, Bool.not_eq_true, Bool.not_eq_false, beq_iff_eq, beq_eq_false_iff_ne, bne_iff_ne, bne_eq_false_iff_eq, ne_eq, Int.not_lt, Int.not_le, ge_iff_le, gt_iff_lt, Decidable.not_not, reduceCtorEq, *] at hc) <;> (try (exfalso; omega)))
    | ((with_reducible apply opsF.und); (case hg => rfl))
    | ((with_reducible apply dopsF.op rfl); (case hs => (first | exact tHT | exact tHS)))
    | ((with_reducible apply dopsF.call); (case hx => exact tAG))
    | ((with_reducible apply dopsF.want); (case hg => exact tEV); (case hb => exact tNB))
    | ((with_reducible apply dopsF.skip); (case hg => exact tEV); (case hb => exact tNB))
    | ((with_reducible apply dopsF.und); (case hg => rfl))
    | ((with_reducible apply stabF.und); rfl)
    | ((with_reducible apply stabF.want); (case hg => exact tEV); (case hb => exact tNB))
    | ((with_reducible apply stabF.skip); (case hg => exact tEV); (case hb => exact tNB))
    | ((with_reducible apply stabF.op); (case hs => (first | exact tHT | exact tHS)); (case hv => exact tSV))
    | ((with_reducible apply retF.r); (case hv => exact tRS))
    | ((with_reducible apply retF.nn); (case hv => exact tRS))
    | ((refine Call.use (hans _) ?_))
    | ((refine Call.use (h1 _) ?_))
    | ((refine Call.use (h2 _) ?_))
    | ((refine Call.use (h3 _) ?_)))
  all_goals first | rfl | (simp; done) | trace_state
abbrev AlT : Ty := .pair .str (.pair (.slice .str) .unit)
abbrev HoT : Ty := .pair .str (.pair .str .unit)
abbrev BaT : Ty := .pair .bool (.pair .str .unit)
abbrev TabT : Ty := .pair (.slice AlT) (.pair (.slice HoT) (.pair (.slice BaT) (.pair (.int .i64) .unit)))
def fA (x : AlT.D) : AliasT := ((x.1 : List UInt8), (x.2.1 : List (List UInt8)))
def fH (x : HoT.D) : List UInt8 × List UInt8 := ((x.1 : List UInt8), (x.2.1 : List UInt8))
def fB (x : BaT.D) : Bool × List UInt8 := ((x.1 : Bool), (x.2.1 : List UInt8))
theorem enc_A (l : List AlT.D) : l.map (Ty.enc AlT) = (l.map fA).map arow := (List.map_map (l := l) (f := fA) (g := arow)).symm
theorem enc_H (l : List HoT.D) : l.map (Ty.enc HoT) = (l.map fH).map hrow := (List.map_map (l := l) (f := fH) (g := hrow)).symm
theorem enc_B (l : List BaT.D) : l.map (Ty.enc BaT) = (l.map fB).map brow := (List.map_map (l := l) (f := fB) (g := brow)).symm
theorem agg3 {a a' b b' c c' : List (List AV)} (n : Int) (h1 : a = a') (h2 : b = b') (h3 : c = c') : AV.agg [.list 2 a .no, .list 2 b .no, .list 2 c .no, .v (.int .i64 n)] = AV.agg [.list 2 a' .no, .list 2 b' .no, .list 2 c' .no, .v (.int .i64 n)] := by rw [h1, h2, h3]
theorem lenm {α β : Type} (f : α → β) (l : List α) {k : Nat} (h : l.length ≤ k) : (l.map f).length ≤ k := by simpa using h
theorem tab_ty (x : TabT.D) (hf : TabT.fit 140737488351232 x) : ∃ t : TB, TabT.val x = .agg (tabC t .no .no .no) ∧ (t.1.length ≤ 140737488351232 ∧ t.2.1.length ≤ 140737488351232 ∧ t.2.2.1.length ≤ 140737488351232) ∧ ∀ y ∈ t.1, y.2.length ≤ 140737488351232 := by
  refine ⟨(List.map fA x.1, List.map fH x.2.1, List.map fB x.2.2.1, (x.2.2.2.1 : Int)), agg3 _ (enc_A x.1) (enc_H x.2.1) (enc_B x.2.2.1), ⟨lenm _ _ hf.1.1, lenm _ _ hf.2.1.1, lenm _ _ hf.2.2.1.1⟩, fun y hy => ?_⟩
  have hm : ∀ l : List AlT.D, y ∈ List.map fA l → ∃ z, List.Mem z l ∧ fA z = y := fun l h => List.mem_map.1 h
  obtain ⟨z, hz, rfl⟩ := hm x.1 hy
  exact (hf.1.2 z hz).2.1.1
theorem law_TableSame (W : World) (hL : laidMetH P Go.Proofs.YtbakofbljfhoiaaDoor.Rows.tableSameRow.laid W) (x0 : TabT.D) (h0 : TabT.wf x0) (g0 : TabT.fit 140737488351232 x0) (x1 : TabT.D) (h1 : TabT.wf x1) (g1 : TabT.fit 140737488351232 x1) :
    Call P W law14_TableSame [TabT.val x0, TabT.val x1] AH.start fun v _ => v = .v (.bool true) := by
  obtain ⟨t, e0, hb, hx⟩ := tab_ty x0 g0
  obtain ⟨u, e1, _, _⟩ := tab_ty x1 g1
  rw [e0, e1]
  exact tsame_main W (powTab_of hL (by kernel_rfl)) (errVars_of hL (by kernel_rfl) (by kernel_rfl)) t u hb hx
end Go.Abs.F
