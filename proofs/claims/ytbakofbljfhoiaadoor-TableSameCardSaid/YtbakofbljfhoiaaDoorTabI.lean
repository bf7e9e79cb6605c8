/- Tables: the same ones. -/
import Derived.Test.YtbakofbljfhoiaaDoorTabK
namespace Go.Abs.F
open Go Go.Abs
set_option maxRecDepth 10000
set_option maxHeartbeats 20000000
set_option linter.unusedSimpArgs false
set_option linter.unusedVariables false
variable {w0 : World}
theorem texts_call (a b : List (List UInt8)) (ta tb : Tok) (h : AH) (hl : a.length ≤ 140737488351232) : Call P w0 ref01_Texts [.list 1 (srows a) ta, .list 1 (srows b) tb] h (fun v h' => v = .v (.bool (decide (a = b))) ∧ h' = h) := by
  have xl := srows_len
  have xg := srows_get
  refine Call.bodyF b_ref01_Texts rfl rfl ?_
  unfold c_ref01_Texts
  repeat' (first
    | ((with_reducible apply opsF.op rfl); (case hs => (first | exact tHT | exact tHS)))
    | with_reducible (first | apply opsF.nil | apply seqF.nn | apply vcF.seq | apply vcF.region | apply vcF.skip | apply vcF.block | apply vcF.exit | apply vcF.ret | apply vcF.loop | apply seqF.e | apply seqF.r | apply blkF.nn | apply blkF.e | apply blkF.r | apply blkF.o rfl)
    | ((with_reducible apply opsF.call); (case hx => exact tAG))
    | (first | ((with_reducible apply vcF.cond); (case hx => exact tEV))) <;> ((intro hc; try simp only [Int.reduceLT, Int.reduceLE, Int.reduceEq, Int.reduceNe, Int.cast_ofNat_Int, Int.reduceNeg, decide_true, decide_false, not_true_eq_false, not_false_eq_true, decide_eq_true_eq, decide_eq_false_iff_not, Bool.not_eq_true', Bool.not_eq_false', Bool.not_true, Bool.not_false, Bool.false_eq_true, Bool.true_eq_false, Bool.not_eq_true, Bool.not_eq_false, beq_iff_eq, beq_eq_false_iff_ne, bne_iff_ne, bne_eq_false_iff_eq, ne_eq, Int.not_lt, Int.not_le, ge_iff_le, gt_iff_lt, Decidable.not_not, reduceCtorEq, *] at hc) <;> (try (exfalso; omega)))
    | ((with_reducible apply retF.r); (case hv => exact tRS))
    | ((with_reducible apply retF.nn); (case hv => exact tRS)))
  · have : a ≠ b := by rintro rfl; simp at *
    simp [this]
  · refine LpF.ind rfl (fun i : Nat => a.length - i) (fun i σ h' => h' = h ∧ σ 0 = .list 1 (srows a) ta ∧ σ 1 = .list 1 (srows b) tb ∧ σ 5 = .v (.int .i64 (i : Nat)) ∧ i ≤ a.length ∧ a.take i = b.take i) ?_ (i := 0) ⟨rfl, rfl, rfl, rfl, Nat.zero_le _, rfl⟩
    rintro i σ h' ⟨rfl, h0, h1, h5, hi, he⟩
    have hlen : a.length = b.length := by omega
    rcases Nat.lt_or_ge i a.length with hlt | hge
    · have ha : a[i]? = some a[i] := List.getElem?_eq_getElem hlt
      have hb : b[i]? = some (b[i]'(by omega)) := List.getElem?_eq_getElem (by omega)
      repeat' (first
    | ((with_reducible apply opsF.op rfl); (case hs => (first | exact tHT | exact tHS)))
    | with_reducible (first | apply opsF.nil | apply seqF.nn | apply vcF.seq | apply vcF.region | apply vcF.skip | apply vcF.block | apply vcF.exit | apply vcF.ret | apply vcF.loop | apply seqF.e | apply seqF.r | apply blkF.nn | apply blkF.e | apply blkF.r | apply blkF.o rfl)
    | ((with_reducible apply opsF.call); (case hx => exact tAG))
    | (first | ((with_reducible apply vcF.cond); (case hx => exact tEV))) <;> ((intro hc; try simp only [Int.reduceLT, Int.reduceLE, Int.reduceEq, Int.reduceNe, Int.cast_ofNat_Int, Int.reduceNeg, decide_true, decide_false, not_true_eq_false, not_false_eq_true, decide_eq_true_eq, decide_eq_false_iff_not, Bool.not_eq_true', Bool.not_eq_false', Bool.not_true, Bool.not_false, Bool.false_eq_true, Bool.true_eq_false, Bool.not_eq_true, Bool.not_eq_false, beq_iff_eq, beq_eq_false_iff_ne, bne_iff_ne, bne_eq_false_iff_eq, ne_eq, Int.not_lt, Int.not_le, ge_iff_le, gt_iff_lt, Decidable.not_not, reduceCtorEq, *] at hc) <;> (try (exfalso; omega)))
    | ((with_reducible apply retF.r); (case hv => exact tRS))
    | ((with_reducible apply retF.nn); (case hv => exact tRS)))
      · have : a ≠ b := by rintro rfl; simp at *
        simp [this]
      · refine ⟨i + 1, by omega, rfl, by assumption, by assumption, ?_, by omega, ?_⟩
        · exact rfl
        · rw [List.take_add_one, List.take_add_one, he, ha, hb, hc]
    · have : i = a.length := by omega
      subst this
      repeat' (first
    | ((with_reducible apply opsF.op rfl); (case hs => (first | exact tHT | exact tHS)))
    | with_reducible (first | apply opsF.nil | apply seqF.nn | apply vcF.seq | apply vcF.region | apply vcF.skip | apply vcF.block | apply vcF.exit | apply vcF.ret | apply vcF.loop | apply seqF.e | apply seqF.r | apply blkF.nn | apply blkF.e | apply blkF.r | apply blkF.o rfl)
    | ((with_reducible apply opsF.call); (case hx => exact tAG))
    | (first | ((with_reducible apply vcF.cond); (case hx => exact tEV))) <;> ((intro hc; try simp only [Int.reduceLT, Int.reduceLE, Int.reduceEq, Int.reduceNe, Int.cast_ofNat_Int, Int.reduceNeg, decide_true, decide_false, not_true_eq_false, not_false_eq_true, decide_eq_true_eq, decide_eq_false_iff_not, Bool.not_eq_true', Bool.not_eq_false', Bool.not_true, Bool.not_false, Bool.false_eq_true, Bool.true_eq_false, Bool.not_eq_true, Bool.not_eq_false, beq_iff_eq, beq_eq_false_iff_ne, bne_iff_ne, bne_eq_false_iff_eq, ne_eq, Int.not_lt, Int.not_le, ge_iff_le, gt_iff_lt, Decidable.not_not, reduceCtorEq, *] at hc) <;> (try (exfalso; omega)))
    | ((with_reducible apply retF.r); (case hv => exact tRS))
    | ((with_reducible apply retF.nn); (case hv => exact tRS)))
      have : a = b := by
        rw [List.take_length, hlen, List.take_length] at he
        exact he
      simp [this]
theorem take_ext {α : Type} {a b : List α} {i : Nat} {x y : α} (h : a.take i = b.take i) (ha : a[i]? = some x) (hb : b[i]? = some y) (e : x = y) : a.take (i + 1) = b.take (i + 1) := by
  rw [List.take_add_one, List.take_add_one, h, ha, hb, e]
theorem take_ne {α : Type} {a b : List α} {i : Nat} {x y : α} (ha : a[i]? = some x) (hb : b[i]? = some y) (e : x ≠ y) : a ≠ b := by
  rintro rfl
  rw [ha] at hb; cases hb; exact e rfl
theorem cellsEq2 (a b c d : List UInt8) : cellsEq [.str, .str] [.v (.string (bs a)), .v (.string (bs b))] [.v (.string (bs c)), .v (.string (bs d))] = some (decide ((a, b) = (c, d))) := by
  have q : ∀ x y : List UInt8, (x == y) = decide (x = y) := fun x y => by rw [Bool.eq_iff_iff]; simp
  simp only [cellsEq, cellEq, bs_toList, q]
  by_cases h1 : a = c <;> by_cases h2 : b = d <;> simp [h1, h2]
theorem cellsEqB (a c : Bool) (b d : List UInt8) : cellsEq [.bool, .str] [.v (.bool a), .v (.string (bs b))] [.v (.bool c), .v (.string (bs d))] = some (decide ((a, b) = (c, d))) := by
  have q : ∀ x y : List UInt8, (x == y) = decide (x = y) := fun x y => by rw [Bool.eq_iff_iff]; simp
  have q2 : ∀ x y : Bool, (x == y) = decide (x = y) := fun x y => by cases x <;> cases y <;> rfl
  simp only [cellsEq, cellEq, bs_toList, q, q2]
  by_cases h1 : a = c <;> by_cases h2 : b = d <;> simp [h1, h2]
theorem rsame_raw (t u : TB) (a1 a2 a3 b1 b2 b3 : Tok) (h : AH) (hl : t.1.length ≤ 140737488351232 ∧ t.2.1.length ≤ 140737488351232 ∧ t.2.2.1.length ≤ 140737488351232) (htx : ∀ x ∈ t.1, x.2.length ≤ 140737488351232) :
    Call P w0 ref14_SameTables [.agg (tabC t a1 a2 a3), .agg (tabC u b1 b2 b3)] h (fun v h' => v = .v (.bool (decide (t = u))) ∧ Ext h h') := by
  obtain ⟨l1, l2, l3⟩ := hl
  obtain ⟨ta, th, tb, ts⟩ := t
  obtain ⟨ua, uh, ub, us⟩ := u
  simp only at l1 l2 l3 htx
  have m1 : (ta.map arow).length = ta.length := List.length_map ..
  have m2 : (th.map hrow).length = th.length := List.length_map ..
  have m3 : (tb.map brow).length = tb.length := List.length_map ..
  have n1 : (ua.map arow).length = ua.length := List.length_map ..
  have n2 : (uh.map hrow).length = uh.length := List.length_map ..
  have n3 : (ub.map brow).length = ub.length := List.length_map ..
  have hE2 : ∀ o1 o2, Ext h ((h.alloc o1).alloc o2) := fun o1 o2 => (Ext.alloc _ _).trans (Ext.alloc _ _)
  refine Call.bodyF b_ref14_SameTables rfl rfl ?_
  unfold c_ref14_SameTables tabC
  by_cases e1 : ta.length = ua.length
  · by_cases e2 : th.length = uh.length
    · by_cases e3 : tb.length = ub.length
      · by_cases e4 : ts = us
        · subst e4
          have e1' : (ta.length : Int) = ua.length := by omega
          have e2' : (th.length : Int) = uh.length := by omega
          have e3' : (tb.length : Int) = ub.length := by omega
          clear e1 e2 e3
          repeat' (first
    | ((with_reducible apply opsF.op rfl); (case hs => (first | exact tHT | exact tHS)))
    | with_reducible (first | apply opsF.nil | apply seqF.nn | apply vcF.seq | apply vcF.region | apply vcF.skip | apply vcF.block | apply vcF.exit | apply vcF.ret | apply vcF.loop | apply seqF.e | apply seqF.r | apply blkF.nn | apply blkF.e | apply blkF.r | apply blkF.o rfl)
    | ((with_reducible apply opsF.call); (case hx => exact tAG))
    | ((with_reducible apply opsF.want); (case hg => exact tEV); (case hb => exact tNB))
    | ((with_reducible apply opsF.skip); (case hg => exact tEV); (case hb => exact tNB))
    | (first | ((with_reducible apply opsF.case); (case hg => exact tEV)) | ((with_reducible apply vcF.cond); (case hx => exact tEV))) <;> ((intro hc; try simp only [Int.reduceLT, Int.reduceLE, Int.reduceEq, Int.reduceNe, Int.cast_ofNat_Int, Int.reduceNeg, decide_true, decide_false, not_true_eq_false, not_false_eq_true, decide_eq_true_eq, decide_eq_false_iff_not, Bool.not_eq_true', Bool.not_eq_false', Bool.not_true, Bool.not_false, Bool.false_eq_true, Bool.true_eq_false, Bool.not_eq_true, Bool.not_eq_false, beq_iff_eq, beq_eq_false_iff_ne, bne_iff_ne, bne_eq_false_iff_eq, ne_eq, Int.not_lt, Int.not_le, ge_iff_le, gt_iff_lt, Decidable.not_not, reduceCtorEq, *] at hc) <;> (try (exfalso; omega)))
    | ((with_reducible apply opsF.und); (case hg => rfl))
    | ((with_reducible apply retF.r); (case hv => exact tRS))
    | ((with_reducible apply retF.nn); (case hv => exact tRS)))
          refine LpF.ind rfl (fun i : Nat => ta.length - i) (fun i σ hh => Ext h hh ∧ hh.objs h.n = some (.cells [.list 2 (ta.map arow) a1, .list 2 (th.map hrow) a2, .list 2 (tb.map brow) a3, .v (.int .i64 ts)]) ∧ hh.objs (h.n + 1) = some (.cells [.list 2 (ua.map arow) b1, .list 2 (uh.map hrow) b2, .list 2 (ub.map brow) b3, .v (.int .i64 ts)]) ∧ σ 2 = .ptr h.n 0 ∧ σ 3 = .ptr (h.n + 1) 0 ∧ σ 5 = .v (.int .i64 (i : Nat)) ∧ i ≤ ta.length ∧ ta.take i = ua.take i) ?_ (i := 0) ⟨hE2 _ _, by exact tHX, by exact tHX, rfl, rfl, rfl, Nat.zero_le _, rfl⟩
          rintro i σ hh ⟨hE, qt, qu, s2, s3, s5, hi, hk⟩
          rcases Nat.lt_or_ge i ta.length with hil | hil
          · obtain ⟨x, hx⟩ : ∃ x, ta[i]? = some x := ⟨_, List.getElem?_eq_getElem hil⟩
            obtain ⟨y, hy⟩ : ∃ y, ua[i]? = some y := ⟨_, List.getElem?_eq_getElem (by omega)⟩
            have rx : (ta.map arow)[i]? = some [.v (.string (bs x.1)), .list 1 (srows x.2) .no] := by rw [List.getElem?_map, hx]; rfl
            have ry : (ua.map arow)[i]? = some [.v (.string (bs y.1)), .list 1 (srows y.2) .no] := by rw [List.getElem?_map, hy]; rfl
            have htc := fun hh => texts_call (w0 := w0) x.2 y.2 .no .no hh (by have := htx x (List.mem_of_getElem? hx); omega)
            have hil' : (i : Int) < ua.length := by omega
            have hx' := hx
            have hy' := hy
            clear hx hy
            obtain ⟨x1, x2⟩ := x
            obtain ⟨y1, y2⟩ := y
            dsimp only at rx ry htc
            by_cases g1 : x1 = y1
            · subst g1
              by_cases g2 : x2 = y2
              · subst g2
                rw [decide_eq_true rfl] at htc
                clear htx
                repeat' (first
    | ((with_reducible apply opsF.op rfl); (case hs => (first | exact tHT | exact tHS)))
    | with_reducible (first | apply opsF.nil | apply seqF.nn | apply vcF.seq | apply vcF.region | apply vcF.skip | apply vcF.block | apply vcF.exit | apply vcF.ret | apply vcF.loop | apply seqF.e | apply seqF.r | apply blkF.nn | apply blkF.e | apply blkF.r | apply blkF.o rfl)
    | ((with_reducible apply opsF.call); (case hx => exact tAG))
    | ((with_reducible apply opsF.want); (case hg => exact tEV); (case hb => exact tNB))
    | ((with_reducible apply opsF.skip); (case hg => exact tEV); (case hb => exact tNB))
    | (first | ((with_reducible apply opsF.case); (case hg => exact tEV)) | ((with_reducible apply vcF.cond); (case hx => exact tEV))) <;> ((intro hc; try simp only [Int.reduceLT, Int.reduceLE, Int.reduceEq, Int.reduceNe, Int.cast_ofNat_Int, Int.reduceNeg, decide_true, decide_false, not_true_eq_false, not_false_eq_true, decide_eq_true_eq, decide_eq_false_iff_not, Bool.not_eq_true', Bool.not_eq_false', Bool.not_true, Bool.not_false, Bool.false_eq_true, Bool.true_eq_false, Bool.not_eq_true, Bool.not_eq_false, beq_iff_eq, beq_eq_false_iff_ne, bne_iff_ne, bne_eq_false_iff_eq, ne_eq, Int.not_lt, Int.not_le, ge_iff_le, gt_iff_lt, Decidable.not_not, reduceCtorEq, *] at hc) <;> (try (exfalso; omega)))
    | ((with_reducible apply opsF.und); (case hg => rfl))
    | ((with_reducible apply retF.r); (case hv => exact tRS))
    | ((with_reducible apply retF.nn); (case hv => exact tRS))
    | ((refine Call.use (htc _) ?_)))
                exact ⟨i + 1, by omega, hE, qt, qu, s2, s3, rfl, by omega, take_ext hk hx' hy' rfl⟩
              · rw [decide_eq_false g2] at htc
                have hne : decide (((ta, th, tb, ts) : TB) = (ua, uh, ub, ts)) = false := decide_eq_false (fun e => take_ne hx' hy' (fun e => g2 (congrArg (·.2) e)) (congrArg (·.1) e))
                rw [hne]
                clear hne htx
                repeat' (first
    | ((with_reducible apply opsF.op rfl); (case hs => (first | exact tHT | exact tHS)))
    | with_reducible (first | apply opsF.nil | apply seqF.nn | apply vcF.seq | apply vcF.region | apply vcF.skip | apply vcF.block | apply vcF.exit | apply vcF.ret | apply vcF.loop | apply seqF.e | apply seqF.r | apply blkF.nn | apply blkF.e | apply blkF.r | apply blkF.o rfl)
    | ((with_reducible apply opsF.call); (case hx => exact tAG))
    | ((with_reducible apply opsF.want); (case hg => exact tEV); (case hb => exact tNB))
    | ((with_reducible apply opsF.skip); (case hg => exact tEV); (case hb => exact tNB))
    | (first | ((with_reducible apply opsF.case); (case hg => exact tEV)) | ((with_reducible apply vcF.cond); (case hx => exact tEV))) <;> ((intro hc; try simp only [Int.reduceLT, Int.reduceLE, Int.reduceEq, Int.reduceNe, Int.cast_ofNat_Int, Int.reduceNeg, decide_true, decide_false, not_true_eq_false, not_false_eq_true, decide_eq_true_eq, decide_eq_false_iff_not, Bool.not_eq_true', Bool.not_eq_false', Bool.not_true, Bool.not_false, Bool.false_eq_true, Bool.true_eq_false, Bool.not_eq_true, Bool.not_eq_false, beq_iff_eq, beq_eq_false_iff_ne, bne_iff_ne, bne_eq_false_iff_eq, ne_eq, Int.not_lt, Int.not_le, ge_iff_le, gt_iff_lt, Decidable.not_not, reduceCtorEq, *] at hc) <;> (try (exfalso; omega)))
    | ((with_reducible apply opsF.und); (case hg => rfl))
    | ((with_reducible apply retF.r); (case hv => exact tRS))
    | ((with_reducible apply retF.nn); (case hv => exact tRS))
    | ((refine Call.use (htc _) ?_)))
                all_goals exact ⟨rfl, hE⟩
            · have hne : decide (((ta, th, tb, ts) : TB) = (ua, uh, ub, ts)) = false := decide_eq_false (fun e => take_ne hx' hy' (fun e => g1 (congrArg (·.1) e)) (congrArg (·.1) e))
              rw [hne]
              clear hne htx
              repeat' (first
    | ((with_reducible apply opsF.op rfl); (case hs => (first | exact tHT | exact tHS)))
    | with_reducible (first | apply opsF.nil | apply seqF.nn | apply vcF.seq | apply vcF.region | apply vcF.skip | apply vcF.block | apply vcF.exit | apply vcF.ret | apply vcF.loop | apply seqF.e | apply seqF.r | apply blkF.nn | apply blkF.e | apply blkF.r | apply blkF.o rfl)
    | ((with_reducible apply opsF.call); (case hx => exact tAG))
    | ((with_reducible apply opsF.want); (case hg => exact tEV); (case hb => exact tNB))
    | ((with_reducible apply opsF.skip); (case hg => exact tEV); (case hb => exact tNB))
    | (first | ((with_reducible apply opsF.case); (case hg => exact tEV)) | ((with_reducible apply vcF.cond); (case hx => exact tEV))) <;> ((intro hc; try simp only [Int.reduceLT, Int.reduceLE, Int.reduceEq, Int.reduceNe, Int.cast_ofNat_Int, Int.reduceNeg, decide_true, decide_false, not_true_eq_false, not_false_eq_true, decide_eq_true_eq, decide_eq_false_iff_not, Bool.not_eq_true', Bool.not_eq_false', Bool.not_true, Bool.not_false, Bool.false_eq_true, Bool.true_eq_false, Bool.not_eq_true, Bool.not_eq_false, beq_iff_eq, beq_eq_false_iff_ne, bne_iff_ne, bne_eq_false_iff_eq, ne_eq, Int.not_lt, Int.not_le, ge_iff_le, gt_iff_lt, Decidable.not_not, reduceCtorEq, *] at hc) <;> (try (exfalso; omega)))
    | ((with_reducible apply opsF.und); (case hg => rfl))
    | ((with_reducible apply retF.r); (case hv => exact tRS))
    | ((with_reducible apply retF.nn); (case hv => exact tRS))
    | ((refine Call.use (htc _) ?_)))
              all_goals exact ⟨rfl, hE⟩
          · have ea : ta = ua := by
              have i1 : i = ta.length := by omega
              rw [i1, List.take_length, List.take_of_length_le (by omega)] at hk
              exact hk
            have hil' : (ta.length : Int) ≤ i := by omega
            clear hk
            repeat' (first
    | ((with_reducible apply opsF.op rfl); (case hs => (first | exact tHT | exact tHS)))
    | with_reducible (first | apply opsF.nil | apply seqF.nn | apply vcF.seq | apply vcF.region | apply vcF.skip | apply vcF.block | apply vcF.exit | apply vcF.ret | apply vcF.loop | apply seqF.e | apply seqF.r | apply blkF.nn | apply blkF.e | apply blkF.r | apply blkF.o rfl)
    | ((with_reducible apply opsF.call); (case hx => exact tAG))
    | ((with_reducible apply opsF.want); (case hg => exact tEV); (case hb => exact tNB))
    | ((with_reducible apply opsF.skip); (case hg => exact tEV); (case hb => exact tNB))
    | (first | ((with_reducible apply opsF.case); (case hg => exact tEV)) | ((with_reducible apply vcF.cond); (case hx => exact tEV))) <;> ((intro hc; try simp only [Int.reduceLT, Int.reduceLE, Int.reduceEq, Int.reduceNe, Int.cast_ofNat_Int, Int.reduceNeg, decide_true, decide_false, not_true_eq_false, not_false_eq_true, decide_eq_true_eq, decide_eq_false_iff_not, Bool.not_eq_true', Bool.not_eq_false', Bool.not_true, Bool.not_false, Bool.false_eq_true, Bool.true_eq_false, Bool.not_eq_true, Bool.not_eq_false, beq_iff_eq, beq_eq_false_iff_ne, bne_iff_ne, bne_eq_false_iff_eq, ne_eq, Int.not_lt, Int.not_le, ge_iff_le, gt_iff_lt, Decidable.not_not, reduceCtorEq, *] at hc) <;> (try (exfalso; omega)))
    | ((with_reducible apply opsF.und); (case hg => rfl))
    | ((with_reducible apply retF.r); (case hv => exact tRS))
    | ((with_reducible apply retF.nn); (case hv => exact tRS)))
            refine LpF.ind rfl (fun i : Nat => th.length - i) (fun i σ hh => Ext h hh ∧ hh.objs h.n = some (.cells [.list 2 (ta.map arow) a1, .list 2 (th.map hrow) a2, .list 2 (tb.map brow) a3, .v (.int .i64 ts)]) ∧ hh.objs (h.n + 1) = some (.cells [.list 2 (ua.map arow) b1, .list 2 (uh.map hrow) b2, .list 2 (ub.map brow) b3, .v (.int .i64 ts)]) ∧ σ 2 = .ptr h.n 0 ∧ σ 3 = .ptr (h.n + 1) 0 ∧ σ 6 = .v (.int .i64 (i : Nat)) ∧ i ≤ th.length ∧ th.take i = uh.take i) ?_ (i := 0) ⟨hE, qt, qu, s2, s3, rfl, Nat.zero_le _, rfl⟩
            clear hE qt qu s2 s3
            rintro i σ hh ⟨hE, qt, qu, s2, s3, s5, hi, hk⟩
            rcases Nat.lt_or_ge i th.length with hil | hil
            · obtain ⟨x, hx⟩ : ∃ x, th[i]? = some x := ⟨_, List.getElem?_eq_getElem hil⟩
              obtain ⟨y, hy⟩ : ∃ y, uh[i]? = some y := ⟨_, List.getElem?_eq_getElem (by omega)⟩
              have rx : (th.map hrow)[i]? = some [.v (.string (bs x.1)), .v (.string (bs x.2))] := by rw [List.getElem?_map, hx]; rfl
              have ry : (uh.map hrow)[i]? = some [.v (.string (bs y.1)), .v (.string (bs y.2))] := by rw [List.getElem?_map, hy]; rfl
              have hil' : (i : Int) < uh.length := by omega
              have hce := cellsEq2 x.1 x.2 y.1 y.2
              have hx' := hx
              have hy' := hy
              clear hx hy
              by_cases g1 : x = y
              · subst g1
                have hd : decide ((x.1, x.2) = (x.1, x.2)) = true := decide_eq_true rfl
                rw [hd] at hce
                clear hd
                repeat' (first
    | ((with_reducible apply opsF.op rfl); (case hs => (first | exact tHT | exact tHS)))
    | with_reducible (first | apply opsF.nil | apply seqF.nn | apply vcF.seq | apply vcF.region | apply vcF.skip | apply vcF.block | apply vcF.exit | apply vcF.ret | apply vcF.loop | apply seqF.e | apply seqF.r | apply blkF.nn | apply blkF.e | apply blkF.r | apply blkF.o rfl)
    | ((with_reducible apply opsF.call); (case hx => exact tAG))
    | ((with_reducible apply opsF.want); (case hg => exact tEV); (case hb => exact tNB))
    | ((with_reducible apply opsF.skip); (case hg => exact tEV); (case hb => exact tNB))
    | (first | ((with_reducible apply opsF.case); (case hg => exact tEV)) | ((with_reducible apply vcF.cond); (case hx => exact tEV))) <;> ((intro hc; try simp only [Int.reduceLT, Int.reduceLE, Int.reduceEq, Int.reduceNe, Int.cast_ofNat_Int, Int.reduceNeg, decide_true, decide_false, not_true_eq_false, not_false_eq_true, decide_eq_true_eq, decide_eq_false_iff_not, Bool.not_eq_true', Bool.not_eq_false', Bool.not_true, Bool.not_false, Bool.false_eq_true, Bool.true_eq_false, Bool.not_eq_true, Bool.not_eq_false, beq_iff_eq, beq_eq_false_iff_ne, bne_iff_ne, bne_eq_false_iff_eq, ne_eq, Int.not_lt, Int.not_le, ge_iff_le, gt_iff_lt, Decidable.not_not, reduceCtorEq, *] at hc) <;> (try (exfalso; omega)))
    | ((with_reducible apply opsF.und); (case hg => rfl))
    | ((with_reducible apply retF.r); (case hv => exact tRS))
    | ((with_reducible apply retF.nn); (case hv => exact tRS)))
                exact ⟨i + 1, by omega, hE, qt, qu, s2, s3, rfl, by omega, take_ext hk hx' hy' rfl⟩
              · have hd : decide ((x.1, x.2) = (y.1, y.2)) = false := decide_eq_false (fun e => g1 (Prod.ext (congrArg (·.1) e) (congrArg (·.2) e)))
                rw [hd] at hce
                have hne : decide (((ta, th, tb, ts) : TB) = (ua, uh, ub, ts)) = false := decide_eq_false (fun e => take_ne hx' hy' g1 (congrArg (·.2.1) e))
                rw [hne]
                clear hne hd
                repeat' (first
    | ((with_reducible apply opsF.op rfl); (case hs => (first | exact tHT | exact tHS)))
    | with_reducible (first | apply opsF.nil | apply seqF.nn | apply vcF.seq | apply vcF.region | apply vcF.skip | apply vcF.block | apply vcF.exit | apply vcF.ret | apply vcF.loop | apply seqF.e | apply seqF.r | apply blkF.nn | apply blkF.e | apply blkF.r | apply blkF.o rfl)
    | ((with_reducible apply opsF.call); (case hx => exact tAG))
    | ((with_reducible apply opsF.want); (case hg => exact tEV); (case hb => exact tNB))
    | ((with_reducible apply opsF.skip); (case hg => exact tEV); (case hb => exact tNB))
    | (first | ((with_reducible apply opsF.case); (case hg => exact tEV)) | ((with_reducible apply vcF.cond); (case hx => exact tEV))) <;> ((intro hc; try simp only [Int.reduceLT, Int.reduceLE, Int.reduceEq, Int.reduceNe, Int.cast_ofNat_Int, Int.reduceNeg, decide_true, decide_false, not_true_eq_false, not_false_eq_true, decide_eq_true_eq, decide_eq_false_iff_not, Bool.not_eq_true', Bool.not_eq_false', Bool.not_true, Bool.not_false, Bool.false_eq_true, Bool.true_eq_false, Bool.not_eq_true, Bool.not_eq_false, beq_iff_eq, beq_eq_false_iff_ne, bne_iff_ne, bne_eq_false_iff_eq, ne_eq, Int.not_lt, Int.not_le, ge_iff_le, gt_iff_lt, Decidable.not_not, reduceCtorEq, *] at hc) <;> (try (exfalso; omega)))
    | ((with_reducible apply opsF.und); (case hg => rfl))
    | ((with_reducible apply retF.r); (case hv => exact tRS))
    | ((with_reducible apply retF.nn); (case hv => exact tRS)))
                all_goals exact ⟨rfl, hE⟩
            · have eb : th = uh := by
                have i1 : i = th.length := by omega
                rw [i1, List.take_length, List.take_of_length_le (by omega)] at hk
                exact hk
              have hil' : (th.length : Int) ≤ i := by omega
              clear hk
              repeat' (first
    | ((with_reducible apply opsF.op rfl); (case hs => (first | exact tHT | exact tHS)))
    | with_reducible (first | apply opsF.nil | apply seqF.nn | apply vcF.seq | apply vcF.region | apply vcF.skip | apply vcF.block | apply vcF.exit | apply vcF.ret | apply vcF.loop | apply seqF.e | apply seqF.r | apply blkF.nn | apply blkF.e | apply blkF.r | apply blkF.o rfl)
    | ((with_reducible apply opsF.call); (case hx => exact tAG))
    | ((with_reducible apply opsF.want); (case hg => exact tEV); (case hb => exact tNB))
    | ((with_reducible apply opsF.skip); (case hg => exact tEV); (case hb => exact tNB))
    | (first | ((with_reducible apply opsF.case); (case hg => exact tEV)) | ((with_reducible apply vcF.cond); (case hx => exact tEV))) <;> ((intro hc; try simp only [Int.reduceLT, Int.reduceLE, Int.reduceEq, Int.reduceNe, Int.cast_ofNat_Int, Int.reduceNeg, decide_true, decide_false, not_true_eq_false, not_false_eq_true, decide_eq_true_eq, decide_eq_false_iff_not, Bool.not_eq_true', Bool.not_eq_false', Bool.not_true, Bool.not_false, Bool.false_eq_true, Bool.true_eq_false, Bool.not_eq_true, Bool.not_eq_false, beq_iff_eq, beq_eq_false_iff_ne, bne_iff_ne, bne_eq_false_iff_eq, ne_eq, Int.not_lt, Int.not_le, ge_iff_le, gt_iff_lt, Decidable.not_not, reduceCtorEq, *] at hc) <;> (try (exfalso; omega)))
    | ((with_reducible apply opsF.und); (case hg => rfl))
    | ((with_reducible apply retF.r); (case hv => exact tRS))
    | ((with_reducible apply retF.nn); (case hv => exact tRS)))
              refine LpF.ind rfl (fun i : Nat => tb.length - i) (fun i σ hh => Ext h hh ∧ hh.objs h.n = some (.cells [.list 2 (ta.map arow) a1, .list 2 (th.map hrow) a2, .list 2 (tb.map brow) a3, .v (.int .i64 ts)]) ∧ hh.objs (h.n + 1) = some (.cells [.list 2 (ua.map arow) b1, .list 2 (uh.map hrow) b2, .list 2 (ub.map brow) b3, .v (.int .i64 ts)]) ∧ σ 2 = .ptr h.n 0 ∧ σ 3 = .ptr (h.n + 1) 0 ∧ σ 7 = .v (.int .i64 (i : Nat)) ∧ i ≤ tb.length ∧ tb.take i = ub.take i) ?_ (i := 0) ⟨hE, qt, qu, s2, s3, rfl, Nat.zero_le _, rfl⟩
              clear hE qt qu s2 s3
              rintro i σ hh ⟨hE, qt, qu, s2, s3, s5, hi, hk⟩
              rcases Nat.lt_or_ge i tb.length with hil | hil
              · obtain ⟨x, hx⟩ : ∃ x, tb[i]? = some x := ⟨_, List.getElem?_eq_getElem hil⟩
                obtain ⟨y, hy⟩ : ∃ y, ub[i]? = some y := ⟨_, List.getElem?_eq_getElem (by omega)⟩
                have rx : (tb.map brow)[i]? = some [.v (.bool x.1), .v (.string (bs x.2))] := by rw [List.getElem?_map, hx]; rfl
                have ry : (ub.map brow)[i]? = some [.v (.bool y.1), .v (.string (bs y.2))] := by rw [List.getElem?_map, hy]; rfl
                have hil' : (i : Int) < ub.length := by omega
                have hce := cellsEqB x.1 y.1 x.2 y.2
                have hx' := hx
                have hy' := hy
                clear hx hy
                by_cases g1 : x = y
                · subst g1
                  have hd : decide ((x.1, x.2) = (x.1, x.2)) = true := decide_eq_true rfl
                  rw [hd] at hce
                  clear hd
                  repeat' (first
    | ((with_reducible apply opsF.op rfl); (case hs => (first | exact tHT | exact tHS)))
    | with_reducible (first | apply opsF.nil | apply seqF.nn | apply vcF.seq | apply vcF.region | apply vcF.skip | apply vcF.block | apply vcF.exit | apply vcF.ret | apply vcF.loop | apply seqF.e | apply seqF.r | apply blkF.nn | apply blkF.e | apply blkF.r | apply blkF.o rfl)
    | ((with_reducible apply opsF.call); (case hx => exact tAG))
    | ((with_reducible apply opsF.want); (case hg => exact tEV); (case hb => exact tNB))
    | ((with_reducible apply opsF.skip); (case hg => exact tEV); (case hb => exact tNB))
    | (first | ((with_reducible apply opsF.case); (case hg => exact tEV)) | ((with_reducible apply vcF.cond); (case hx => exact tEV))) <;> ((intro hc; try simp only [Int.reduceLT, Int.reduceLE, Int.reduceEq, Int.reduceNe, Int.cast_ofNat_Int, Int.reduceNeg, decide_true, decide_false, not_true_eq_false, not_false_eq_true, decide_eq_true_eq, decide_eq_false_iff_not, Bool.not_eq_true', Bool.not_eq_false', Bool.not_true, Bool.not_false, Bool.false_eq_true, Bool.true_eq_false, Bool.not_eq_true, Bool.not_eq_false, beq_iff_eq, beq_eq_false_iff_ne, bne_iff_ne, bne_eq_false_iff_eq, ne_eq, Int.not_lt, Int.not_le, ge_iff_le, gt_iff_lt, Decidable.not_not, reduceCtorEq, *] at hc) <;> (try (exfalso; omega)))
    | ((with_reducible apply opsF.und); (case hg => rfl))
    | ((with_reducible apply retF.r); (case hv => exact tRS))
    | ((with_reducible apply retF.nn); (case hv => exact tRS)))
                  exact ⟨i + 1, by omega, hE, qt, qu, s2, s3, rfl, by omega, take_ext hk hx' hy' rfl⟩
                · have hd : decide ((x.1, x.2) = (y.1, y.2)) = false := decide_eq_false (fun e => g1 (Prod.ext (congrArg (·.1) e) (congrArg (·.2) e)))
                  rw [hd] at hce
                  have hne : decide (((ta, th, tb, ts) : TB) = (ua, uh, ub, ts)) = false := decide_eq_false (fun e => take_ne hx' hy' g1 (congrArg (·.2.2.1) e))
                  rw [hne]
                  clear hne hd
                  repeat' (first
    | ((with_reducible apply opsF.op rfl); (case hs => (first | exact tHT | exact tHS)))
    | with_reducible (first | apply opsF.nil | apply seqF.nn | apply vcF.seq | apply vcF.region | apply vcF.skip | apply vcF.block | apply vcF.exit | apply vcF.ret | apply vcF.loop | apply seqF.e | apply seqF.r | apply blkF.nn | apply blkF.e | apply blkF.r | apply blkF.o rfl)
    | ((with_reducible apply opsF.call); (case hx => exact tAG))
    | ((with_reducible apply opsF.want); (case hg => exact tEV); (case hb => exact tNB))
    | ((with_reducible apply opsF.skip); (case hg => exact tEV); (case hb => exact tNB))
    | (first | ((with_reducible apply opsF.case); (case hg => exact tEV)) | ((with_reducible apply vcF.cond); (case hx => exact tEV))) <;> ((intro hc; try simp only [Int.reduceLT, Int.reduceLE, Int.reduceEq, Int.reduceNe, Int.cast_ofNat_Int, Int.reduceNeg, decide_true, decide_false, not_true_eq_false, not_false_eq_true, decide_eq_true_eq, decide_eq_false_iff_not, Bool.not_eq_true', Bool.not_eq_false', Bool.not_true, Bool.not_false, Bool.false_eq_true, Bool.true_eq_false, Bool.not_eq_true, Bool.not_eq_false, beq_iff_eq, beq_eq_false_iff_ne, bne_iff_ne, bne_eq_false_iff_eq, ne_eq, Int.not_lt, Int.not_le, ge_iff_le, gt_iff_lt, Decidable.not_not, reduceCtorEq, *] at hc) <;> (try (exfalso; omega)))
    | ((with_reducible apply opsF.und); (case hg => rfl))
    | ((with_reducible apply retF.r); (case hv => exact tRS))
    | ((with_reducible apply retF.nn); (case hv => exact tRS)))
                  all_goals exact ⟨rfl, hE⟩
              · have ec : tb = ub := by
                  have i1 : i = tb.length := by omega
                  rw [i1, List.take_length, List.take_of_length_le (by omega)] at hk
                  exact hk
                have hil' : (tb.length : Int) ≤ i := by omega
                clear hk
                repeat' (first
    | ((with_reducible apply opsF.op rfl); (case hs => (first | exact tHT | exact tHS)))
    | with_reducible (first | apply opsF.nil | apply seqF.nn | apply vcF.seq | apply vcF.region | apply vcF.skip | apply vcF.block | apply vcF.exit | apply vcF.ret | apply vcF.loop | apply seqF.e | apply seqF.r | apply blkF.nn | apply blkF.e | apply blkF.r | apply blkF.o rfl)
    | ((with_reducible apply opsF.call); (case hx => exact tAG))
    | ((with_reducible apply opsF.want); (case hg => exact tEV); (case hb => exact tNB))
    | ((with_reducible apply opsF.skip); (case hg => exact tEV); (case hb => exact tNB))
    | (first | ((with_reducible apply opsF.case); (case hg => exact tEV)) | ((with_reducible apply vcF.cond); (case hx => exact tEV))) <;> ((intro hc; try simp only [Int.reduceLT, Int.reduceLE, Int.reduceEq, Int.reduceNe, Int.cast_ofNat_Int, Int.reduceNeg, decide_true, decide_false, not_true_eq_false, not_false_eq_true, decide_eq_true_eq, decide_eq_false_iff_not, Bool.not_eq_true', Bool.not_eq_false', Bool.not_true, Bool.not_false, Bool.false_eq_true, Bool.true_eq_false, Bool.not_eq_true, Bool.not_eq_false, beq_iff_eq, beq_eq_false_iff_ne, bne_iff_ne, bne_eq_false_iff_eq, ne_eq, Int.not_lt, Int.not_le, ge_iff_le, gt_iff_lt, Decidable.not_not, reduceCtorEq, *] at hc) <;> (try (exfalso; omega)))
    | ((with_reducible apply opsF.und); (case hg => rfl))
    | ((with_reducible apply retF.r); (case hv => exact tRS))
    | ((with_reducible apply retF.nn); (case hv => exact tRS)))
                exact ⟨by rw [ea, eb, ec, decide_eq_true rfl], hE⟩
        · have hne : decide (((ta, th, tb, ts) : TB) = (ua, uh, ub, us)) = false := decide_eq_false (fun e => e4 (by cases e; rfl))
          rw [hne]
          have e1' : (ta.length : Int) = ua.length := by omega
          have e2' : (th.length : Int) = uh.length := by omega
          have e3' : (tb.length : Int) = ub.length := by omega
          clear e1 e2 e3
          repeat' (first
    | ((with_reducible apply opsF.op rfl); (case hs => (first | exact tHT | exact tHS)))
    | with_reducible (first | apply opsF.nil | apply seqF.nn | apply vcF.seq | apply vcF.region | apply vcF.skip | apply vcF.block | apply vcF.exit | apply vcF.ret | apply vcF.loop | apply seqF.e | apply seqF.r | apply blkF.nn | apply blkF.e | apply blkF.r | apply blkF.o rfl)
    | ((with_reducible apply opsF.call); (case hx => exact tAG))
    | ((with_reducible apply opsF.want); (case hg => exact tEV); (case hb => exact tNB))
    | ((with_reducible apply opsF.skip); (case hg => exact tEV); (case hb => exact tNB))
    | (first | ((with_reducible apply opsF.case); (case hg => exact tEV)) | ((with_reducible apply vcF.cond); (case hx => exact tEV))) <;> ((intro hc; try simp only [Int.reduceLT, Int.reduceLE, Int.reduceEq, Int.reduceNe, Int.cast_ofNat_Int, Int.reduceNeg, decide_true, decide_false, not_true_eq_false, not_false_eq_true, decide_eq_true_eq, decide_eq_false_iff_not, Bool.not_eq_true', Bool.not_eq_false', Bool.not_true, Bool.not_false, Bool.false_eq_true, Bool.true_eq_false, Bool.not_eq_true, Bool.not_eq_false, beq_iff_eq, beq_eq_false_iff_ne, bne_iff_ne, bne_eq_false_iff_eq, ne_eq, Int.not_lt, Int.not_le, ge_iff_le, gt_iff_lt, Decidable.not_not, reduceCtorEq, *] at hc) <;> (try (exfalso; omega)))
    | ((with_reducible apply opsF.und); (case hg => rfl))
    | ((with_reducible apply retF.r); (case hv => exact tRS))
    | ((with_reducible apply retF.nn); (case hv => exact tRS)))
          all_goals exact ⟨rfl, hE2 _ _⟩
      · have hne : decide (((ta, th, tb, ts) : TB) = (ua, uh, ub, us)) = false := decide_eq_false (fun e => e3 (by cases e; rfl))
        rw [hne]
        have e1' : (ta.length : Int) = ua.length := by omega
        have e2' : (th.length : Int) = uh.length := by omega
        have e3' : ¬ (tb.length : Int) = ub.length := by omega
        clear e1 e2 e3
        repeat' (first
    | ((with_reducible apply opsF.op rfl); (case hs => (first | exact tHT | exact tHS)))
    | with_reducible (first | apply opsF.nil | apply seqF.nn | apply vcF.seq | apply vcF.region | apply vcF.skip | apply vcF.block | apply vcF.exit | apply vcF.ret | apply vcF.loop | apply seqF.e | apply seqF.r | apply blkF.nn | apply blkF.e | apply blkF.r | apply blkF.o rfl)
    | ((with_reducible apply opsF.call); (case hx => exact tAG))
    | ((with_reducible apply opsF.want); (case hg => exact tEV); (case hb => exact tNB))
    | ((with_reducible apply opsF.skip); (case hg => exact tEV); (case hb => exact tNB))
    | (first | ((with_reducible apply opsF.case); (case hg => exact tEV)) | ((with_reducible apply vcF.cond); (case hx => exact tEV))) <;> ((intro hc; try simp only [Int.reduceLT, Int.reduceLE, Int.reduceEq, Int.reduceNe, Int.cast_ofNat_Int, Int.reduceNeg, decide_true, decide_false, not_true_eq_false, not_false_eq_true, decide_eq_true_eq, decide_eq_false_iff_not, Bool.not_eq_true', Bool.not_eq_false', Bool.not_true, Bool.not_false, Bool.false_eq_true, Bool.true_eq_false, Bool.not_eq_true, Bool.not_eq_false, beq_iff_eq, beq_eq_false_iff_ne, bne_iff_ne, bne_eq_false_iff_eq, ne_eq, Int.not_lt, Int.not_le, ge_iff_le, gt_iff_lt, Decidable.not_not, reduceCtorEq, *] at hc) <;> (try (exfalso; omega)))
    | ((with_reducible apply opsF.und); (case hg => rfl))
    | ((with_reducible apply retF.r); (case hv => exact tRS))
    | ((with_reducible apply retF.nn); (case hv => exact tRS)))
        all_goals exact ⟨rfl, hE2 _ _⟩
    · have hne : decide (((ta, th, tb, ts) : TB) = (ua, uh, ub, us)) = false := decide_eq_false (fun e => e2 (by cases e; rfl))
      rw [hne]
      have e1' : (ta.length : Int) = ua.length := by omega
      have e2' : ¬ (th.length : Int) = uh.length := by omega
      clear e1 e2
      repeat' (first
    | ((with_reducible apply opsF.op rfl); (case hs => (first | exact tHT | exact tHS)))
    | with_reducible (first | apply opsF.nil | apply seqF.nn | apply vcF.seq | apply vcF.region | apply vcF.skip | apply vcF.block | apply vcF.exit | apply vcF.ret | apply vcF.loop | apply seqF.e | apply seqF.r | apply blkF.nn | apply blkF.e | apply blkF.r | apply blkF.o rfl)
    | ((with_reducible apply opsF.call); (case hx => exact tAG))
    | ((with_reducible apply opsF.want); (case hg => exact tEV); (case hb => exact tNB))
    | ((with_reducible apply opsF.skip); (case hg => exact tEV); (case hb => exact tNB))
    | (first | ((with_reducible apply opsF.case); (case hg => exact tEV)) | ((with_reducible apply vcF.cond); (case hx => exact tEV))) <;> ((intro hc; try simp only [Int.reduceLT, Int.reduceLE, Int.reduceEq, Int.reduceNe, Int.cast_ofNat_Int, Int.reduceNeg, decide_true, decide_false, not_true_eq_false, not_false_eq_true, decide_eq_true_eq, decide_eq_false_iff_not, Bool.not_eq_true', Bool.not_eq_false', Bool.not_true, Bool.not_false, Bool.false_eq_true, Bool.true_eq_false, Bool.not_eq_true, Bool.not_eq_false, beq_iff_eq, beq_eq_false_iff_ne, bne_iff_ne, bne_eq_false_iff_eq, ne_eq, Int.not_lt, Int.not_le, ge_iff_le, gt_iff_lt, Decidable.not_not, reduceCtorEq, *] at hc) <;> (try (exfalso; omega)))
    | ((with_reducible apply opsF.und); (case hg => rfl))
    | ((with_reducible apply retF.r); (case hv => exact tRS))
    | ((with_reducible apply retF.nn); (case hv => exact tRS)))
      all_goals exact ⟨rfl, hE2 _ _⟩
  · have hne : decide (((ta, th, tb, ts) : TB) = (ua, uh, ub, us)) = false := decide_eq_false (fun e => e1 (by cases e; rfl))
    rw [hne]
    have e1' : ¬ (ta.length : Int) = ua.length := by omega
    clear e1
    repeat' (first
    | ((with_reducible apply opsF.op rfl); (case hs => (first | exact tHT | exact tHS)))
    | with_reducible (first | apply opsF.nil | apply seqF.nn | apply vcF.seq | apply vcF.region | apply vcF.skip | apply vcF.block | apply vcF.exit | apply vcF.ret | apply vcF.loop | apply seqF.e | apply seqF.r | apply blkF.nn | apply blkF.e | apply blkF.r | apply blkF.o rfl)
    | ((with_reducible apply opsF.call); (case hx => exact tAG))
    | ((with_reducible apply opsF.want); (case hg => exact tEV); (case hb => exact tNB))
    | ((with_reducible apply opsF.skip); (case hg => exact tEV); (case hb => exact tNB))
    | (first | ((with_reducible apply opsF.case); (case hg => exact tEV)) | ((with_reducible apply vcF.cond); (case hx => exact tEV))) <;> ((intro hc; try simp only [Int.reduceLT, Int.reduceLE, Int.reduceEq, Int.reduceNe, Int.cast_ofNat_Int, Int.reduceNeg, decide_true, decide_false, not_true_eq_false, not_false_eq_true, decide_eq_true_eq, decide_eq_false_iff_not, Bool.not_eq_true', Bool.not_eq_false', Bool.not_true, Bool.not_false, Bool.false_eq_true, Bool.true_eq_false, Bool.not_eq_true, Bool.not_eq_false, beq_iff_eq, beq_eq_false_iff_ne, bne_iff_ne, bne_eq_false_iff_eq, ne_eq, Int.not_lt, Int.not_le, ge_iff_le, gt_iff_lt, Decidable.not_not, reduceCtorEq, *] at hc) <;> (try (exfalso; omega)))
    | ((with_reducible apply opsF.und); (case hg => rfl))
    | ((with_reducible apply retF.r); (case hv => exact tRS))
    | ((with_reducible apply retF.nn); (case hv => exact tRS)))
    all_goals exact ⟨rfl, hE2 _ _⟩
end Go.Abs.F
