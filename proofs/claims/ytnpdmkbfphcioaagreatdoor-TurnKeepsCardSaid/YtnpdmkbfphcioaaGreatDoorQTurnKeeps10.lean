/- What the proof needs, part 10: Layer 11: which messages may be, the document's; A program logic over abstract states, 22: from the logic to a call of the model; A program logic over abstract states, 23: arguments opened as plain data; Layer 11: what its laws call first. Layer 11: what a law knows of the world; how long a message's parts are; Layer 12: Decode of what Encode wrote, for any message that may be; Layer 12: the document's bytes of a message; Layer 12: the document's bytes of a message, whole. -/
import Derived.ChangeSame
import Derived.ChangeArms
import Derived.SizedLaws
import Derived.Test.YtnpdmkbfphcioaaGreatDoorQTurnKeeps9
/- Layer 11: which messages may be, the document's. -/
namespace Go.Abs.F
open Go Go.Abs
set_option maxRecDepth 10000
set_option maxHeartbeats 20000000
set_option linter.unusedSimpArgs false
set_option linter.unusedVariables false
variable {w0 : World}
theorem refgood_call (m : Msg) (t1 t2 t3 : Tok) (h : AH) (hm : MOk m) : Call P w0 ref08_Good [.agg (msgC m t1 t2 t3)] h (fun v h' => v = .v (.bool (goodM m)) ∧ h' = h) := by
  refine Call.pure (.v _) ?_
  obtain ⟨n1, n2, n3, n4, n5, f, rc, mk, bd⟩ := m
  obtain ⟨hf, hrl, hrs, hml, hbl, hbs⟩ := hm
  simp only at hf hrl hrs hml hbl hbs
  have hF := fun h => rmbox_call (w0 := w0) f h (by omega)
  have hR := fun s (hs : s ∈ rc) h => rmbox_call (w0 := w0) s h (by have := hrs s hs; omega)
  have hB := fun h => rgood_call (w0 := w0) bd t3 h hbl hbs
  have xl := srows_len
  have xg := srows_get
  have yl := irows_len
  have yg := irows_get
  have e1 := srows_len rc
  have e2 := irows_len mk
  have hg : goodM (n1, n2, n3, n4, n5, f, rc, mk, bd) = ([n1, n2, n3, n4, n5].all timeS && (f.isEmpty || mbS f) && decide (1 ≤ rc.length) && decide (rc.length ≤ 20) && rc.all mbS && decide (mk.length ≤ 50) && mk.all markS && bodyS bd) := by
    simp only [goodM, numsS, List.all_cons, List.all_nil, Bool.and_true, Bool.and_assoc]
  rw [hg]
  clear hg hbs hrs
  have hE0 : ∀ o, Ext h (h.alloc o) := fun o => Ext.alloc _ _
  have hL : ∃ L : List Int, L = [n1, n2, n3, n4, n5] ∧ L.length = 5 := ⟨_, rfl, rfl⟩
  generalize bodyS bd = q5 at *
  refine Call.bodyF b_ref08_Good rfl rfl ?_
  unfold c_ref08_Good msgC
  dsimp only
  repeat' (first
| ((with_reducible apply opsF.op rfl); case hs => first | exact tHT | exact tHS)
| (with_reducible first | apply opsF.nil | apply seqF.nn | apply vcF.seq | apply vcF.region | apply vcF.skip | apply vcF.block | apply vcF.exit | apply vcF.ret | apply vcF.loop | apply seqF.e | apply seqF.r | apply blkF.nn | apply blkF.e | apply blkF.r | apply blkF.o rfl)
| ((with_reducible apply opsF.call); case hx => exact tAG)
| ((with_reducible apply opsF.want); (case hg => exact tEV); case hb => exact tNB)
| ((with_reducible apply opsF.skip); (case hg => exact tEV); case hb => exact tNB)
| (first | ((with_reducible apply opsF.case); case hg => exact tEV) | ((with_reducible apply vcF.cond); case hx => exact tEV)) <;> ((intro hc; try simp only [Int.reduceLT, Int.reduceLE, Int.reduceEq, Int.reduceNe, Int.cast_ofNat_Int, Int.reduceNeg, reduceCtorEq, ne_eq, ge_iff_le, gt_iff_lt, beq_iff_eq, beq_eq_false_iff_ne, bne_iff_ne, bne_eq_false_iff_eq, nrm, *] at hc) <;> try (exfalso; omega))
| ((with_reducible apply opsF.und); case hg => rfl)
| ((with_reducible first | apply retF.r | apply retF.nn); case hv => exact tRS))
  refine LpF.ind rfl (fun i : Nat => 5 - i) (fun i σ hh => Ext h hh ∧ hh.objs h.n = some (.cells [.v (.int .i64 n1), .v (.int .i64 n2), .v (.int .i64 n3), .v (.int .i64 n4), .v (.int .i64 n5), .v (.string (bs f)), .list 1 (srows rc) t1, .list 1 (irows mk) t2, .list 1 (srows bd) t3]) ∧ h.n < hh.n ∧ σ 1 = .ptr h.n 0 ∧ (∃ tk, σ 3 = .list 1 (irows [n1, n2, n3, n4, n5]) tk) ∧ σ 4 = .v (.int .i64 (i : Nat)) ∧ i ≤ 5 ∧ ([n1, n2, n3, n4, n5].take i).all timeS = true) ?_ (i := 0) ⟨hE0 _, by simp [alloc_at], by simp [alloc_n], rfl, ⟨_, rfl⟩, rfl, Nat.zero_le _, rfl⟩
  clear hE0
  rintro i σ hh ⟨hE, hM, hn, h1, ⟨tk, h3⟩, h4, hi, ha⟩
  obtain ⟨L, hL1, hL2⟩ := hL
  rw [← hL1] at h3 ha ⊢
  clear hL1
  rcases Nat.lt_or_ge i 5 with hlt | hge
  · obtain ⟨x, hx⟩ : ∃ x, L[i]? = some x := ⟨_, List.getElem?_eq_getElem (by omega)⟩
    cases hb : timeS x with
    | false =>
      rw [all_bad hx hb]
      simp only [Bool.false_and]
      have hb2 : x < 0 ∨ 1099511627776 < x := by
        simp only [timeS, Bool.and_eq_false_iff, decide_eq_false_iff_not] at hb
        omega
      clear hb ha
      rcases hb2 with hb2 | hb2
      · repeat' (first
| ((with_reducible apply opsF.op rfl); case hs => first | exact tHT | exact tHS)
| (with_reducible first | apply opsF.nil | apply seqF.nn | apply vcF.seq | apply vcF.region | apply vcF.skip | apply vcF.block | apply vcF.exit | apply vcF.ret | apply vcF.loop | apply seqF.e | apply seqF.r | apply blkF.nn | apply blkF.e | apply blkF.r | apply blkF.o rfl)
| ((with_reducible apply opsF.call); case hx => exact tAG)
| ((with_reducible apply opsF.want); (case hg => exact tEV); case hb => exact tNB)
| ((with_reducible apply opsF.skip); (case hg => exact tEV); case hb => exact tNB)
| (first | ((with_reducible apply opsF.case); case hg => exact tEV) | ((with_reducible apply vcF.cond); case hx => exact tEV)) <;> ((intro hc; try simp only [Int.reduceLT, Int.reduceLE, Int.reduceEq, Int.reduceNe, Int.cast_ofNat_Int, Int.reduceNeg, reduceCtorEq, ne_eq, ge_iff_le, gt_iff_lt, beq_iff_eq, beq_eq_false_iff_ne, bne_iff_ne, bne_eq_false_iff_eq, nrm, *] at hc) <;> try (exfalso; omega))
| ((with_reducible apply opsF.und); case hg => rfl)
| ((with_reducible first | apply retF.r | apply retF.nn); case hv => exact tRS))
        all_goals exact ⟨rfl, hE⟩
      · repeat' (first
| ((with_reducible apply opsF.op rfl); case hs => first | exact tHT | exact tHS)
| (with_reducible first | apply opsF.nil | apply seqF.nn | apply vcF.seq | apply vcF.region | apply vcF.skip | apply vcF.block | apply vcF.exit | apply vcF.ret | apply vcF.loop | apply seqF.e | apply seqF.r | apply blkF.nn | apply blkF.e | apply blkF.r | apply blkF.o rfl)
| ((with_reducible apply opsF.call); case hx => exact tAG)
| ((with_reducible apply opsF.want); (case hg => exact tEV); case hb => exact tNB)
| ((with_reducible apply opsF.skip); (case hg => exact tEV); case hb => exact tNB)
| (first | ((with_reducible apply opsF.case); case hg => exact tEV) | ((with_reducible apply vcF.cond); case hx => exact tEV)) <;> ((intro hc; try simp only [Int.reduceLT, Int.reduceLE, Int.reduceEq, Int.reduceNe, Int.cast_ofNat_Int, Int.reduceNeg, reduceCtorEq, ne_eq, ge_iff_le, gt_iff_lt, beq_iff_eq, beq_eq_false_iff_ne, bne_iff_ne, bne_eq_false_iff_eq, nrm, *] at hc) <;> try (exfalso; omega))
| ((with_reducible apply opsF.und); case hg => rfl)
| ((with_reducible first | apply retF.r | apply retF.nn); case hv => exact tRS))
        all_goals exact ⟨rfl, hE⟩
    | true =>
      have hnx : (L.take (i + 1)).all timeS = true := by rw [List.take_add_one, hx, List.all_append, ha]; simp [hb]
      simp only [timeS, Bool.and_eq_true, decide_eq_true_eq] at hb
      obtain ⟨hb1, hb2⟩ := hb
      clear ha
      repeat' (first
| ((with_reducible apply opsF.op rfl); case hs => first | exact tHT | exact tHS)
| (with_reducible first | apply opsF.nil | apply seqF.nn | apply vcF.seq | apply vcF.region | apply vcF.skip | apply vcF.block | apply vcF.exit | apply vcF.ret | apply vcF.loop | apply seqF.e | apply seqF.r | apply blkF.nn | apply blkF.e | apply blkF.r | apply blkF.o rfl)
| ((with_reducible apply opsF.call); case hx => exact tAG)
| ((with_reducible apply opsF.want); (case hg => exact tEV); case hb => exact tNB)
| ((with_reducible apply opsF.skip); (case hg => exact tEV); case hb => exact tNB)
| (first | ((with_reducible apply opsF.case); case hg => exact tEV) | ((with_reducible apply vcF.cond); case hx => exact tEV)) <;> ((intro hc; try simp only [Int.reduceLT, Int.reduceLE, Int.reduceEq, Int.reduceNe, Int.cast_ofNat_Int, Int.reduceNeg, reduceCtorEq, ne_eq, ge_iff_le, gt_iff_lt, beq_iff_eq, beq_eq_false_iff_ne, bne_iff_ne, bne_eq_false_iff_eq, nrm, *] at hc) <;> try (exfalso; omega))
| ((with_reducible apply opsF.und); case hg => rfl)
| ((with_reducible first | apply retF.r | apply retF.nn); case hv => exact tRS))
      exact ⟨i + 1, by omega, hE, hM, hn, h1, ⟨tk, h3⟩, rfl, by omega, hnx⟩
  · obtain rfl : i = 5 := by omega
    have ha2 : L.all timeS = true := by rw [← ha, ← hL2, List.take_length]
    rw [ha2]
    clear ha ha2
    simp only [Bool.true_and]
    cases f with
    | nil =>
      clear hF
      simp only [List.isEmpty_nil, Bool.true_or, Bool.true_and]
      rcases Nat.lt_or_ge rc.length 1 with g1 | g1
      · rw [decide_eq_false (show ¬ 1 ≤ rc.length by omega)]
        simp only [Bool.and_false, Bool.false_and]
        repeat' (first
| ((with_reducible apply opsF.op rfl); case hs => first | exact tHT | exact tHS)
| (with_reducible first | apply opsF.nil | apply seqF.nn | apply vcF.seq | apply vcF.region | apply vcF.skip | apply vcF.block | apply vcF.exit | apply vcF.ret | apply vcF.loop | apply seqF.e | apply seqF.r | apply blkF.nn | apply blkF.e | apply blkF.r | apply blkF.o rfl)
| ((with_reducible apply opsF.call); case hx => exact tAG)
| ((with_reducible apply opsF.want); (case hg => exact tEV); case hb => exact tNB)
| ((with_reducible apply opsF.skip); (case hg => exact tEV); case hb => exact tNB)
| (first | ((with_reducible apply opsF.case); case hg => exact tEV) | ((with_reducible apply vcF.cond); case hx => exact tEV)) <;> ((intro hc; try simp only [Int.reduceLT, Int.reduceLE, Int.reduceEq, Int.reduceNe, Int.cast_ofNat_Int, Int.reduceNeg, reduceCtorEq, ne_eq, ge_iff_le, gt_iff_lt, beq_iff_eq, beq_eq_false_iff_ne, bne_iff_ne, bne_eq_false_iff_eq, nrm, *] at hc) <;> try (exfalso; omega))
| ((with_reducible apply opsF.und); case hg => rfl)
| ((with_reducible first | apply retF.r | apply retF.nn); case hv => exact tRS)
| ((refine Call.use (hB _) ?_)))
        all_goals exact ⟨rfl, hE⟩
      rw [decide_eq_true g1]
      rcases Nat.lt_or_ge 20 rc.length with g2 | g2
      · rw [decide_eq_false (show ¬ rc.length ≤ 20 by omega)]
        simp only [Bool.and_false, Bool.false_and]
        repeat' (first
| ((with_reducible apply opsF.op rfl); case hs => first | exact tHT | exact tHS)
| (with_reducible first | apply opsF.nil | apply seqF.nn | apply vcF.seq | apply vcF.region | apply vcF.skip | apply vcF.block | apply vcF.exit | apply vcF.ret | apply vcF.loop | apply seqF.e | apply seqF.r | apply blkF.nn | apply blkF.e | apply blkF.r | apply blkF.o rfl)
| ((with_reducible apply opsF.call); case hx => exact tAG)
| ((with_reducible apply opsF.want); (case hg => exact tEV); case hb => exact tNB)
| ((with_reducible apply opsF.skip); (case hg => exact tEV); case hb => exact tNB)
| (first | ((with_reducible apply opsF.case); case hg => exact tEV) | ((with_reducible apply vcF.cond); case hx => exact tEV)) <;> ((intro hc; try simp only [Int.reduceLT, Int.reduceLE, Int.reduceEq, Int.reduceNe, Int.cast_ofNat_Int, Int.reduceNeg, reduceCtorEq, ne_eq, ge_iff_le, gt_iff_lt, beq_iff_eq, beq_eq_false_iff_ne, bne_iff_ne, bne_eq_false_iff_eq, nrm, *] at hc) <;> try (exfalso; omega))
| ((with_reducible apply opsF.und); case hg => rfl)
| ((with_reducible first | apply retF.r | apply retF.nn); case hv => exact tRS)
| ((refine Call.use (hB _) ?_)))
        all_goals exact ⟨rfl, hE⟩
      rw [decide_eq_true g2]
      rcases Nat.lt_or_ge 50 mk.length with g3 | g3
      · rw [decide_eq_false (show ¬ mk.length ≤ 50 by omega)]
        simp only [Bool.and_false, Bool.false_and]
        repeat' (first
| ((with_reducible apply opsF.op rfl); case hs => first | exact tHT | exact tHS)
| (with_reducible first | apply opsF.nil | apply seqF.nn | apply vcF.seq | apply vcF.region | apply vcF.skip | apply vcF.block | apply vcF.exit | apply vcF.ret | apply vcF.loop | apply seqF.e | apply seqF.r | apply blkF.nn | apply blkF.e | apply blkF.r | apply blkF.o rfl)
| ((with_reducible apply opsF.call); case hx => exact tAG)
| ((with_reducible apply opsF.want); (case hg => exact tEV); case hb => exact tNB)
| ((with_reducible apply opsF.skip); (case hg => exact tEV); case hb => exact tNB)
| (first | ((with_reducible apply opsF.case); case hg => exact tEV) | ((with_reducible apply vcF.cond); case hx => exact tEV)) <;> ((intro hc; try simp only [Int.reduceLT, Int.reduceLE, Int.reduceEq, Int.reduceNe, Int.cast_ofNat_Int, Int.reduceNeg, reduceCtorEq, ne_eq, ge_iff_le, gt_iff_lt, beq_iff_eq, beq_eq_false_iff_ne, bne_iff_ne, bne_eq_false_iff_eq, nrm, *] at hc) <;> try (exfalso; omega))
| ((with_reducible apply opsF.und); case hg => rfl)
| ((with_reducible first | apply retF.r | apply retF.nn); case hv => exact tRS)
| ((refine Call.use (hB _) ?_)))
        all_goals exact ⟨rfl, hE⟩
      rw [decide_eq_true g3]
      cases q5 with
      | false =>
        simp only [Bool.and_false, Bool.false_and]
        repeat' (first
| ((with_reducible apply opsF.op rfl); case hs => first | exact tHT | exact tHS)
| (with_reducible first | apply opsF.nil | apply seqF.nn | apply vcF.seq | apply vcF.region | apply vcF.skip | apply vcF.block | apply vcF.exit | apply vcF.ret | apply vcF.loop | apply seqF.e | apply seqF.r | apply blkF.nn | apply blkF.e | apply blkF.r | apply blkF.o rfl)
| ((with_reducible apply opsF.call); case hx => exact tAG)
| ((with_reducible apply opsF.want); (case hg => exact tEV); case hb => exact tNB)
| ((with_reducible apply opsF.skip); (case hg => exact tEV); case hb => exact tNB)
| (first | ((with_reducible apply opsF.case); case hg => exact tEV) | ((with_reducible apply vcF.cond); case hx => exact tEV)) <;> ((intro hc; try simp only [Int.reduceLT, Int.reduceLE, Int.reduceEq, Int.reduceNe, Int.cast_ofNat_Int, Int.reduceNeg, reduceCtorEq, ne_eq, ge_iff_le, gt_iff_lt, beq_iff_eq, beq_eq_false_iff_ne, bne_iff_ne, bne_eq_false_iff_eq, nrm, *] at hc) <;> try (exfalso; omega))
| ((with_reducible apply opsF.und); case hg => rfl)
| ((with_reducible first | apply retF.r | apply retF.nn); case hv => exact tRS)
| ((refine Call.use (hB _) ?_)))
        all_goals exact ⟨rfl, hE⟩
      | true =>
        simp only [Bool.and_true, Bool.true_and]
        repeat' (first
| ((with_reducible apply opsF.op rfl); case hs => first | exact tHT | exact tHS)
| (with_reducible first | apply opsF.nil | apply seqF.nn | apply vcF.seq | apply vcF.region | apply vcF.skip | apply vcF.block | apply vcF.exit | apply vcF.ret | apply vcF.loop | apply seqF.e | apply seqF.r | apply blkF.nn | apply blkF.e | apply blkF.r | apply blkF.o rfl)
| ((with_reducible apply opsF.call); case hx => exact tAG)
| ((with_reducible apply opsF.want); (case hg => exact tEV); case hb => exact tNB)
| ((with_reducible apply opsF.skip); (case hg => exact tEV); case hb => exact tNB)
| (first | ((with_reducible apply opsF.case); case hg => exact tEV) | ((with_reducible apply vcF.cond); case hx => exact tEV)) <;> ((intro hc; try simp only [Int.reduceLT, Int.reduceLE, Int.reduceEq, Int.reduceNe, Int.cast_ofNat_Int, Int.reduceNeg, reduceCtorEq, ne_eq, ge_iff_le, gt_iff_lt, beq_iff_eq, beq_eq_false_iff_ne, bne_iff_ne, bne_eq_false_iff_eq, nrm, *] at hc) <;> try (exfalso; omega))
| ((with_reducible apply opsF.und); case hg => rfl)
| ((with_reducible first | apply retF.r | apply retF.nn); case hv => exact tRS)
| ((refine Call.use (hB _) ?_)))
        refine LpF.ind rfl (fun i : Nat => rc.length - i) (fun i σ hh => Ext h hh ∧ hh.objs h.n = some (.cells [.v (.int .i64 n1), .v (.int .i64 n2), .v (.int .i64 n3), .v (.int .i64 n4), .v (.int .i64 n5), .v (.string (bs [])), .list 1 (srows rc) t1, .list 1 (irows mk) t2, .list 1 (srows bd) t3]) ∧ h.n < hh.n ∧ σ 1 = .ptr h.n 0 ∧ σ 5 = .v (.int .i64 (i : Nat)) ∧ i ≤ rc.length ∧ (rc.take i).all mbS = true) ?_ (i := 0) ⟨hE, hM, hn, h1, rfl, Nat.zero_le _, rfl⟩
        clear hE hM hn h1 h3 h4
        rintro i σ hh ⟨hE, hM, hn, h1, h5, hi, ha⟩
        rcases Nat.lt_or_ge i rc.length with hlt | hge
        · obtain ⟨x, hx⟩ : ∃ x, rc[i]? = some x := ⟨_, List.getElem?_eq_getElem hlt⟩
          have hRx := hR x (List.mem_of_getElem? hx)
          clear hR
          cases hb : mbS x with
          | false =>
            rw [all_bad hx hb]
            simp only [Bool.false_and]
            rw [hb] at hRx
            clear hb ha
            repeat' (first
| ((with_reducible apply opsF.op rfl); case hs => first | exact tHT | exact tHS)
| (with_reducible first | apply opsF.nil | apply seqF.nn | apply vcF.seq | apply vcF.region | apply vcF.skip | apply vcF.block | apply vcF.exit | apply vcF.ret | apply vcF.loop | apply seqF.e | apply seqF.r | apply blkF.nn | apply blkF.e | apply blkF.r | apply blkF.o rfl)
| ((with_reducible apply opsF.call); case hx => exact tAG)
| ((with_reducible apply opsF.want); (case hg => exact tEV); case hb => exact tNB)
| ((with_reducible apply opsF.skip); (case hg => exact tEV); case hb => exact tNB)
| (first | ((with_reducible apply opsF.case); case hg => exact tEV) | ((with_reducible apply vcF.cond); case hx => exact tEV)) <;> ((intro hc; try simp only [Int.reduceLT, Int.reduceLE, Int.reduceEq, Int.reduceNe, Int.cast_ofNat_Int, Int.reduceNeg, reduceCtorEq, ne_eq, ge_iff_le, gt_iff_lt, beq_iff_eq, beq_eq_false_iff_ne, bne_iff_ne, bne_eq_false_iff_eq, nrm, *] at hc) <;> try (exfalso; omega))
| ((with_reducible apply opsF.und); case hg => rfl)
| ((with_reducible first | apply retF.r | apply retF.nn); case hv => exact tRS)
| ((refine Call.use (hRx _) ?_)))
            all_goals exact ⟨rfl, hE⟩
          | true =>
            have hnx : (rc.take (i + 1)).all mbS = true := by rw [List.take_add_one, hx, List.all_append, ha]; simp [hb]
            rw [hb] at hRx
            clear hb ha
            repeat' (first
| ((with_reducible apply opsF.op rfl); case hs => first | exact tHT | exact tHS)
| (with_reducible first | apply opsF.nil | apply seqF.nn | apply vcF.seq | apply vcF.region | apply vcF.skip | apply vcF.block | apply vcF.exit | apply vcF.ret | apply vcF.loop | apply seqF.e | apply seqF.r | apply blkF.nn | apply blkF.e | apply blkF.r | apply blkF.o rfl)
| ((with_reducible apply opsF.call); case hx => exact tAG)
| ((with_reducible apply opsF.want); (case hg => exact tEV); case hb => exact tNB)
| ((with_reducible apply opsF.skip); (case hg => exact tEV); case hb => exact tNB)
| (first | ((with_reducible apply opsF.case); case hg => exact tEV) | ((with_reducible apply vcF.cond); case hx => exact tEV)) <;> ((intro hc; try simp only [Int.reduceLT, Int.reduceLE, Int.reduceEq, Int.reduceNe, Int.cast_ofNat_Int, Int.reduceNeg, reduceCtorEq, ne_eq, ge_iff_le, gt_iff_lt, beq_iff_eq, beq_eq_false_iff_ne, bne_iff_ne, bne_eq_false_iff_eq, nrm, *] at hc) <;> try (exfalso; omega))
| ((with_reducible apply opsF.und); case hg => rfl)
| ((with_reducible first | apply retF.r | apply retF.nn); case hv => exact tRS)
| ((refine Call.use (hRx _) ?_)))
            exact ⟨i + 1, by omega, hE, hM, hn, h1, rfl, by omega, hnx⟩
        · obtain rfl : i = rc.length := by omega
          rw [List.take_length] at ha
          rw [ha]
          simp only [Bool.true_and]
          clear ha
          repeat' (first
| ((with_reducible apply opsF.op rfl); case hs => first | exact tHT | exact tHS)
| (with_reducible first | apply opsF.nil | apply seqF.nn | apply vcF.seq | apply vcF.region | apply vcF.skip | apply vcF.block | apply vcF.exit | apply vcF.ret | apply vcF.loop | apply seqF.e | apply seqF.r | apply blkF.nn | apply blkF.e | apply blkF.r | apply blkF.o rfl)
| ((with_reducible apply opsF.call); case hx => exact tAG)
| ((with_reducible apply opsF.want); (case hg => exact tEV); case hb => exact tNB)
| ((with_reducible apply opsF.skip); (case hg => exact tEV); case hb => exact tNB)
| (first | ((with_reducible apply opsF.case); case hg => exact tEV) | ((with_reducible apply vcF.cond); case hx => exact tEV)) <;> ((intro hc; try simp only [Int.reduceLT, Int.reduceLE, Int.reduceEq, Int.reduceNe, Int.cast_ofNat_Int, Int.reduceNeg, reduceCtorEq, ne_eq, ge_iff_le, gt_iff_lt, beq_iff_eq, beq_eq_false_iff_ne, bne_iff_ne, bne_eq_false_iff_eq, nrm, *] at hc) <;> try (exfalso; omega))
| ((with_reducible apply opsF.und); case hg => rfl)
| ((with_reducible first | apply retF.r | apply retF.nn); case hv => exact tRS))
          refine LpF.ind rfl (fun i : Nat => mk.length - i) (fun i σ hh => Ext h hh ∧ hh.objs h.n = some (.cells [.v (.int .i64 n1), .v (.int .i64 n2), .v (.int .i64 n3), .v (.int .i64 n4), .v (.int .i64 n5), .v (.string (bs [])), .list 1 (srows rc) t1, .list 1 (irows mk) t2, .list 1 (srows bd) t3]) ∧ h.n < hh.n ∧ σ 1 = .ptr h.n 0 ∧ σ 6 = .v (.int .i64 (i : Nat)) ∧ i ≤ mk.length ∧ (mk.take i).all markS = true) ?_ (i := 0) ⟨hE, hM, hn, h1, rfl, Nat.zero_le _, rfl⟩
          clear hE hM hn h1 h5
          rintro i σ hh ⟨hE, hM, hn, h1, h6, hi, ha⟩
          rcases Nat.lt_or_ge i mk.length with hlt | hge
          · obtain ⟨x, hx⟩ : ∃ x, mk[i]? = some x := ⟨_, List.getElem?_eq_getElem hlt⟩
            cases hb : markS x with
            | false =>
              rw [all_bad hx hb]
              have hb2 : x < 0 ∨ 2 < x := by
                simp only [markS, Bool.and_eq_false_iff, decide_eq_false_iff_not] at hb
                omega
              clear hb ha
              rcases hb2 with hb2 | hb2
              · repeat' (first
| ((with_reducible apply opsF.op rfl); case hs => first | exact tHT | exact tHS)
| (with_reducible first | apply opsF.nil | apply seqF.nn | apply vcF.seq | apply vcF.region | apply vcF.skip | apply vcF.block | apply vcF.exit | apply vcF.ret | apply vcF.loop | apply seqF.e | apply seqF.r | apply blkF.nn | apply blkF.e | apply blkF.r | apply blkF.o rfl)
| ((with_reducible apply opsF.call); case hx => exact tAG)
| ((with_reducible apply opsF.want); (case hg => exact tEV); case hb => exact tNB)
| ((with_reducible apply opsF.skip); (case hg => exact tEV); case hb => exact tNB)
| (first | ((with_reducible apply opsF.case); case hg => exact tEV) | ((with_reducible apply vcF.cond); case hx => exact tEV)) <;> ((intro hc; try simp only [Int.reduceLT, Int.reduceLE, Int.reduceEq, Int.reduceNe, Int.cast_ofNat_Int, Int.reduceNeg, reduceCtorEq, ne_eq, ge_iff_le, gt_iff_lt, beq_iff_eq, beq_eq_false_iff_ne, bne_iff_ne, bne_eq_false_iff_eq, nrm, *] at hc) <;> try (exfalso; omega))
| ((with_reducible apply opsF.und); case hg => rfl)
| ((with_reducible first | apply retF.r | apply retF.nn); case hv => exact tRS))
                all_goals exact ⟨rfl, hE⟩
              · repeat' (first
| ((with_reducible apply opsF.op rfl); case hs => first | exact tHT | exact tHS)
| (with_reducible first | apply opsF.nil | apply seqF.nn | apply vcF.seq | apply vcF.region | apply vcF.skip | apply vcF.block | apply vcF.exit | apply vcF.ret | apply vcF.loop | apply seqF.e | apply seqF.r | apply blkF.nn | apply blkF.e | apply blkF.r | apply blkF.o rfl)
| ((with_reducible apply opsF.call); case hx => exact tAG)
| ((with_reducible apply opsF.want); (case hg => exact tEV); case hb => exact tNB)
| ((with_reducible apply opsF.skip); (case hg => exact tEV); case hb => exact tNB)
| (first | ((with_reducible apply opsF.case); case hg => exact tEV) | ((with_reducible apply vcF.cond); case hx => exact tEV)) <;> ((intro hc; try simp only [Int.reduceLT, Int.reduceLE, Int.reduceEq, Int.reduceNe, Int.cast_ofNat_Int, Int.reduceNeg, reduceCtorEq, ne_eq, ge_iff_le, gt_iff_lt, beq_iff_eq, beq_eq_false_iff_ne, bne_iff_ne, bne_eq_false_iff_eq, nrm, *] at hc) <;> try (exfalso; omega))
| ((with_reducible apply opsF.und); case hg => rfl)
| ((with_reducible first | apply retF.r | apply retF.nn); case hv => exact tRS))
                all_goals exact ⟨rfl, hE⟩
            | true =>
              have hnx : (mk.take (i + 1)).all markS = true := by rw [List.take_add_one, hx, List.all_append, ha]; simp [hb]
              simp only [markS, Bool.and_eq_true, decide_eq_true_eq] at hb
              obtain ⟨hb1, hb2⟩ := hb
              clear ha
              repeat' (first
| ((with_reducible apply opsF.op rfl); case hs => first | exact tHT | exact tHS)
| (with_reducible first | apply opsF.nil | apply seqF.nn | apply vcF.seq | apply vcF.region | apply vcF.skip | apply vcF.block | apply vcF.exit | apply vcF.ret | apply vcF.loop | apply seqF.e | apply seqF.r | apply blkF.nn | apply blkF.e | apply blkF.r | apply blkF.o rfl)
| ((with_reducible apply opsF.call); case hx => exact tAG)
| ((with_reducible apply opsF.want); (case hg => exact tEV); case hb => exact tNB)
| ((with_reducible apply opsF.skip); (case hg => exact tEV); case hb => exact tNB)
| (first | ((with_reducible apply opsF.case); case hg => exact tEV) | ((with_reducible apply vcF.cond); case hx => exact tEV)) <;> ((intro hc; try simp only [Int.reduceLT, Int.reduceLE, Int.reduceEq, Int.reduceNe, Int.cast_ofNat_Int, Int.reduceNeg, reduceCtorEq, ne_eq, ge_iff_le, gt_iff_lt, beq_iff_eq, beq_eq_false_iff_ne, bne_iff_ne, bne_eq_false_iff_eq, nrm, *] at hc) <;> try (exfalso; omega))
| ((with_reducible apply opsF.und); case hg => rfl)
| ((with_reducible first | apply retF.r | apply retF.nn); case hv => exact tRS))
              exact ⟨i + 1, by omega, hE, hM, hn, h1, rfl, by omega, hnx⟩
          · obtain rfl : i = mk.length := by omega
            rw [List.take_length] at ha
            rw [ha]
            clear ha
            repeat' (first
| ((with_reducible apply opsF.op rfl); case hs => first | exact tHT | exact tHS)
| (with_reducible first | apply opsF.nil | apply seqF.nn | apply vcF.seq | apply vcF.region | apply vcF.skip | apply vcF.block | apply vcF.exit | apply vcF.ret | apply vcF.loop | apply seqF.e | apply seqF.r | apply blkF.nn | apply blkF.e | apply blkF.r | apply blkF.o rfl)
| ((with_reducible apply opsF.call); case hx => exact tAG)
| ((with_reducible apply opsF.want); (case hg => exact tEV); case hb => exact tNB)
| ((with_reducible apply opsF.skip); (case hg => exact tEV); case hb => exact tNB)
| (first | ((with_reducible apply opsF.case); case hg => exact tEV) | ((with_reducible apply vcF.cond); case hx => exact tEV)) <;> ((intro hc; try simp only [Int.reduceLT, Int.reduceLE, Int.reduceEq, Int.reduceNe, Int.cast_ofNat_Int, Int.reduceNeg, reduceCtorEq, ne_eq, ge_iff_le, gt_iff_lt, beq_iff_eq, beq_eq_false_iff_ne, bne_iff_ne, bne_eq_false_iff_eq, nrm, *] at hc) <;> try (exfalso; omega))
| ((with_reducible apply opsF.und); case hg => rfl)
| ((with_reducible first | apply retF.r | apply retF.nn); case hv => exact tRS))
            all_goals exact ⟨rfl, hE⟩
    | cons c f =>
      have hfe : (c :: f).isEmpty = false := rfl
      have hfn : ¬ (c :: f) = [] := by simp
      rw [hfe]
      generalize mbS (c :: f) = q2 at *
      generalize c :: f = f at *
      cases q2 with
      | false =>
        simp only [Bool.or_false, Bool.false_and]
        repeat' (first
| ((with_reducible apply opsF.op rfl); case hs => first | exact tHT | exact tHS)
| (with_reducible first | apply opsF.nil | apply seqF.nn | apply vcF.seq | apply vcF.region | apply vcF.skip | apply vcF.block | apply vcF.exit | apply vcF.ret | apply vcF.loop | apply seqF.e | apply seqF.r | apply blkF.nn | apply blkF.e | apply blkF.r | apply blkF.o rfl)
| ((with_reducible apply opsF.call); case hx => exact tAG)
| ((with_reducible apply opsF.want); (case hg => exact tEV); case hb => exact tNB)
| ((with_reducible apply opsF.skip); (case hg => exact tEV); case hb => exact tNB)
| (first | ((with_reducible apply opsF.case); case hg => exact tEV) | ((with_reducible apply vcF.cond); case hx => exact tEV)) <;> ((intro hc; try simp only [Int.reduceLT, Int.reduceLE, Int.reduceEq, Int.reduceNe, Int.cast_ofNat_Int, Int.reduceNeg, reduceCtorEq, ne_eq, ge_iff_le, gt_iff_lt, beq_iff_eq, beq_eq_false_iff_ne, bne_iff_ne, bne_eq_false_iff_eq, nrm, *] at hc) <;> try (exfalso; omega))
| ((with_reducible apply opsF.und); case hg => rfl)
| ((with_reducible first | apply retF.r | apply retF.nn); case hv => exact tRS)
| ((refine Call.use (hF _) ?_))
| ((refine Call.use (hB _) ?_)))
        all_goals exact ⟨rfl, hE⟩
      | true =>
        simp only [Bool.or_true, Bool.true_and]
        rcases Nat.lt_or_ge rc.length 1 with g1 | g1
        · rw [decide_eq_false (show ¬ 1 ≤ rc.length by omega)]
          simp only [Bool.and_false, Bool.false_and]
          repeat' (first
| ((with_reducible apply opsF.op rfl); case hs => first | exact tHT | exact tHS)
| (with_reducible first | apply opsF.nil | apply seqF.nn | apply vcF.seq | apply vcF.region | apply vcF.skip | apply vcF.block | apply vcF.exit | apply vcF.ret | apply vcF.loop | apply seqF.e | apply seqF.r | apply blkF.nn | apply blkF.e | apply blkF.r | apply blkF.o rfl)
| ((with_reducible apply opsF.call); case hx => exact tAG)
| ((with_reducible apply opsF.want); (case hg => exact tEV); case hb => exact tNB)
| ((with_reducible apply opsF.skip); (case hg => exact tEV); case hb => exact tNB)
| (first | ((with_reducible apply opsF.case); case hg => exact tEV) | ((with_reducible apply vcF.cond); case hx => exact tEV)) <;> ((intro hc; try simp only [Int.reduceLT, Int.reduceLE, Int.reduceEq, Int.reduceNe, Int.cast_ofNat_Int, Int.reduceNeg, reduceCtorEq, ne_eq, ge_iff_le, gt_iff_lt, beq_iff_eq, beq_eq_false_iff_ne, bne_iff_ne, bne_eq_false_iff_eq, nrm, *] at hc) <;> try (exfalso; omega))
| ((with_reducible apply opsF.und); case hg => rfl)
| ((with_reducible first | apply retF.r | apply retF.nn); case hv => exact tRS)
| ((refine Call.use (hF _) ?_))
| ((refine Call.use (hB _) ?_)))
          all_goals exact ⟨rfl, hE⟩
        rw [decide_eq_true g1]
        rcases Nat.lt_or_ge 20 rc.length with g2 | g2
        · rw [decide_eq_false (show ¬ rc.length ≤ 20 by omega)]
          simp only [Bool.and_false, Bool.false_and]
          repeat' (first
| ((with_reducible apply opsF.op rfl); case hs => first | exact tHT | exact tHS)
| (with_reducible first | apply opsF.nil | apply seqF.nn | apply vcF.seq | apply vcF.region | apply vcF.skip | apply vcF.block | apply vcF.exit | apply vcF.ret | apply vcF.loop | apply seqF.e | apply seqF.r | apply blkF.nn | apply blkF.e | apply blkF.r | apply blkF.o rfl)
| ((with_reducible apply opsF.call); case hx => exact tAG)
| ((with_reducible apply opsF.want); (case hg => exact tEV); case hb => exact tNB)
| ((with_reducible apply opsF.skip); (case hg => exact tEV); case hb => exact tNB)
| (first | ((with_reducible apply opsF.case); case hg => exact tEV) | ((with_reducible apply vcF.cond); case hx => exact tEV)) <;> ((intro hc; try simp only [Int.reduceLT, Int.reduceLE, Int.reduceEq, Int.reduceNe, Int.cast_ofNat_Int, Int.reduceNeg, reduceCtorEq, ne_eq, ge_iff_le, gt_iff_lt, beq_iff_eq, beq_eq_false_iff_ne, bne_iff_ne, bne_eq_false_iff_eq, nrm, *] at hc) <;> try (exfalso; omega))
| ((with_reducible apply opsF.und); case hg => rfl)
| ((with_reducible first | apply retF.r | apply retF.nn); case hv => exact tRS)
| ((refine Call.use (hF _) ?_))
| ((refine Call.use (hB _) ?_)))
          all_goals exact ⟨rfl, hE⟩
        rw [decide_eq_true g2]
        rcases Nat.lt_or_ge 50 mk.length with g3 | g3
        · rw [decide_eq_false (show ¬ mk.length ≤ 50 by omega)]
          simp only [Bool.and_false, Bool.false_and]
          repeat' (first
| ((with_reducible apply opsF.op rfl); case hs => first | exact tHT | exact tHS)
| (with_reducible first | apply opsF.nil | apply seqF.nn | apply vcF.seq | apply vcF.region | apply vcF.skip | apply vcF.block | apply vcF.exit | apply vcF.ret | apply vcF.loop | apply seqF.e | apply seqF.r | apply blkF.nn | apply blkF.e | apply blkF.r | apply blkF.o rfl)
| ((with_reducible apply opsF.call); case hx => exact tAG)
| ((with_reducible apply opsF.want); (case hg => exact tEV); case hb => exact tNB)
| ((with_reducible apply opsF.skip); (case hg => exact tEV); case hb => exact tNB)
| (first | ((with_reducible apply opsF.case); case hg => exact tEV) | ((with_reducible apply vcF.cond); case hx => exact tEV)) <;> ((intro hc; try simp only [Int.reduceLT, Int.reduceLE, Int.reduceEq, Int.reduceNe, Int.cast_ofNat_Int, Int.reduceNeg, reduceCtorEq, ne_eq, ge_iff_le, gt_iff_lt, beq_iff_eq, beq_eq_false_iff_ne, bne_iff_ne, bne_eq_false_iff_eq, nrm, *] at hc) <;> try (exfalso; omega))
| ((with_reducible apply opsF.und); case hg => rfl)
| ((with_reducible first | apply retF.r | apply retF.nn); case hv => exact tRS)
| ((refine Call.use (hF _) ?_))
| ((refine Call.use (hB _) ?_)))
          all_goals exact ⟨rfl, hE⟩
        rw [decide_eq_true g3]
        cases q5 with
        | false =>
          simp only [Bool.and_false, Bool.false_and]
          repeat' (first
| ((with_reducible apply opsF.op rfl); case hs => first | exact tHT | exact tHS)
| (with_reducible first | apply opsF.nil | apply seqF.nn | apply vcF.seq | apply vcF.region | apply vcF.skip | apply vcF.block | apply vcF.exit | apply vcF.ret | apply vcF.loop | apply seqF.e | apply seqF.r | apply blkF.nn | apply blkF.e | apply blkF.r | apply blkF.o rfl)
| ((with_reducible apply opsF.call); case hx => exact tAG)
| ((with_reducible apply opsF.want); (case hg => exact tEV); case hb => exact tNB)
| ((with_reducible apply opsF.skip); (case hg => exact tEV); case hb => exact tNB)
| (first | ((with_reducible apply opsF.case); case hg => exact tEV) | ((with_reducible apply vcF.cond); case hx => exact tEV)) <;> ((intro hc; try simp only [Int.reduceLT, Int.reduceLE, Int.reduceEq, Int.reduceNe, Int.cast_ofNat_Int, Int.reduceNeg, reduceCtorEq, ne_eq, ge_iff_le, gt_iff_lt, beq_iff_eq, beq_eq_false_iff_ne, bne_iff_ne, bne_eq_false_iff_eq, nrm, *] at hc) <;> try (exfalso; omega))
| ((with_reducible apply opsF.und); case hg => rfl)
| ((with_reducible first | apply retF.r | apply retF.nn); case hv => exact tRS)
| ((refine Call.use (hF _) ?_))
| ((refine Call.use (hB _) ?_)))
          all_goals exact ⟨rfl, hE⟩
        | true =>
          simp only [Bool.and_true, Bool.true_and]
          repeat' (first
| ((with_reducible apply opsF.op rfl); case hs => first | exact tHT | exact tHS)
| (with_reducible first | apply opsF.nil | apply seqF.nn | apply vcF.seq | apply vcF.region | apply vcF.skip | apply vcF.block | apply vcF.exit | apply vcF.ret | apply vcF.loop | apply seqF.e | apply seqF.r | apply blkF.nn | apply blkF.e | apply blkF.r | apply blkF.o rfl)
| ((with_reducible apply opsF.call); case hx => exact tAG)
| ((with_reducible apply opsF.want); (case hg => exact tEV); case hb => exact tNB)
| ((with_reducible apply opsF.skip); (case hg => exact tEV); case hb => exact tNB)
| (first | ((with_reducible apply opsF.case); case hg => exact tEV) | ((with_reducible apply vcF.cond); case hx => exact tEV)) <;> ((intro hc; try simp only [Int.reduceLT, Int.reduceLE, Int.reduceEq, Int.reduceNe, Int.cast_ofNat_Int, Int.reduceNeg, reduceCtorEq, ne_eq, ge_iff_le, gt_iff_lt, beq_iff_eq, beq_eq_false_iff_ne, bne_iff_ne, bne_eq_false_iff_eq, nrm, *] at hc) <;> try (exfalso; omega))
| ((with_reducible apply opsF.und); case hg => rfl)
| ((with_reducible first | apply retF.r | apply retF.nn); case hv => exact tRS)
| ((refine Call.use (hF _) ?_))
| ((refine Call.use (hB _) ?_)))
          refine LpF.ind rfl (fun i : Nat => rc.length - i) (fun i σ hh => Ext h hh ∧ hh.objs h.n = some (.cells [.v (.int .i64 n1), .v (.int .i64 n2), .v (.int .i64 n3), .v (.int .i64 n4), .v (.int .i64 n5), .v (.string (bs f)), .list 1 (srows rc) t1, .list 1 (irows mk) t2, .list 1 (srows bd) t3]) ∧ h.n < hh.n ∧ σ 1 = .ptr h.n 0 ∧ σ 5 = .v (.int .i64 (i : Nat)) ∧ i ≤ rc.length ∧ (rc.take i).all mbS = true) ?_ (i := 0) ⟨hE, hM, hn, h1, rfl, Nat.zero_le _, rfl⟩
          clear hE hM hn h1 h3 h4
          rintro i σ hh ⟨hE, hM, hn, h1, h5, hi, ha⟩
          rcases Nat.lt_or_ge i rc.length with hlt | hge
          · obtain ⟨x, hx⟩ : ∃ x, rc[i]? = some x := ⟨_, List.getElem?_eq_getElem hlt⟩
            have hRx := hR x (List.mem_of_getElem? hx)
            clear hR
            cases hb : mbS x with
            | false =>
              rw [all_bad hx hb]
              simp only [Bool.false_and]
              rw [hb] at hRx
              clear hb ha
              repeat' (first
| ((with_reducible apply opsF.op rfl); case hs => first | exact tHT | exact tHS)
| (with_reducible first | apply opsF.nil | apply seqF.nn | apply vcF.seq | apply vcF.region | apply vcF.skip | apply vcF.block | apply vcF.exit | apply vcF.ret | apply vcF.loop | apply seqF.e | apply seqF.r | apply blkF.nn | apply blkF.e | apply blkF.r | apply blkF.o rfl)
| ((with_reducible apply opsF.call); case hx => exact tAG)
| ((with_reducible apply opsF.want); (case hg => exact tEV); case hb => exact tNB)
| ((with_reducible apply opsF.skip); (case hg => exact tEV); case hb => exact tNB)
| (first | ((with_reducible apply opsF.case); case hg => exact tEV) | ((with_reducible apply vcF.cond); case hx => exact tEV)) <;> ((intro hc; try simp only [Int.reduceLT, Int.reduceLE, Int.reduceEq, Int.reduceNe, Int.cast_ofNat_Int, Int.reduceNeg, reduceCtorEq, ne_eq, ge_iff_le, gt_iff_lt, beq_iff_eq, beq_eq_false_iff_ne, bne_iff_ne, bne_eq_false_iff_eq, nrm, *] at hc) <;> try (exfalso; omega))
| ((with_reducible apply opsF.und); case hg => rfl)
| ((with_reducible first | apply retF.r | apply retF.nn); case hv => exact tRS)
| ((refine Call.use (hRx _) ?_)))
              all_goals exact ⟨rfl, hE⟩
            | true =>
              have hnx : (rc.take (i + 1)).all mbS = true := by rw [List.take_add_one, hx, List.all_append, ha]; simp [hb]
              rw [hb] at hRx
              clear hb ha
              repeat' (first
| ((with_reducible apply opsF.op rfl); case hs => first | exact tHT | exact tHS)
| (with_reducible first | apply opsF.nil | apply seqF.nn | apply vcF.seq | apply vcF.region | apply vcF.skip | apply vcF.block | apply vcF.exit | apply vcF.ret | apply vcF.loop | apply seqF.e | apply seqF.r | apply blkF.nn | apply blkF.e | apply blkF.r | apply blkF.o rfl)
| ((with_reducible apply opsF.call); case hx => exact tAG)
| ((with_reducible apply opsF.want); (case hg => exact tEV); case hb => exact tNB)
| ((with_reducible apply opsF.skip); (case hg => exact tEV); case hb => exact tNB)
| (first | ((with_reducible apply opsF.case); case hg => exact tEV) | ((with_reducible apply vcF.cond); case hx => exact tEV)) <;> ((intro hc; try simp only [Int.reduceLT, Int.reduceLE, Int.reduceEq, Int.reduceNe, Int.cast_ofNat_Int, Int.reduceNeg, reduceCtorEq, ne_eq, ge_iff_le, gt_iff_lt, beq_iff_eq, beq_eq_false_iff_ne, bne_iff_ne, bne_eq_false_iff_eq, nrm, *] at hc) <;> try (exfalso; omega))
| ((with_reducible apply opsF.und); case hg => rfl)
| ((with_reducible first | apply retF.r | apply retF.nn); case hv => exact tRS)
| ((refine Call.use (hRx _) ?_)))
              exact ⟨i + 1, by omega, hE, hM, hn, h1, rfl, by omega, hnx⟩
          · obtain rfl : i = rc.length := by omega
            rw [List.take_length] at ha
            rw [ha]
            simp only [Bool.true_and]
            clear ha
            repeat' (first
| ((with_reducible apply opsF.op rfl); case hs => first | exact tHT | exact tHS)
| (with_reducible first | apply opsF.nil | apply seqF.nn | apply vcF.seq | apply vcF.region | apply vcF.skip | apply vcF.block | apply vcF.exit | apply vcF.ret | apply vcF.loop | apply seqF.e | apply seqF.r | apply blkF.nn | apply blkF.e | apply blkF.r | apply blkF.o rfl)
| ((with_reducible apply opsF.call); case hx => exact tAG)
| ((with_reducible apply opsF.want); (case hg => exact tEV); case hb => exact tNB)
| ((with_reducible apply opsF.skip); (case hg => exact tEV); case hb => exact tNB)
| (first | ((with_reducible apply opsF.case); case hg => exact tEV) | ((with_reducible apply vcF.cond); case hx => exact tEV)) <;> ((intro hc; try simp only [Int.reduceLT, Int.reduceLE, Int.reduceEq, Int.reduceNe, Int.cast_ofNat_Int, Int.reduceNeg, reduceCtorEq, ne_eq, ge_iff_le, gt_iff_lt, beq_iff_eq, beq_eq_false_iff_ne, bne_iff_ne, bne_eq_false_iff_eq, nrm, *] at hc) <;> try (exfalso; omega))
| ((with_reducible apply opsF.und); case hg => rfl)
| ((with_reducible first | apply retF.r | apply retF.nn); case hv => exact tRS))
            refine LpF.ind rfl (fun i : Nat => mk.length - i) (fun i σ hh => Ext h hh ∧ hh.objs h.n = some (.cells [.v (.int .i64 n1), .v (.int .i64 n2), .v (.int .i64 n3), .v (.int .i64 n4), .v (.int .i64 n5), .v (.string (bs f)), .list 1 (srows rc) t1, .list 1 (irows mk) t2, .list 1 (srows bd) t3]) ∧ h.n < hh.n ∧ σ 1 = .ptr h.n 0 ∧ σ 6 = .v (.int .i64 (i : Nat)) ∧ i ≤ mk.length ∧ (mk.take i).all markS = true) ?_ (i := 0) ⟨hE, hM, hn, h1, rfl, Nat.zero_le _, rfl⟩
            clear hE hM hn h1 h5
            rintro i σ hh ⟨hE, hM, hn, h1, h6, hi, ha⟩
            rcases Nat.lt_or_ge i mk.length with hlt | hge
            · obtain ⟨x, hx⟩ : ∃ x, mk[i]? = some x := ⟨_, List.getElem?_eq_getElem hlt⟩
              cases hb : markS x with
              | false =>
                rw [all_bad hx hb]
                have hb2 : x < 0 ∨ 2 < x := by
                  simp only [markS, Bool.and_eq_false_iff, decide_eq_false_iff_not] at hb
                  omega
                clear hb ha
                rcases hb2 with hb2 | hb2
                · repeat' (first
| ((with_reducible apply opsF.op rfl); case hs => first | exact tHT | exact tHS)
| (with_reducible first | apply opsF.nil | apply seqF.nn | apply vcF.seq | apply vcF.region | apply vcF.skip | apply vcF.block | apply vcF.exit | apply vcF.ret | apply vcF.loop | apply seqF.e | apply seqF.r | apply blkF.nn | apply blkF.e | apply blkF.r | apply blkF.o rfl)
| ((with_reducible apply opsF.call); case hx => exact tAG)
| ((with_reducible apply opsF.want); (case hg => exact tEV); case hb => exact tNB)
| ((with_reducible apply opsF.skip); (case hg => exact tEV); case hb => exact tNB)
| (first | ((with_reducible apply opsF.case); case hg => exact tEV) | ((with_reducible apply vcF.cond); case hx => exact tEV)) <;> ((intro hc; try simp only [Int.reduceLT, Int.reduceLE, Int.reduceEq, Int.reduceNe, Int.cast_ofNat_Int, Int.reduceNeg, reduceCtorEq, ne_eq, ge_iff_le, gt_iff_lt, beq_iff_eq, beq_eq_false_iff_ne, bne_iff_ne, bne_eq_false_iff_eq, nrm, *] at hc) <;> try (exfalso; omega))
| ((with_reducible apply opsF.und); case hg => rfl)
| ((with_reducible first | apply retF.r | apply retF.nn); case hv => exact tRS))
                  all_goals exact ⟨rfl, hE⟩
                · repeat' (first
| ((with_reducible apply opsF.op rfl); case hs => first | exact tHT | exact tHS)
| (with_reducible first | apply opsF.nil | apply seqF.nn | apply vcF.seq | apply vcF.region | apply vcF.skip | apply vcF.block | apply vcF.exit | apply vcF.ret | apply vcF.loop | apply seqF.e | apply seqF.r | apply blkF.nn | apply blkF.e | apply blkF.r | apply blkF.o rfl)
| ((with_reducible apply opsF.call); case hx => exact tAG)
| ((with_reducible apply opsF.want); (case hg => exact tEV); case hb => exact tNB)
| ((with_reducible apply opsF.skip); (case hg => exact tEV); case hb => exact tNB)
| (first | ((with_reducible apply opsF.case); case hg => exact tEV) | ((with_reducible apply vcF.cond); case hx => exact tEV)) <;> ((intro hc; try simp only [Int.reduceLT, Int.reduceLE, Int.reduceEq, Int.reduceNe, Int.cast_ofNat_Int, Int.reduceNeg, reduceCtorEq, ne_eq, ge_iff_le, gt_iff_lt, beq_iff_eq, beq_eq_false_iff_ne, bne_iff_ne, bne_eq_false_iff_eq, nrm, *] at hc) <;> try (exfalso; omega))
| ((with_reducible apply opsF.und); case hg => rfl)
| ((with_reducible first | apply retF.r | apply retF.nn); case hv => exact tRS))
                  all_goals exact ⟨rfl, hE⟩
              | true =>
                have hnx : (mk.take (i + 1)).all markS = true := by rw [List.take_add_one, hx, List.all_append, ha]; simp [hb]
                simp only [markS, Bool.and_eq_true, decide_eq_true_eq] at hb
                obtain ⟨hb1, hb2⟩ := hb
                clear ha
                repeat' (first
| ((with_reducible apply opsF.op rfl); case hs => first | exact tHT | exact tHS)
| (with_reducible first | apply opsF.nil | apply seqF.nn | apply vcF.seq | apply vcF.region | apply vcF.skip | apply vcF.block | apply vcF.exit | apply vcF.ret | apply vcF.loop | apply seqF.e | apply seqF.r | apply blkF.nn | apply blkF.e | apply blkF.r | apply blkF.o rfl)
| ((with_reducible apply opsF.call); case hx => exact tAG)
| ((with_reducible apply opsF.want); (case hg => exact tEV); case hb => exact tNB)
| ((with_reducible apply opsF.skip); (case hg => exact tEV); case hb => exact tNB)
| (first | ((with_reducible apply opsF.case); case hg => exact tEV) | ((with_reducible apply vcF.cond); case hx => exact tEV)) <;> ((intro hc; try simp only [Int.reduceLT, Int.reduceLE, Int.reduceEq, Int.reduceNe, Int.cast_ofNat_Int, Int.reduceNeg, reduceCtorEq, ne_eq, ge_iff_le, gt_iff_lt, beq_iff_eq, beq_eq_false_iff_ne, bne_iff_ne, bne_eq_false_iff_eq, nrm, *] at hc) <;> try (exfalso; omega))
| ((with_reducible apply opsF.und); case hg => rfl)
| ((with_reducible first | apply retF.r | apply retF.nn); case hv => exact tRS))
                exact ⟨i + 1, by omega, hE, hM, hn, h1, rfl, by omega, hnx⟩
            · obtain rfl : i = mk.length := by omega
              rw [List.take_length] at ha
              rw [ha]
              clear ha
              repeat' (first
| ((with_reducible apply opsF.op rfl); case hs => first | exact tHT | exact tHS)
| (with_reducible first | apply opsF.nil | apply seqF.nn | apply vcF.seq | apply vcF.region | apply vcF.skip | apply vcF.block | apply vcF.exit | apply vcF.ret | apply vcF.loop | apply seqF.e | apply seqF.r | apply blkF.nn | apply blkF.e | apply blkF.r | apply blkF.o rfl)
| ((with_reducible apply opsF.call); case hx => exact tAG)
| ((with_reducible apply opsF.want); (case hg => exact tEV); case hb => exact tNB)
| ((with_reducible apply opsF.skip); (case hg => exact tEV); case hb => exact tNB)
| (first | ((with_reducible apply opsF.case); case hg => exact tEV) | ((with_reducible apply vcF.cond); case hx => exact tEV)) <;> ((intro hc; try simp only [Int.reduceLT, Int.reduceLE, Int.reduceEq, Int.reduceNe, Int.cast_ofNat_Int, Int.reduceNeg, reduceCtorEq, ne_eq, ge_iff_le, gt_iff_lt, beq_iff_eq, beq_eq_false_iff_ne, bne_iff_ne, bne_eq_false_iff_eq, nrm, *] at hc) <;> try (exfalso; omega))
| ((with_reducible apply opsF.und); case hg => rfl)
| ((with_reducible first | apply retF.r | apply retF.nn); case hv => exact tRS))
              all_goals exact ⟨rfl, hE⟩
end Go.Abs.F
/- A program logic over abstract states, 22: from the logic to a call of the model. -/
namespace Go.Abs
open Go Go.RowKit
set_option linter.unusedVariables false

/-- All cells that stand when the call begins, for good. -/
def Con.start (W : World) : Con := ⟨fun b o => W.cell? ⟨b, o, none⟩, fun _ => none, fun _ _ => none⟩
def AH.start : AH := ⟨fun _ => none, 0, fun _ => 0, 0, fun _ => none⟩
theorem WR.start (W : World) : WR W (Con.start W) AH.start W where
  below := Below.refl _ _
  fcell := fun h => h
  obj := fun h => by cases h
  inj := fun h => by cases h
  rlt := fun h => by cases h
  tok := fun h => by cases h
  tinj := fun h => by cases h
  tnew := fun h => by cases h

theorem adequate {P : Program} {W : World} {f : FuncId} {args : Array Value} {vs : List AV} {r : Value} (hc : Call P W f vs AH.start fun v _ => v = .v r) (hv : RVs (Con.start W) vs args.toList) : Calls P f args W fun e W' => e = .returned r ∧ Below W.heap.size W W' := by
  have := hc.2 (Con.start W) W args.toList (WR.start W) hv
  simp only [Array.toArray_toList] at this
  refine this.mono fun e W' hh => ?_
  obtain ⟨x, Γ', v, h', rfl, _, hr, HW, rfl⟩ := hh
  cases hr
  exact ⟨rfl, HW.below⟩
end Go.Abs
/- A program logic over abstract states, 23: arguments opened as plain data. -/
namespace Go.Abs
open Go Go.RowKit
set_option linter.unusedVariables false
set_option linter.unusedSimpArgs false

/-- Types of plain data. -/
inductive Ty where
  | int (k : IntKind)
  | bool
  | str
  | slice (e : Ty)
  | unit
  | pair (a b : Ty)
def Ty.D : Ty → Type
  | .int _ => Int
  | .bool => Bool
  | .str => List UInt8
  | .slice e => List e.D
  | .unit => Unit
  | .pair a b => a.D × b.D
def Ty.sz : Ty → Nat
  | .int _ | .bool | .str | .slice _ => 1
  | .unit => 0
  | .pair a b => a.sz + b.sz
def Ty.enc : (t : Ty) → t.D → List AV
  | .int k, n => [.v (.int k n)]
  | .bool, b => [.v (.bool b)]
  | .str, l => [.v (.string (bs l))]
  | .slice e, l => [.list e.sz (l.map e.enc) .no]
  | .unit, _ => []
  | .pair a b, x => a.enc x.1 ++ b.enc x.2
def Ty.val : (t : Ty) → t.D → AV
  | .int k, n => .v (.int k n)
  | .bool, b => .v (.bool b)
  | .str, l => .v (.string (bs l))
  | .slice e, l => .list e.sz (l.map e.enc) .no
  | .unit, _ => .agg []
  | .pair a b, x => .agg (a.enc x.1 ++ b.enc x.2)
def Ty.wf : (t : Ty) → t.D → Prop
  | .int k, n => (Lit.int k n).wf = true
  | .bool, _ => True
  | .str, l => l.length ≤ 9223372036854775807
  | .slice e, l => List.length l ≤ 9223372036854775807 ∧ ∀ x, List.Mem x l → e.wf x
  | .unit, _ => True
  | .pair a b, x => a.wf x.1 ∧ b.wf x.2

/-- Its strings and slices have at most so many bytes and elements. -/
def Ty.fit (B : Nat) : (t : Ty) → t.D → Prop
  | .int _, _ => True
  | .bool, _ => True
  | .str, l => l.length ≤ B
  | .slice e, l => List.length l ≤ B ∧ ∀ x, List.Mem x l → e.fit B x
  | .unit, _ => True
  | .pair a b, x => a.fit B x.1 ∧ b.fit B x.2

def tyFs (P : Program) (g : TypeId → Option Ty) : List Field → Nat → Option Ty
  | [], _ => some .unit
  | f :: fs, off => match g f.type with
    | some T => if f.offset = off ∧ P.cellsOf f.type = T.sz then (tyFs P g fs (off + T.sz)).map (.pair T) else none
    | none => none
def tyOf (P : Program) : Nat → TypeId → Option Ty
  | 0, _ => none
  | n + 1, t => match P.underlying t with
    | some .bool => some .bool
    | some (.int k) => some (.int k)
    | some .string => some .str
    | some (.slice e) => match tyOf P n e with
      | some T => if P.cellsOf e = T.sz ∧ T.sz ≠ 0 ∧ P.bytesOf e ≠ 0 then some (.slice T) else none
      | none => none
    | some (.struct fs) => match tyFs P (tyOf P n) fs.toList 0 with
      | some T => if P.cellsOf t = T.sz then some T else none
      | none => none
    | _ => none

theorem Ty.enc_len : ∀ (T : Ty) (d : T.D), (T.enc d).length = T.sz
  | .int _, _ | .bool, _ | .str, _ | .slice _, _ | .unit, _ => rfl
  | .pair a b, x => by simp only [Ty.enc, List.length_append, Ty.sz, Ty.enc_len a x.1, Ty.enc_len b x.2]
theorem Ty.enc_one : ∀ (T : Ty) (d : T.D), ∀ a ∈ T.enc d, a.one = true
  | .int _, _, a, h | .bool, _, a, h | .str, _, a, h | .slice _, _, a, h => by
    simp only [Ty.enc, List.mem_singleton] at h
    subst h; rfl
  | .unit, _, a, h => by simp [Ty.enc] at h
  | .pair p q, x, a, h => by
    simp only [Ty.enc, List.mem_append] at h
    rcases h with h | h
    · exact Ty.enc_one p x.1 a h
    · exact Ty.enc_one q x.2 a h

theorem RVs.single {Γ : Con} {a : AV} {v : Value} (h : RV Γ a v) : RVs Γ [a] [v] := .cons h .nil

theorem mapM_some {α β : Type} {f : α → Option β} : ∀ {l : List α} {ys : List β}, l.mapM f = some ys → ys.length = l.length ∧ ∀ (i : Nat) (h : i < l.length), ∃ y, f l[i] = some y
  | [], ys, h => by simp at h; subst h; exact ⟨rfl, fun i hi => by simp at hi⟩
  | x :: l, ys, h => by
    rw [List.mapM_cons] at h
    cases hx : f x with
    | none => rw [hx] at h; simp at h
    | some y =>
      cases hl : l.mapM f with
      | none => rw [hx, hl] at h; simp at h
      | some zs =>
        rw [hx, hl] at h
        simp at h
        subst h
        obtain ⟨h1, h2⟩ := mapM_some hl
        refine ⟨by simp [h1], fun i hi => ?_⟩
        cases i with
        | zero => exact ⟨y, hx⟩
        | succ i => exact h2 i (by simpa using hi)
theorem mapM_at {α β : Type} {f : α → Option β} : ∀ {l : List α} {ys : List β}, l.mapM f = some ys → ∀ (i : Nat) (h : i < l.length) (h' : i < ys.length), f l[i] = some ys[i]
  | [], ys, h => by intro i hi; simp at hi
  | x :: l, ys, h => by
    rw [List.mapM_cons] at h
    cases hx : f x with
    | none => rw [hx] at h; simp at h
    | some y =>
      cases hl : l.mapM f with
      | none => rw [hx, hl] at h; simp at h
      | some zs =>
        rw [hx, hl] at h
        simp at h
        subst h
        intro i hi hi'
        cases i with
        | zero => simpa using hx
        | succ i => simpa using mapM_at hl i (by simpa using hi) (by simpa using hi')

/-- One for each. -/
theorem choose_list {α : Type} {p : Nat → α → Prop} : ∀ (n : Nat), (∀ i, i < n → ∃ d, p i d) → ∃ ds : List α, ds.length = n ∧ ∀ (i : Nat) (h : i < ds.length), p i ds[i]
  | 0, _ => ⟨[], rfl, fun i h => by simp at h⟩
  | n + 1, h => by
    obtain ⟨ds, h1, h2⟩ := choose_list n fun i hi => h i (by omega)
    obtain ⟨d, hd⟩ := h n (by omega)
    refine ⟨ds ++ [d], by simp [h1], fun i hi => ?_⟩
    by_cases hlt : i < ds.length
    · rw [List.getElem_append_left hlt]; exact h2 i hlt
    · have : i = n := by simp at hi; omega
      subst this
      rw [List.getElem_append_right (by omega)]
      simpa [h1] using hd

section
variable {P : Program} {w : World} {H : Type} {enc : TypeId × Value → H} {held : Bool}

theorem RVs.append_inv {Γ : Con} {xs ys : List AV} {vs : List Value} (h : RVs Γ xs (vs.take xs.length)) (h' : RVs Γ ys (vs.drop xs.length)) : RVs Γ (xs ++ ys) vs := by
  have := h.append h'
  rwa [List.take_append_drop] at this

theorem cells_some {w : World} {base : Nat} {a : Addr} {n : Nat} {cs : List Value} (h : w.cells? base a n = some cs) : cs.length = n ∧ ∀ (j : Nat) (hj : j < cs.length), w.cell? (a.add j) = some cs[j] := by
  unfold World.cells? at h
  split at h
  · obtain ⟨h1, _⟩ := mapM_some h
    refine ⟨by simpa using h1, fun j hj => ?_⟩
    have := mapM_at h j (by simpa [h1] using hj) hj
    simpa using this
  · cases h
theorem cell_spot {w : World} {a : Addr} {v : Value} (h : w.cell? a = some v) : a.spot = none := by
  unfold World.cell? at h
  split at h
  · split at h
    · cases h
    · rename_i hs; simpa using hs
  · cases h

theorem mem_weightsAll {e : TypeId} {d : DataW H} {k : Nat} (hk : k ∈ d.weights P e) : ∀ {l : List (DataW H)}, d ∈ l → k ∈ DataW.weightsAll P e l
  | x :: l, h => by
    rw [DataW.weightsAll]
    rcases List.mem_cons.1 h with rfl | h
    · exact List.mem_append.2 (.inl hk)
    · exact List.mem_append.2 (.inr (mem_weightsAll hk h))
theorem trod_open : ∀ (n : Nat) {t : TypeId} {T : Ty}, tyOf P n t = some T → ∀ {fuel : Nat} {base : Nat} {cs : List Value} {x : DataW H × List MemPlace}, DataW.trod enc P w base (fun _ => true) held fuel t cs = some x →
    cs.length = T.sz ∧ ∃ d : T.D, RVs (Con.start w) (T.enc d) cs ∧ T.wf d ∧ ∀ B : Nat, (∀ k ∈ x.1.weights P t, k ≤ B) → T.fit B d := by
  intro n
  induction n with
  | zero => intro t T h; simp [tyOf] at h
  | succ n ih =>
    intro t T hT fuel base cs x hx
    simp only [tyOf] at hT
    split at hT
    · rename_i hu
      injection hT with hT; subst hT
      obtain ⟨b, rfl, _⟩ := DataW.trod_bool hu hx
      exact ⟨rfl, b, .single (.v _), trivial, fun _ _ => trivial⟩
    · rename_i k hu
      injection hT with hT; subst hT
      obtain ⟨m, rfl, _, hw⟩ := DataW.trod_int hu hx
      exact ⟨rfl, m, .single (.v _), hw, fun _ _ => trivial⟩
    · rename_i hu
      injection hT with hT; subst hT
      obtain ⟨s, rfl, rfl, hw⟩ := DataW.trod_string hu hx
      refine ⟨rfl, s.data.toList, .single ?_, ?_, fun B hB => hB _ (by simp [DataW.weights])⟩
      · rw [bs_of]; exact .v _
      · have h1 : s.data.toList.length = s.size := by simp
        have h2 : maxLen = 9223372036854775807 := by decide
        show s.data.toList.length ≤ 9223372036854775807
        rw [h1, ← h2]; exact hw
    · rename_i e hu
      split at hT
      · rename_i E hE
        split at hT
        · rename_i hsz
          injection hT with hT; subst hT
          refine ⟨by rcases DataW.trod_slice hu hx with ⟨rfl, _⟩ | ⟨a, len, cap, elems, rest, m, _, rfl, _⟩ <;> rfl, ?_⟩
          rcases DataW.trod_slice hu hx with ⟨rfl, _⟩ | ⟨a, len, cap, elems, rest, m, _, rfl, rfl, hba, hlc, hcm, hel, hat, hrest, _⟩
          · exact ⟨([] : List E.D), .single .niln, (show (0 : Nat) ≤ 9223372036854775807 ∧ ∀ x : E.D, List.Mem x [] → E.wf x from ⟨by omega, fun x hx => by cases hx⟩), fun B _ => (show (0 : Nat) ≤ B ∧ ∀ x : E.D, List.Mem x [] → E.fit B x from ⟨Nat.zero_le _, fun x hx => by cases hx⟩)⟩
          · have hml : maxLen = 9223372036854775807 := by decide
            have each : ∀ i, i < len → ∃ d : E.D, (∃ ci, ci.length = E.sz ∧ (∀ (j : Nat) (hj : j < ci.length), w.cell? ((a.add (i * E.sz)).add j) = some ci[j]) ∧ RVs (Con.start w) (E.enc d) ci) ∧ E.wf d ∧ ∀ B : Nat, (∀ y, elems[i]? = some y → ∀ k ∈ y.1.weights P e, k ≤ B) → E.fit B d := by
              intro i hi
              have h1 := hat i hi
              have hie : i < elems.length := by omega
              rw [List.getElem?_eq_getElem hie] at h1
              cases hc : w.cells? base (a.add (i * P.cellsOf e)) (P.cellsOf e) with
              | none => rw [hc] at h1; cases h1
              | some ci =>
                rw [hc] at h1
                simp only [Option.bind_some] at h1
                obtain ⟨hl, d, hd, hwf, hft⟩ := ih hE h1
                obtain ⟨_, hcell⟩ := cells_some hc
                rw [hsz.1] at hcell
                exact ⟨d, ⟨ci, hl, hcell, hd⟩, hwf, fun B hB => hft B (hB _ (List.getElem?_eq_getElem hie))⟩
            obtain ⟨ds, hdl, hds⟩ := choose_list len each
            refine ⟨ds, .single ?_, ⟨by show ds.length ≤ _; omega, fun x hx => ?_⟩, fun B hB => (show ds.length ≤ B ∧ ∀ x : E.D, List.Mem x ds → E.fit B x from ⟨?_, fun x hx => ?_⟩)⟩
            · by_cases h0 : len = 0
              · subst h0
                have : ds = [] := List.eq_nil_of_length_eq_zero hdl
                subst this
                -- no element; whatever room
                by_cases hc0 : cap = 0
                · subst hc0; exact .niln
                · have hsp : a.spot = none := by
                    obtain ⟨hrl, hr0⟩ := hrest rfl
                    have h1 := hr0 0 (by omega)
                    have hlt : 0 < rest.length := by omega
                    rw [List.getElem?_eq_getElem hlt] at h1
                    cases hc : w.cells? base (a.add ((0 + 0) * P.cellsOf e)) (P.cellsOf e) with
                    | none => rw [hc] at h1; cases h1
                    | some ci =>
                      obtain ⟨hl, hcell⟩ := cells_some hc
                      have := cell_spot (hcell 0 (by rw [hl, hsz.1]; omega))
                      simpa [Addr.add] using this
                  obtain ⟨b, o, spt⟩ := a
                  simp only at hsp
                  subst hsp
                  exact RV.list (Γ := Con.start w) (sz := E.sz) (rows := []) (tok := .no) (b := b) (o := o) (c := cap) (u := fun _ _ => undef) (Nat.zero_le _) (fun i hi => by simp at hi) (fun i hi => by simp at hi) (fun i hi => by simp at hi) (fun i hi => by simp at hi) trivial
              · have hsp : a.spot = none := by
                  obtain ⟨⟨ci, hl, hcell, _⟩, _⟩ := hds 0 (by omega)
                  have := cell_spot (hcell 0 (by omega))
                  simpa [Addr.add] using this
                obtain ⟨b, o, spt⟩ := a
                simp only at hsp
                subst hsp
                have key : ∀ i (hi : i < ds.length) j, j < E.sz → ∃ v, w.cell? ⟨b, o + (i * E.sz + j), none⟩ = some v ∧ ∀ (hj : j < (E.enc ds[i]).length), RV (Con.start w) (E.enc ds[i])[j] v := by
                  intro i hi j hj
                  obtain ⟨⟨ci, hl, hcell, hr⟩, _⟩ := hds i hi
                  have := hcell j (by omega)
                  rw [addr_add, addr_add, Nat.add_assoc] at this
                  exact ⟨_, this, fun hj' => hr.at_ j hj' (by omega)⟩
                have hlen : (ds.map E.enc).length = len := by simp [hdl]
                have := RV.list (Γ := Con.start w) (sz := E.sz) (rows := ds.map E.enc) (tok := .no) (b := b) (o := o) (c := cap) (u := fun i j => (w.cell? ⟨b, o + (i * E.sz + j), none⟩).getD undef) (by rw [hlen]; exact hlc)
                  (fun i hi => by simp only [List.getElem_map]; exact Ty.enc_len E _)
                  (fun i hi j hj => by
                    obtain ⟨v, hv, _⟩ := key i (by simpa using hi) j hj
                    show w.cell? _ = _
                    rw [hv]; rfl)
                  (fun i hi j hj => by
                    have hi' : i < ds.length := by simpa using hi
                    obtain ⟨v, hv, hr⟩ := key i hi' j hj
                    have hj' : j < (E.enc ds[i]).length := by rw [Ty.enc_len]; exact hj
                    simp only [hv, Option.getD_some]
                    exact (hr hj').one (Ty.enc_one E _ _ (List.getElem_mem hj')))
                  (fun i hi j hj => by
                    have hi' : i < ds.length := by simpa using hi
                    simp only [List.getElem_map] at hj ⊢
                    obtain ⟨v, hv, hr⟩ := key i hi' j (by rw [Ty.enc_len] at hj; exact hj)
                    simp only [hv, Option.getD_some]
                    exact hr hj)
                  trivial
                rw [hlen] at this
                exact this
            · obtain ⟨i, hi, rfl⟩ := List.getElem_of_mem (l := ds) hx
              exact (hds i (by omega)).2.1
            · have h1 := hB ((elems.length + rest.length) * P.bytesOf e) (by simp [DataW.weights, hu])
              have h2 : 0 < P.bytesOf e := Nat.pos_of_ne_zero hsz.2.2
              have h3 : elems.length + rest.length ≤ (elems.length + rest.length) * P.bytesOf e := Nat.le_mul_of_pos_right _ h2
              omega
            · obtain ⟨i, hi, rfl⟩ := List.getElem_of_mem (l := ds) hx
              refine (hds i (by omega)).2.2 B fun y hy k hk => hB k ?_
              simp only [DataW.weights, hu]
              refine List.mem_cons.2 (.inr (List.mem_append.2 (.inl (mem_weightsAll hk ?_))))
              exact List.mem_map.2 ⟨y, List.mem_of_getElem? hy, rfl⟩
        · cases hT
      · cases hT
    · rename_i fs hu
      split at hT
      · rename_i T' hF
        split at hT
        · rename_i hsz
          injection hT with hT; subst hT
          obtain ⟨xs, m, _, rfl, hcl, hxl, hat⟩ := DataW.trod_struct hu hx
          refine ⟨by rw [hcl, hsz], ?_⟩
          -- field by field
          have go : ∀ (l : List Field) (off : Nat) (S : Ty), tyFs P (tyOf P n) l off = some S → (∀ (k : Nat) (f : Field), l[k]? = some f → ∃ y, DataW.trod enc P w base (fun _ => true) held m f.type ((cs.drop f.offset).take (P.cellsOf f.type)) = some y ∧ ∀ k' ∈ y.1.weights P f.type, k' ∈ DataW.weightsEach P (fs.toList.map (·.type)) (xs.map (·.1))) → off + S.sz = cs.length →
              ∃ d : S.D, RVs (Con.start w) (S.enc d) (cs.drop off) ∧ S.wf d ∧ ∀ B : Nat, (∀ k ∈ DataW.weightsEach P (fs.toList.map (·.type)) (xs.map (·.1)), k ≤ B) → S.fit B d := by
            intro l
            induction l with
            | nil =>
              intro off S hS _ hoff
              simp only [tyFs, Option.some.injEq] at hS
              subst hS
              refine ⟨(), ?_, trivial, fun _ _ => trivial⟩
              have : cs.drop off = [] := List.drop_eq_nil_of_le (by simp only [Ty.sz] at hoff; omega)
              rw [this]; exact .nil
            | cons f l ihl =>
              intro off S hS hall hoff
              simp only [tyFs] at hS
              split at hS
              · rename_i F hFt
                split at hS
                · rename_i hf
                  simp only [Option.map_eq_some_iff] at hS
                  obtain ⟨S', hS', rfl⟩ := hS
                  obtain ⟨y, hy, hyw⟩ := hall 0 f rfl
                  rw [hf.1, hf.2] at hy
                  obtain ⟨hl1, d1, hr1, hw1, hf1⟩ := ih hFt hy
                  obtain ⟨d2, hr2, hw2, hf2⟩ := ihl (off + F.sz) S' hS' (fun k f' hk => hall (k + 1) f' (by simpa using hk)) (by simp only [Ty.sz] at hoff; omega)
                  refine ⟨(d1, d2), ?_, ⟨hw1, hw2⟩, fun B hB => ⟨hf1 B fun k hk => hB k (hyw k hk), hf2 B hB⟩⟩
                  show RVs _ (F.enc d1 ++ S'.enc d2) _
                  refine RVs.append_inv ?_ ?_
                  · rw [Ty.enc_len]; exact hr1
                  · rw [Ty.enc_len, List.drop_drop]; exact hr2
                · cases hS
              · cases hS
          have := go fs.toList 0 T' hF (fun k f hk => by
            have hk' : fs[k]? = some f := by simpa using hk
            have h1 := hat k f hk'
            have hkl : k < xs.length := by rw [hxl]; exact (Array.getElem?_eq_some_iff.1 hk').1
            rw [List.getElem?_eq_getElem hkl] at h1
            exact ⟨_, h1, fun k' hk' => DataW.weights_mem_each (j := k) (by rw [List.getElem?_map, hk]; rfl) (by rw [List.getElem?_map, List.getElem?_eq_getElem hkl]; rfl) k' hk'⟩) (by rw [Nat.zero_add, hcl, hsz])
          simp only [DataW.weights, hu]
          simpa using this
        · cases hT
      · cases hT
    · cases hT

/-- An argument, opened. -/
theorem open_arg {n : Nat} {t : TypeId} {T : Ty} (hT : tyOf P n t = some T) {base b0 : Nat} {v : Value} (hok : Value.okWide P w .any b0 t v) {d : DataW H} {ps : List MemPlace} (h : DataW.Trod enc P w base (fun _ => true) held t v d ps) : ∃ x : T.D, RV (Con.start w) (T.val x) v ∧ T.wf x ∧ ∀ B : Nat, (∀ k ∈ d.weights P t, k ≤ B) → T.fit B x := by
  obtain ⟨fuel, hf⟩ := h
  obtain ⟨hl, x, hr, hw, hft⟩ := trod_open n hT hf
  refine ⟨x, ?_, hw, hft⟩
  cases n with
  | zero => simp [tyOf] at hT
  | succ n =>
    have agg : (∃ fs, P.underlying t = some (.struct fs)) → ∀ {S : Ty} (y : S.D), RVs (Con.start w) (S.enc y) v.cells.toList → RV (Con.start w) (.agg (S.enc y)) v := by
      rintro ⟨fs, hu⟩ S y hy
      simp only [Value.okWide, hu] at hok
      obtain ⟨cs, rfl, _, _⟩ := hok
      simp only [Value.cells] at hy
      refine .agg (by simpa using hy.len) (fun i hi => ?_) (fun i hi hi' => by have := hy.at_ i hi (by simpa using hi'); rwa [Array.getElem_toList] at this)
      have hi2 : i < (S.enc y).length := by rw [← hy.len]; simpa using hi
      have := (hy.at_ i hi2 (by simpa using hi)).one (Ty.enc_one S y _ (List.getElem_mem hi2))
      simpa using this
    have one : ∀ {a : AV}, v.cells.toList = [v] → RVs (Con.start w) [a] v.cells.toList → RV (Con.start w) a v := by
      intro a hv hy
      rw [hv] at hy
      exact hy.at_ 0 (by simp) (by simp)
    simp only [tyOf] at hT
    split at hT
    · rename_i hu; injection hT with hT; subst hT; exact one (by cases v <;> first | rfl | (simp [Value.okWide, hu, Cell.okWide, Cell.ok] at hok)) hr
    · rename_i hu; injection hT with hT; subst hT; exact one (by cases v <;> first | rfl | (simp [Value.okWide, hu, Cell.okWide, Cell.ok] at hok)) hr
    · rename_i hu; injection hT with hT; subst hT; exact one (by cases v <;> first | rfl | (simp [Value.okWide, hu, Cell.okWide, Cell.ok] at hok)) hr
    · rename_i e hu
      split at hT
      · split at hT
        · injection hT with hT; subst hT; exact one (by cases v <;> first | rfl | (simp [Value.okWide, hu, Cell.okWide, Cell.ok] at hok)) hr
        · cases hT
      · cases hT
    · rename_i fs hu
      split at hT
      · rename_i T' hF
        split at hT
        · injection hT with hT; subst hT
          have hA := agg ⟨fs, hu⟩ x hr
          have : ∀ (l : List Field) (off : Nat) (S : Ty), tyFs P (tyOf P n) l off = some S → ∀ y : S.D, S.val y = .agg (S.enc y) := by
            intro l off S hS y
            cases l with
            | nil => simp only [tyFs, Option.some.injEq] at hS; subst hS; rfl
            | cons f l =>
              simp only [tyFs] at hS
              split at hS
              · split at hS
                · simp only [Option.map_eq_some_iff] at hS
                  obtain ⟨S', _, rfl⟩ := hS
                  rfl
                · cases hS
              · cases hS
          rw [this _ _ _ hF]; exact hA
        · cases hT
      · cases hT
    · cases hT
end
end Go.Abs
/- Layer 11: what its laws call first. Layer 11: what a law knows of the world; how long a message's parts are. -/
namespace Go.Abs.F
open Go Go.Abs
set_option maxRecDepth 10000
set_option maxHeartbeats 20000000
set_option linter.unusedSimpArgs false
set_option linter.unusedVariables false
variable {w0 : World}
def sumL : List L8 → Nat
  | [] => 0
  | s :: l => s.length + sumL l
theorem sumL_app (l m : List L8) : sumL (l ++ m) = sumL l + sumL m := by
  induction l with
  | nil => simp [sumL]
  | cons x l ih => simp only [List.cons_append, sumL, ih]; omega
theorem sumL_take {l : List L8} {i : Nat} {x : L8} (hx : l[i]? = some x) : sumL (l.take (i + 1)) = sumL (l.take i) + x.length := by
  rw [List.take_add_one, hx, Option.toList_some, sumL_app]
  simp [sumL]
theorem sumL_le (l : List L8) (i : Nat) : sumL (l.take i) ≤ sumL l := by
  conv => rhs; rw [← List.take_append_drop i l, sumL_app]
  omega
theorem sumL_mem {l : List L8} {s : L8} (h : s ∈ l) : s.length ≤ sumL l := by
  induction l with
  | nil => cases h
  | cons x l ih =>
    simp only [sumL]
    rcases List.mem_cons.1 h with rfl | h
    · omega
    · have := ih h; omega
def baseM (m : Msg) : Nat := m.2.2.2.2.2.1.length + m.2.2.2.2.2.2.1.length + m.2.2.2.2.2.2.2.1.length + m.2.2.2.2.2.2.2.2.length
def smallM (m : Msg) : Bool := decide (baseM m + sumL m.2.2.2.2.2.2.2.2 + sumL m.2.2.2.2.2.2.1 < 5000)
theorem small_ok {m : Msg} (h : smallM m = true) : MOk m := by
  have h := of_decide_eq_true h
  unfold baseM at h
  exact ⟨by omega, by omega, fun s hs => by have := sumL_mem hs; omega, by omega, by omega, fun s hs => by have := sumL_mem hs; omega⟩
theorem rcS_sum (l : List L8) : (rcS l).length = sumL l + 6 * l.length := by
  induction l with
  | nil => rfl
  | cons x l ih =>
    have h3 := kv_len K7 x
    have h4 : K7.length = 4 := rfl
    simp only [rcS, sumL, List.length_append, List.length_cons, ih]
    omega
theorem bdS_sum (l : List L8) : (bdS l).length = sumL l + l.length := by
  induction l with
  | nil => rfl
  | cons x l ih =>
    simp only [bdS, sumL, List.length_append, List.length_cons, ih]
    omega
theorem text_small {m : Msg} (hs : smallM m = true) (hg : goodM m = true) : (textM m).length ≤ 1000000 := by
  have g := goodP_of hg
  have h := of_decide_eq_true hs
  unfold baseM at h
  have d1 := decS_len _ g.t1.1 g.t1.2
  have d2 := decS_len _ g.t2.1 g.t2.2
  have d3 := decS_len _ g.t3.1 g.t3.2
  have d4 := decS_len _ g.t4.1 g.t4.2
  have d5 := decS_len _ g.t5.1 g.t5.2
  have a1 := rcS_sum m.2.2.2.2.2.2.1
  have a2 := bdS_sum m.2.2.2.2.2.2.2.2
  have a3 := mkS_len g.mks
  simp only [textM, numsT, restT, List.length_append, kv_len, List.length_cons, K1, K2, K3, K4, K5, K6, K8, List.length_nil]
  omega
structure MLen (m : Msg) : Prop where
  f : m.2.2.2.2.2.1.length ≤ 140737488351232
  rl : m.2.2.2.2.2.2.1.length ≤ 140737488351232
  rs : ∀ s ∈ m.2.2.2.2.2.2.1, s.length ≤ 140737488351232
  ml : m.2.2.2.2.2.2.2.1.length ≤ 140737488351232
  bl : m.2.2.2.2.2.2.2.2.length ≤ 140737488351232
  bs : ∀ s ∈ m.2.2.2.2.2.2.2.2, s.length ≤ 140737488351232
theorem encV_plain (m : Msg) : Plain (encV m) := by
  unfold encV
  split
  · refine Plain.tupv fun x hx => ?_
    simp only [List.mem_cons, List.not_mem_nil, or_false] at hx
    rcases hx with rfl | rfl
    · refine Plain.listv trivial fun r hr x hx => ?_
      simp only [brows, List.mem_map] at hr
      obtain ⟨b, _, rfl⟩ := hr
      rw [List.mem_singleton.1 hx]; exact .v _
    · exact .v _
  · refine Plain.tupv fun x hx => ?_
    simp only [List.mem_cons, List.not_mem_nil, or_false] at hx
    rcases hx with rfl | rfl
    · exact Plain.listv trivial fun r hr x hx => by cases hr
    · exact .v _
theorem encode_call (hP : PowTab w0) (m : Msg) (t1 t2 t3 : Tok) (h : AH) (hm : MOk m) : Call P w0 env_Encode [.agg (msgC m t1 t2 t3)] h (fun v h' => v = encV m ∧ h' = h) := Call.pure (encV_plain m) (encode_raw hP m t1 t2 t3 h hm)
def ansM : Msg := (1, 0, 0, 0, 0, [], [[97, 64, 98]], [], [])
theorem ansM_good : goodM ansM = true := by kernel_rfl
theorem ansM_small : smallM ansM = true := by kernel_rfl
abbrev MsgT : Ty := .pair (.int .i64) (.pair (.int .i64) (.pair (.int .i64) (.pair (.int .i64) (.pair (.int .i64) (.pair .str (.pair (.slice .str) (.pair (.slice (.int .i64)) (.pair (.slice .str) .unit))))))))
def msgOf (x : MsgT.D) : Msg := ((x.1 : Int), (x.2.1 : Int), (x.2.2.1 : Int), (x.2.2.2.1 : Int), (x.2.2.2.2.1 : Int), (x.2.2.2.2.2.1 : List UInt8), (x.2.2.2.2.2.2.1 : List (List UInt8)), (x.2.2.2.2.2.2.2.1 : List Int), (x.2.2.2.2.2.2.2.2.1 : List (List UInt8)))
theorem msg_ty (x : MsgT.D) (hf : MsgT.fit 140737488351232 x) : ∃ m : Msg, MsgT.val x = .agg (msgC m .no .no .no) ∧ MLen m := by
  refine ⟨msgOf x, rfl, ⟨hf.2.2.2.2.2.1, hf.2.2.2.2.2.2.1.1, fun s hs => hf.2.2.2.2.2.2.1.2 s hs, hf.2.2.2.2.2.2.2.1.1, hf.2.2.2.2.2.2.2.2.1.1, fun s hs => hf.2.2.2.2.2.2.2.2.1.2 s hs⟩⟩
end Go.Abs.F
namespace Go.Abs.F
open Go Go.Abs
set_option maxRecDepth 10000
set_option maxHeartbeats 20000000
set_option linter.unusedSimpArgs false
set_option linter.unusedVariables false
variable {w0 : World}
theorem errVars_of {l : List (String × DataW Unit)} {W : World} (hL : laidMetH P l W) (h1 : l.filter (fun x => x.1 == "strconv.ErrSyntax") = [("strconv.ErrSyntax", Go.Proofs.YtnpdmkbfphcioaaGreatDoor.Rows.laid_strconv_ErrSyntax)]) (h2 : l.filter (fun x => x.1 == "strconv.ErrRange") = [("strconv.ErrRange", Go.Proofs.YtnpdmkbfphcioaaGreatDoor.Rows.laid_strconv_ErrRange)]) : ErrVars W :=
  ⟨errSyntax_of hL h1 rfl, errRange_of hL h2 rfl⟩
end Go.Abs.F
/- Layer 12: Decode of what Encode wrote, for any message that may be. -/
namespace Go.Abs.F
open Go Go.Abs
set_option maxRecDepth 10000
set_option maxHeartbeats 20000000
set_option linter.unusedSimpArgs false
set_option linter.unusedVariables false
variable {w0 : World}
theorem mb_len {m : L8} (h : mbS m = true) : m.length ≤ 400 := by
  have h := of_decide_eq_true h
  obtain ⟨⟨a, b⟩, hs⟩ : ∃ x, splitO m = some x := by
    unfold canonO at h
    cases hq : splitO m with
    | none => rw [hq] at h; cases h
    | some x => exact ⟨x, rfl⟩
  obtain ⟨rfl, hl, hd, hn⟩ := splitO_some hs
  simp only [localS, Bool.and_eq_true, decide_eq_true_eq] at hl
  simp only [domainS, Bool.and_eq_true, decide_eq_true_eq] at hd
  simp only [List.length_append, List.length_cons]
  omega
theorem bsize_len (l : List L8) : 2 * l.length ≤ bsizeS l := by
  induction l with
  | nil => exact Nat.le_refl _
  | cons x l ih => simp only [bsizeS, List.length_cons]; omega
theorem marksN_of {l : List Int} (h : l.all markS = true) : marksB l = marksN (l.map Int.toNat) ∧ irows l = nrows (l.map Int.toNat) := by
  induction l with
  | nil => exact ⟨rfl, rfl⟩
  | cons x l ih =>
    rw [List.all_cons, Bool.and_eq_true] at h
    obtain ⟨h1, h2⟩ := ih h.2
    have hx := h.1
    simp only [markS, Bool.and_eq_true, decide_eq_true_eq] at hx
    obtain ⟨k, rfl⟩ : ∃ k : Nat, x = (k : Int) := ⟨x.toNat, by omega⟩
    have hk : k % 256 = k := by omega
    refine ⟨?_, ?_⟩
    · have : marksB ((k : Int) :: l) = numW 1 k ++ marksB l := by simp [marksB, numW, hk]
      rw [this, h1]; simp [marksN]
    · show [AV.v (.int .i64 (k : Int))] :: irows l = [AV.v (.int .i64 ((k : Int).toNat : Int))] :: nrows (l.map Int.toNat)
      rw [h2]; simp
theorem bdecode_call (m : Msg) (tok : Tok) (h : AH) (hm : MOk m) (hg : goodM m = true) : Call P w0 bin_Decode [.list 1 (brows (bytesM m)) tok] h (fun v h' => v = decV (some m) .no .no .no ∧ h' = h) := by
  refine Call.args ?_ (.cons (AV.le.noTok (tok := tok)) .nil)
  have htl := bytes_len hm hg
  have hG := fun t1 t2 t3 h => egood_call (w0 := w0) m t1 t2 t3 h hm
  rw [hg] at hG
  refine Call.pure (decV_plain _) (Call.weak (Q := fun v h' => ∃ t1 t2 t3, v = .tup [.agg (msgC m t1 t2 t3), .v (.int .i64 0)] ∧ Ext h h') ?_ fun v h' ⟨t1, t2, t3, hv, hE⟩ => ⟨_, h', hv ▸ decV_le (some m) t1 t2 t3, .refl _, rfl, hE⟩)
  obtain ⟨n1, n2, n3, n4, n5, f, rc, mk, bd⟩ := m
  simp only [goodM, numsS, bodyS, Bool.and_eq_true, decide_eq_true_eq] at hg
  obtain ⟨⟨⟨⟨⟨⟨⟨⟨⟨⟨⟨q1, q2⟩, q3⟩, q4⟩, q5⟩, zf⟩, z1⟩, z2⟩, z3⟩, z4⟩, rm⟩, zb⟩ := hg
  obtain ⟨a, rfl, ha⟩ := time_le q1
  obtain ⟨b, rfl, hb⟩ := time_le q2
  obtain ⟨c, rfl, hc⟩ := time_le q3
  obtain ⟨d, rfl, hd⟩ := time_le q4
  obtain ⟨e, rfl, he⟩ := time_le q5
  obtain ⟨hmb, hir⟩ := marksN_of rm
  have hfl : f.length < 65536 := by
    rcases Bool.or_eq_true _ _ ▸ zf with hz | hz
    · rw [List.isEmpty_iff.1 hz]; simp
    · have := mb_len hz; omega
  have hrx : ∀ t ∈ rc, t.length < 65536 := fun t ht => by have := mb_len (List.all_eq_true.1 z3 t ht); omega
  have hbx : ∀ t ∈ bd, t.length < 65536 := fun t ht => by
    have := List.all_eq_true.1 zb.1 t ht
    simp only [lineOkS, Bool.and_eq_true, decide_eq_true_eq] at this
    omega
  have hbl := bsize_len bd
  have hzb := zb.2
  unfold msgC at hG ⊢
  dsimp only at hG ⊢
  rw [hir] at hG ⊢
  have hb0 : bytesM ((a : Int), (b : Int), (c : Int), (d : Int), (e : Int), f, rc, mk, bd) = numW 1 2 ++ (numW 6 a ++ (numW 6 b ++ (numW 6 c ++ (numW 6 d ++ (numW 6 e ++ (textB f ++ ((numW 2 rc.length ++ textsB rc) ++ ((numW 2 (mk.map Int.toNat).length ++ marksN (mk.map Int.toNat)) ++ ((numW 4 bd.length ++ textsB bd) ++ []))))))))) := by
    simp [bytesM, numW, hmb]
  rw [hb0] at htl ⊢
  have hmx : ∀ t ∈ mk.map Int.toNat, t ≤ 2 := fun t ht => by
    obtain ⟨x, hx, rfl⟩ := List.mem_map.1 ht
    have := List.all_eq_true.1 rm x hx
    simp only [markS, Bool.and_eq_true, decide_eq_true_eq] at this
    omega
  have hml : (mk.map Int.toNat).length ≤ 50 := by rw [List.length_map]; exact z4
  generalize mk.map Int.toNat = mn at *
  refine (bdecode_raw a b c d e f rc mn bd _ _ _ _ _ _ _ _ _ h ⟨⟨rfl, ?_⟩, by omega⟩ ⟨⟨rfl, ?_⟩, by omega⟩ ⟨⟨rfl, ?_⟩, by omega⟩ ⟨⟨rfl, ?_⟩, by omega⟩ ⟨⟨rfl, ?_⟩, by omega⟩ ⟨⟨rfl, ?_⟩, by omega⟩ ⟨rfl, ?_⟩ ⟨rfl, ?_⟩ _ ⟨rfl, ?_⟩ ⟨rfl, ?_⟩ hfl z2 hrx hml hmx (by omega) hbx hG).mono fun v h' hp => ?_
  all_goals first
    | (obtain ⟨⟨t1, t2, t3, rfl⟩, hE⟩ := hp; exact ⟨t1, t2, t3, rfl, hE⟩)
    | (simp only [List.length_append, numW_len] at htl ⊢; omega)
end Go.Abs.F
/- Layer 12: the document's bytes of a message. -/
namespace Go.Abs.F
open Go Go.Abs
set_option maxRecDepth 10000
set_option maxHeartbeats 20000000
set_option linter.unusedSimpArgs false
set_option linter.unusedVariables false
variable {w0 : World}
def bcel (l : L8) : List AV := l.map fun b => .v (.int .u8 (b.toNat : Int))
theorem bcel_len (l : L8) : (bcel l).length = l.length := by simp [bcel]
theorem rnum8_row (n0 size : Nat) (h : AH) (hn : n0 ≤ 1152921504606846976) (hs : size ≤ 6) :
    Call P w0 ref08_num [.v (.int .i64 (n0 : Nat)), .v (.int .i64 (size : Nat))] h (fun v h' => v = .row h.n 0 size (some size) ∧ h'.objs h.n = some (.cells (bcel (numW size n0))) ∧ Ext h h') := by
  refine Call.bodyF b_ref08_num rfl rfl ?_
  unfold c_ref08_num
  repeat' (first
| ((with_reducible apply opsF.op rfl); case hs => first | exact tHT | exact tHS)
| (with_reducible first | apply opsF.nil | apply seqF.nn | apply vcF.seq | apply vcF.region | apply vcF.skip | apply vcF.block | apply vcF.exit | apply vcF.ret | apply vcF.loop | apply seqF.e | apply seqF.r | apply blkF.nn | apply blkF.e | apply blkF.r | apply blkF.o rfl)
| ((with_reducible apply opsF.call); case hx => exact tAG)
| ((with_reducible apply vcF.cond); case hx => exact tEV) <;> ((intro hc; try simp only [Int.reduceLT, Int.reduceLE, Int.reduceEq, Int.reduceNe, Int.cast_ofNat_Int, Int.reduceNeg, reduceCtorEq, ne_eq, ge_iff_le, gt_iff_lt, beq_iff_eq, beq_eq_false_iff_ne, bne_iff_ne, bne_eq_false_iff_eq, nrm, *] at hc) <;> try (exfalso; omega))
| ((with_reducible first | apply retF.r | apply retF.nn); case hv => exact tRS)
| ((with_reducible apply opsF.op rfl); (case hs => exact is_mks1 (n := size) tEV tEV (by omega))))
  refine LpF.ind rfl (fun k : Nat => k) (fun k σ hh => ∃ (q : Nat) (done : L8), q ≤ n0 ∧ numW size n0 = numW k q ++ done ∧ k + done.length = size ∧ hh.objs h.n = some (.cells (List.replicate k (.v (.int .u8 0)) ++ bcel done)) ∧ Ext h hh ∧ σ 0 = .v (.int .i64 (q : Nat)) ∧ σ 5 = .row h.n 0 size (some size) ∧ σ 6 = .v (.int .i64 ((k : Int) - 1))) ?_ (i := size)
    ⟨n0, [], Nat.le_refl _, by simp, rfl, by simp [alloc_at, bcel], Ext.alloc _ _, rfl, rfl, rfl⟩
  rintro k σ hh ⟨q, done, hq, he, hk, ho, hE, g0, g5, g6⟩
  have hge := hE.n
  cases k with
  | zero =>
    rw [show ((0 : Nat) : Int) - 1 = -1 by omega] at g6
    repeat' (first
| ((with_reducible apply opsF.op rfl); case hs => first | exact tHT | exact tHS)
| (with_reducible first | apply opsF.nil | apply seqF.nn | apply vcF.seq | apply vcF.region | apply vcF.skip | apply vcF.block | apply vcF.exit | apply vcF.ret | apply vcF.loop | apply seqF.e | apply seqF.r | apply blkF.nn | apply blkF.e | apply blkF.r | apply blkF.o rfl)
| ((with_reducible apply opsF.call); case hx => exact tAG)
| ((with_reducible apply vcF.cond); case hx => exact tEV) <;> ((intro hc; try simp only [Int.reduceLT, Int.reduceLE, Int.reduceEq, Int.reduceNe, Int.cast_ofNat_Int, Int.reduceNeg, reduceCtorEq, ne_eq, ge_iff_le, gt_iff_lt, beq_iff_eq, beq_eq_false_iff_ne, bne_iff_ne, bne_eq_false_iff_eq, nrm, *] at hc) <;> try (exfalso; omega))
| ((with_reducible first | apply retF.r | apply retF.nn); case hv => exact tRS))
    have e : bcel (numW size n0) = List.replicate 0 (.v (.int .u8 0)) ++ bcel done := by rw [he]; simp [numW]
    exact ⟨rfl, by rw [e]; exact ho, hE⟩
  | succ k =>
    have hk1 : ((k + 1 : Nat) : Int) - 1 = (k : Int) := by omega
    rw [hk1] at g6
    have hw := wrL_mid (v := AV.v (.int .u8 (((UInt8.ofNat (q % 256)).toNat : Nat) : Int))) (y := AV.v (.int .u8 0)) (ys := bcel done) (xs := List.replicate k (AV.v (.int .u8 0))) (n := k) (by simp)
    have hrp : List.replicate (k + 1) (AV.v (.int .u8 0)) ++ bcel done = List.replicate k (AV.v (.int .u8 0)) ++ AV.v (.int .u8 0) :: bcel done := by
      rw [List.replicate_succ']; simp
    rw [hrp] at ho
    have hlen : (List.replicate k (AV.v (.int .u8 0)) ++ AV.v (.int .u8 0) :: bcel done).length = size := by simp [bcel_len]; omega
    generalize List.replicate k (AV.v (.int .u8 0)) ++ AV.v (.int .u8 0) :: bcel done = cs at ho hw hlen
    have hmod : (q : Int).tmod 256 = ((q % 256 : Nat) : Int) := (Int.ofNat_tmod q 256).symm
    have hdiv : IntKind.i64.wrap ((q : Int).tdiv 256) = ((q / 256 : Nat) : Int) := by
      rw [show (q : Int).tdiv 256 = ((q / 256 : Nat) : Int) from (Int.ofNat_tdiv q 256).symm, w64 (by omega) (by omega)]
    have hcv : IntKind.u8.wrap ((q % 256 : Nat) : Int) = (((UInt8.ofNat (q % 256)).toNat : Nat) : Int) := by
      rw [wrap8, UInt8.toNat_ofNat']
      omega
    have hnum : numW size n0 = numW k (q / 256) ++ (UInt8.ofNat (q % 256) :: done) := by rw [he, numW]; simp
    clear he hrp
    repeat' (first
| ((with_reducible apply opsF.op rfl); case hs => first | exact tHT | exact tHS)
| (with_reducible first | apply opsF.nil | apply seqF.nn | apply vcF.seq | apply vcF.region | apply vcF.skip | apply vcF.block | apply vcF.exit | apply vcF.ret | apply vcF.loop | apply seqF.e | apply seqF.r | apply blkF.nn | apply blkF.e | apply blkF.r | apply blkF.o rfl)
| ((with_reducible apply opsF.call); case hx => exact tAG)
| ((with_reducible apply vcF.cond); case hx => exact tEV) <;> ((intro hc; try simp only [Int.reduceLT, Int.reduceLE, Int.reduceEq, Int.reduceNe, Int.cast_ofNat_Int, Int.reduceNeg, reduceCtorEq, ne_eq, ge_iff_le, gt_iff_lt, beq_iff_eq, beq_eq_false_iff_ne, bne_iff_ne, bne_eq_false_iff_eq, nrm, *] at hc) <;> try (exfalso; omega))
| ((with_reducible first | apply retF.r | apply retF.nn); case hv => exact tRS)
| ((with_reducible apply opsF.op rfl); (case hs => exact is_rem tEV tEV (by decide) hmod))
| ((with_reducible apply opsF.op rfl); (case hs => exact is_quo tEV tEV (by decide) hdiv))
| ((with_reducible apply opsF.op rfl); (case hs => exact is_convI tEV hcv)))
    refine ⟨k, by omega, q / 256, UInt8.ofNat (q % 256) :: done, Nat.le_trans (Nat.div_le_self _ _) hq, hnum, by simp; omega, ?_, hE.set (Nat.le_refl _) _, rfl, g5, ?_⟩
    · rw [set_at, if_pos rfl]
      congr 2
      rw [show 0 + k * 1 = k by omega]
      exact hw
    · rfl
theorem brows_flat (l : L8) : (brows l).flatten = bcel l := by
  induction l with
  | nil => rfl
  | cons x l ih =>
    show [AV.v (.int .u8 (x.toNat : Int))] ++ (brows l).flatten = _
    rw [ih]; rfl
theorem brows_plain (l : L8) {tok : Tok} (ht : tok.plain) : Plain (.list 1 (brows l) tok) := by
  refine Plain.listv ht fun r hr x hx => ?_
  simp only [brows, List.mem_map] at hr
  obtain ⟨b, _, rfl⟩ := hr
  rw [List.mem_singleton.1 hx]; exact .v _
theorem rnum8_call (n0 size : Nat) (c : Int) (hc : c = (size : Int)) (h : AH) (hn : n0 ≤ 1152921504606846976) (hs : size ≤ 6) :
    Call P w0 ref08_num [.v (.int .i64 (n0 : Nat)), .v (.int .i64 c)] h (fun v h' => v = .list 1 (brows (numW size n0)) .full ∧ h' = h) := by
  subst hc
  refine Call.pure (brows_plain _ trivial) ((rnum8_row n0 size h hn hs).listed fun v h' hp => ?_)
  obtain ⟨rfl, ho, hE⟩ := hp
  refine ⟨h.n, size, some size, 1, brows (numW size n0), [], .full, rfl, by rw [brows_flat, List.append_nil]; exact ho, by rw [brows_len, numW_len], ?_, by omega, .inr ⟨rfl, rfl⟩, rfl, hE.drop (Nat.le_refl _)⟩
  intro r hr
  simp only [brows, List.mem_map] at hr
  obtain ⟨b, _, rfl⟩ := hr
  rfl
theorem is_appB {σ : Fm} {h h2 : AH} {x y : Opd} {L S : L8} {tk tk1 tok : Tok} (hx : evF σ x = .list 1 (brows L) tk) (hy : evF σ y = .list 1 (brows S) tok) (hS : S ≠ []) (ht : appTok h tk = some (tk1, h2)) (hl : L.length + S.length ≤ 100000000000) :
    istep (.app 1 1 x y) (evF σ) h = some (.list 1 (brows (L ++ S)) tk1, h2) := by
  cases S with
  | nil => exact absurd rfl hS
  | cons c r =>
    refine is_app (r := [.v (.int .u8 (c.toNat : Int))]) (new := brows r) hx hy rfl ht ?_ (by rw [brows_app]; rfl)
    rw [brows_len, brows_len]
    simp at hl
    omega
theorem is_appS {σ : Fm} {h h2 : AH} {x y : Opd} {L S : L8} {tk tk1 : Tok} (hx : evF σ x = .list 1 (brows L) tk) (hy : evF σ y = .v (.string (bs S))) (hS : S ≠ []) (ht : appTok h tk = some (tk1, h2)) (hl : L.length + S.length ≤ 100000000000) :
    istep (.app 1 1 x y) (evF σ) h = some (.list 1 (brows (L ++ S)) tk1, h2) := by
  cases S with
  | nil => exact absurd rfl hS
  | cons c r =>
    refine is_app (r := [.v (.int .u8 (c.toNat : Int))]) (new := brows r) hx hy (by simp [srcRows, byteRows_brows, brows]) ht ?_ (by rw [brows_app]; rfl)
    rw [brows_len, brows_len]
    simp at hl
    omega
theorem numW_ne (k n : Nat) : numW (k + 1) n ≠ [] := by
  intro h
  have := congrArg List.length h
  rw [numW_len] at this
  cases this
theorem textB_ne (s : L8) : textB s ≠ [] := by
  intro h
  have := congrArg List.length h
  simp only [textB, List.length_append, numW_len, List.length_nil] at this
  omega
theorem rtext8_call (s : L8) (h : AH) (hs : s.length ≤ 1000000000) : Call P w0 ref08_text [.v (.string (bs s))] h (fun v h' => v = .list 1 (brows (textB s)) .no ∧ h' = h) := by
  have hN := fun h => rnum8_call (w0 := w0) s.length 2 2 rfl h (by omega) (by omega)
  refine Call.pure (brows_plain _ trivial) (Call.weak (Q := fun v h' => ∃ tk, v = .list 1 (brows (textB s)) tk ∧ Ext h h') ?_ fun v h' ⟨tk, hv, hE⟩ => ⟨_, _, hv ▸ .noTok, .refl _, rfl, hE⟩)
  refine Call.bodyF b_ref08_text rfl rfl ?_
  unfold c_ref08_text
  have hl2 := numW_len 2 s.length
  cases s with
  | nil =>
    have hap : appTok h .full = appTok h .full := rfl
    repeat' (first
| ((with_reducible apply opsF.op rfl); case hs => first | exact tHT | exact tHS)
| (with_reducible first | apply opsF.nil | apply seqF.nn | apply vcF.seq | apply vcF.region | apply vcF.skip | apply vcF.ret | apply seqF.r)
| ((with_reducible apply opsF.call); case hx => exact tAG)
| ((with_reducible apply vcF.cond); case hx => exact tEV) <;> ((intro hc; try simp only [Int.reduceLT, Int.reduceLE, Int.reduceEq, Int.reduceNe, Int.cast_ofNat_Int, Int.reduceNeg, reduceCtorEq, ne_eq, ge_iff_le, gt_iff_lt, beq_iff_eq, beq_eq_false_iff_ne, bne_iff_ne, bne_eq_false_iff_eq, nrm, *] at hc) <;> try (exfalso; omega))
| ((with_reducible first | apply retF.r | apply retF.nn); case hv => exact tRS)
| ((refine Call.use (hN _) ?_))
| ((with_reducible apply opsF.op rfl); (case hs => exact is_app0 tEV tEV rfl)))
    all_goals exact ⟨.full, by simp [textB], .refl _⟩
  | cons c r =>
    obtain ⟨tk1, h2, hap, hT2, hT3, hT4, hT5, hT6⟩ := (show TokU h .full from trivial).app
    repeat' (first
| ((with_reducible apply opsF.op rfl); case hs => first | exact tHT | exact tHS)
| (with_reducible first | apply opsF.nil | apply seqF.nn | apply vcF.seq | apply vcF.region | apply vcF.skip | apply vcF.ret | apply seqF.r)
| ((with_reducible apply opsF.call); case hx => exact tAG)
| ((with_reducible apply vcF.cond); case hx => exact tEV) <;> ((intro hc; try simp only [Int.reduceLT, Int.reduceLE, Int.reduceEq, Int.reduceNe, Int.cast_ofNat_Int, Int.reduceNeg, reduceCtorEq, ne_eq, ge_iff_le, gt_iff_lt, beq_iff_eq, beq_eq_false_iff_ne, bne_iff_ne, bne_eq_false_iff_eq, nrm, *] at hc) <;> try (exfalso; omega))
| ((with_reducible first | apply retF.r | apply retF.nn); case hv => exact tRS)
| ((refine Call.use (hN _) ?_))
| ((with_reducible apply opsF.op rfl); (case hs => exact is_appS tEV tEV (by simp) hap (by omega))))
    all_goals exact ⟨_, rfl, Ext.transX (.refl h) hT6 (fun _ x => x.elim) (fun t ht => by cases ht)⟩
end Go.Abs.F
/- Layer 12: the document's bytes of a message, whole. -/
namespace Go.Abs.F
open Go Go.Abs
set_option maxRecDepth 10000
set_option maxHeartbeats 20000000
set_option linter.unusedSimpArgs false
set_option linter.unusedVariables false
variable {w0 : World}
structure Ow (h hh : AH) (M : List AV) (tk : Tok) : Prop where
  e : Ext h hh
  m : hh.objs h.n = some (.cells M)
  lt : h.n < hh.n
  u : TokU hh tk
  f : ∀ t, tk.owner = some t → h.nt ≤ t
theorem Ow.step {h hh h2 : AH} {M : List AV} {tk tk1 : Tok} (O : Ow h hh M tk) (hT2 : TokU h2 tk1) (hT3 : TokN hh tk tk1) (hT4 : h2.objs = hh.objs) (hT5 : h2.n = hh.n) (hT6 : ExtX (fun _ => False) (fun t => tk.owner = some t) hh h2) : Ow h h2 M tk1 :=
  ⟨Ext.transX O.e hT6 (fun _ x => x.elim) O.f, by rw [hT4]; exact O.m, by rw [hT5]; exact O.lt, hT2, fun t ht => by
    rcases hT3 t ht with hz | hz
    · exact O.f t hz
    · exact Nat.le_trans O.e.nt hz⟩
theorem rbytes_raw (m : Msg) (t1 t2 t3 : Tok) (h : AH) (hm : MOk m) (hg : goodM m = true) : Call P w0 ref08_Bytes [.agg (msgC m t1 t2 t3)] h (fun v h' => ∃ tk, v = .list 1 (brows (bytesM m)) tk ∧ Ext h h') := by
  have xl := srows_len
  have xg := srows_get
  have yl := irows_len
  have yg := irows_get
  have htl := bytes_len hm hg
  obtain ⟨n1, n2, n3, n4, n5, f, rc, mk, bd⟩ := m
  simp only [goodM, numsS, Bool.and_eq_true, decide_eq_true_eq] at hg
  obtain ⟨⟨⟨⟨⟨⟨⟨⟨⟨⟨⟨q1, q2⟩, q3⟩, q4⟩, q5⟩, _⟩, _⟩, _⟩, _⟩, _⟩, rm⟩, _⟩ := hg
  obtain ⟨a, rfl, ha⟩ := time_le q1
  obtain ⟨b, rfl, hb⟩ := time_le q2
  obtain ⟨c, rfl, hc⟩ := time_le q3
  obtain ⟨d, rfl, hd⟩ := time_le q4
  obtain ⟨e, rfl, he⟩ := time_le q5
  clear q1 q2 q3 q4 q5
  obtain ⟨zf, zr, zrs, zm, zb, zbs⟩ := hm
  simp only at zf zr zrs zm zb zbs
  have e1 := srows_len rc
  have e2 := irows_len mk
  have e3 := srows_len bd
  obtain ⟨T, hT⟩ : ∃ T, bytesM ((a : Int), (b : Int), (c : Int), (d : Int), (e : Int), f, rc, mk, bd) = T := ⟨_, rfl⟩
  rw [hT] at htl
  rw [hT]
  have hS : (((((((([2] ++ numW 6 a) ++ numW 6 b) ++ numW 6 c) ++ numW 6 d) ++ numW 6 e) ++ textB f) ++ numW 2 rc.length)) ++ (textsB rc ++ (numW 2 mk.length ++ (marksB mk ++ (numW 4 bd.length ++ textsB bd)))) = T := by
    rw [← hT]; simp [bytesM]
  have hSl := congrArg List.length hS
  simp only [List.length_append, List.length_nil, List.length_cons, numW_len] at hSl
  clear hT
  unfold msgC
  dsimp only
  refine Call.bodyF b_ref08_Bytes rfl rfl ?_
  unfold c_ref08_Bytes
  obtain ⟨CS, hCS⟩ : ∃ CS, CS = [AV.v (.int .i64 (a : Int)), .v (.int .i64 (b : Int)), .v (.int .i64 (c : Int)), .v (.int .i64 (d : Int)), .v (.int .i64 (e : Int)), .v (.string (bs f)), .list 1 (srows rc) t1, .list 1 (irows mk) t2, .list 1 (srows bd) t3] := ⟨_, rfl⟩
  have O : Ow h (h.alloc (.cells CS)) CS .full := ⟨Ext.alloc _ _, by simp [alloc_at], by simp [alloc_n], trivial, fun t ht => by cases ht⟩
  have hM := O.m
  have lit2 : [[AV.v (.int .u8 2)]] = brows [2] := rfl
  rw [hCS] at O hM
  repeat' (first
| (obtain ⟨tk1, h2, hap, hT2, hT3, hT4, hT5, hT6⟩ := O.u.app; ((with_reducible apply opsF.op rfl); (case hs => exact is_appB tEV tEV (by first | exact numW_ne _ _ | exact textB_ne _ | simp) hap (by simp only [List.length_append, numW_len, List.length_cons, List.length_nil, textB]; omega))); replace O := O.step hT2 hT3 hT4 hT5 hT6; replace hM := O.m; clear hap hT2 hT3 hT4 hT5 hT6)
| ((with_reducible apply opsF.op rfl); case hs => first | exact tHT | exact tHS)
| (with_reducible first | apply opsF.nil | apply seqF.nn | apply vcF.seq | apply vcF.region | apply vcF.skip | apply vcF.block | apply vcF.exit | apply vcF.ret | apply vcF.loop | apply seqF.e | apply seqF.r | apply blkF.nn | apply blkF.e | apply blkF.r | apply blkF.o rfl)
| ((with_reducible apply opsF.call); case hx => exact tAG)
| ((with_reducible apply vcF.cond); case hx => exact tEV) <;> ((intro hc; try simp only [Int.reduceLT, Int.reduceLE, Int.reduceEq, Int.reduceNe, Int.cast_ofNat_Int, Int.reduceNeg, reduceCtorEq, ne_eq, ge_iff_le, gt_iff_lt, beq_iff_eq, beq_eq_false_iff_ne, bne_iff_ne, bne_eq_false_iff_eq, nrm, *] at hc) <;> try (exfalso; omega))
| ((with_reducible first | apply retF.r | apply retF.nn); case hv => exact tRS)
| ((refine Call.use (rnum8_call _ 6 6 rfl _ (by omega) (by omega)) ?_))
| with_reducible apply LpF.unfold rfl)
  repeat' (first
| (obtain ⟨tk1, h2, hap, hT2, hT3, hT4, hT5, hT6⟩ := O.u.app; ((with_reducible apply opsF.op rfl); (case hs => exact is_appB tEV tEV (by first | exact numW_ne _ _ | exact textB_ne _ | simp) hap (by simp only [List.length_append, numW_len, List.length_cons, List.length_nil, textB]; omega))); replace O := O.step hT2 hT3 hT4 hT5 hT6; replace hM := O.m; clear hap hT2 hT3 hT4 hT5 hT6)
| ((with_reducible apply opsF.op rfl); case hs => first | exact tHT | exact tHS)
| (with_reducible first | apply opsF.nil | apply seqF.nn | apply vcF.seq | apply vcF.region | apply vcF.skip | apply vcF.block | apply vcF.exit | apply vcF.ret | apply vcF.loop | apply seqF.e | apply seqF.r | apply blkF.nn | apply blkF.e | apply blkF.r | apply blkF.o rfl)
| ((with_reducible apply opsF.call); case hx => exact tAG)
| ((with_reducible apply vcF.cond); case hx => exact tEV) <;> ((intro hc; try simp only [Int.reduceLT, Int.reduceLE, Int.reduceEq, Int.reduceNe, Int.cast_ofNat_Int, Int.reduceNeg, reduceCtorEq, ne_eq, ge_iff_le, gt_iff_lt, beq_iff_eq, beq_eq_false_iff_ne, bne_iff_ne, bne_eq_false_iff_eq, nrm, *] at hc) <;> try (exfalso; omega))
| ((with_reducible first | apply retF.r | apply retF.nn); case hv => exact tRS)
| ((refine Call.use (rnum8_call _ 2 2 rfl _ (by omega) (by omega)) ?_))
| ((refine Call.use (rtext8_call _ _ (by omega)) ?_)))
  clear hSl hc ha hb hd he hM lit2
  rw [← hCS] at O
  refine LpF.ind rfl (fun i : Nat => rc.length - i) (fun i σ hh => ∃ (pre : L8) (tk : Tok), Ow h hh CS tk ∧ σ 1 = .ptr h.n 0 ∧ σ 3 = .list 1 (brows pre) tk ∧ σ 6 = .v (.int .i64 (i : Nat)) ∧ i ≤ rc.length ∧ pre ++ (textsB (rc.drop i) ++ (numW 2 mk.length ++ (marksB mk ++ (numW 4 bd.length ++ textsB bd)))) = T) ?_ (i := 0)
    ⟨_, _, O, rfl, rfl, rfl, Nat.zero_le _, hS⟩
  clear O hS
  rintro i σ hh ⟨pre, tk, O, g1, g3, g6, hi, hS⟩
  have hM := O.m
  rw [hCS] at hM
  rcases Nat.lt_or_ge i rc.length with hlt | hge
  · obtain ⟨x, hx⟩ : ∃ x, rc[i]? = some x := ⟨_, List.getElem?_eq_getElem hlt⟩
    have hxl := zrs x (List.mem_of_getElem? hx)
    have hS2 : (pre ++ textB x) ++ (textsB (rc.drop (i + 1)) ++ (numW 2 mk.length ++ (marksB mk ++ (numW 4 bd.length ++ textsB bd)))) = T := by rw [← hS, textsB_drop hx]; simp
    have hSl : pre.length ≤ 100000000 := by
      have := congrArg List.length hS2
      simp only [List.length_append] at this
      omega
    clear hS
    rw [hCS] at O
    repeat' (first
| (obtain ⟨tk1, h2, hap, hT2, hT3, hT4, hT5, hT6⟩ := O.u.app; ((with_reducible apply opsF.op rfl); (case hs => exact is_appB tEV tEV (by first | exact numW_ne _ _ | exact textB_ne _ | simp) hap (by simp only [List.length_append, numW_len, List.length_cons, List.length_nil, textB]; omega))); replace O := O.step hT2 hT3 hT4 hT5 hT6; replace hM := O.m; clear hap hT2 hT3 hT4 hT5 hT6)
| ((with_reducible apply opsF.op rfl); case hs => first | exact tHT | exact tHS)
| (with_reducible first | apply opsF.nil | apply seqF.nn | apply vcF.seq | apply vcF.region | apply vcF.skip | apply vcF.block | apply vcF.exit | apply vcF.ret | apply vcF.loop | apply seqF.e | apply seqF.r | apply blkF.nn | apply blkF.e | apply blkF.r | apply blkF.o rfl)
| ((with_reducible apply opsF.call); case hx => exact tAG)
| ((with_reducible apply vcF.cond); case hx => exact tEV) <;> ((intro hc; try simp only [Int.reduceLT, Int.reduceLE, Int.reduceEq, Int.reduceNe, Int.cast_ofNat_Int, Int.reduceNeg, reduceCtorEq, ne_eq, ge_iff_le, gt_iff_lt, beq_iff_eq, beq_eq_false_iff_ne, bne_iff_ne, bne_eq_false_iff_eq, nrm, *] at hc) <;> try (exfalso; omega))
| ((with_reducible first | apply retF.r | apply retF.nn); case hv => exact tRS)
| ((refine Call.use (rtext8_call _ _ (by omega)) ?_)))
    rw [← hCS] at O
    exact ⟨i + 1, by omega, _, _, O, g1, rfl, rfl, by omega, hS2⟩
  · obtain rfl : i = rc.length := by omega
    rw [List.drop_length] at hS
    have hS2 : (pre ++ numW 2 mk.length) ++ (marksB mk ++ (numW 4 bd.length ++ textsB bd)) = T := by rw [← hS]; simp [textsB]
    have hSl : pre.length ≤ 100000000 := by
      have := congrArg List.length hS2
      simp only [List.length_append] at this
      omega
    clear hS
    rw [hCS] at O
    repeat' (first
| (obtain ⟨tk1, h2, hap, hT2, hT3, hT4, hT5, hT6⟩ := O.u.app; ((with_reducible apply opsF.op rfl); (case hs => exact is_appB tEV tEV (by first | exact numW_ne _ _ | exact textB_ne _ | simp) hap (by simp only [List.length_append, numW_len, List.length_cons, List.length_nil, textB]; omega))); replace O := O.step hT2 hT3 hT4 hT5 hT6; replace hM := O.m; clear hap hT2 hT3 hT4 hT5 hT6)
| ((with_reducible apply opsF.op rfl); case hs => first | exact tHT | exact tHS)
| (with_reducible first | apply opsF.nil | apply seqF.nn | apply vcF.seq | apply vcF.region | apply vcF.skip | apply vcF.block | apply vcF.exit | apply vcF.ret | apply vcF.loop | apply seqF.e | apply seqF.r | apply blkF.nn | apply blkF.e | apply blkF.r | apply blkF.o rfl)
| ((with_reducible apply opsF.call); case hx => exact tAG)
| ((with_reducible apply vcF.cond); case hx => exact tEV) <;> ((intro hc; try simp only [Int.reduceLT, Int.reduceLE, Int.reduceEq, Int.reduceNe, Int.cast_ofNat_Int, Int.reduceNeg, reduceCtorEq, ne_eq, ge_iff_le, gt_iff_lt, beq_iff_eq, beq_eq_false_iff_ne, bne_iff_ne, bne_eq_false_iff_eq, nrm, *] at hc) <;> try (exfalso; omega))
| ((with_reducible first | apply retF.r | apply retF.nn); case hv => exact tRS)
| ((refine Call.use (rnum8_call _ 2 2 rfl _ (by omega) (by omega)) ?_)))
    rw [← hCS] at O
    refine LpF.ind rfl (fun i : Nat => mk.length - i) (fun i σ hh => ∃ (pre : L8) (tk : Tok), Ow h hh CS tk ∧ σ 1 = .ptr h.n 0 ∧ σ 3 = .list 1 (brows pre) tk ∧ σ 7 = .v (.int .i64 (i : Nat)) ∧ i ≤ mk.length ∧ pre ++ (marksB (mk.drop i) ++ (numW 4 bd.length ++ textsB bd)) = T) ?_ (i := 0)
      ⟨_, _, O, g1, rfl, rfl, Nat.zero_le _, hS2⟩
    clear O hS2 hSl g1 g3 g6 hM
    rintro i σ hh ⟨pre, tk, O, g1, g3, g6, hi, hS⟩
    have hM := O.m
    rw [hCS] at hM
    rcases Nat.lt_or_ge i mk.length with hlt | hge
    · obtain ⟨x, hx⟩ : ∃ x, mk[i]? = some x := ⟨_, List.getElem?_eq_getElem hlt⟩
      have hmx : markS x = true := List.all_eq_true.1 rm x (List.mem_of_getElem? hx)
      simp only [markS, Bool.and_eq_true, decide_eq_true_eq] at hmx
      obtain ⟨k, rfl⟩ : ∃ k : Nat, x = (k : Int) := ⟨x.toNat, by omega⟩
      have hk : k ≤ 2 := by omega
      have hS2 : (pre ++ numW 1 k) ++ (marksB (mk.drop (i + 1)) ++ (numW 4 bd.length ++ textsB bd)) = T := by rw [← hS, marksB_drop hx hk]; simp
      have hSl : pre.length ≤ 100000000 := by
        have := congrArg List.length hS2
        simp only [List.length_append] at this
        omega
      clear hS
      have hb1 : [[AV.v (.int .u8 (k : Int))]] = brows (numW 1 k) := by
        have : k % 256 = k := by omega
        simp [numW, brows, this]
      have hcv : IntKind.u8.wrap (k : Int) = (k : Int) := by rw [wrap8]; omega
      have bl := brows_len
      rw [hCS] at O
      obtain ⟨tk1, h2, hap, hT2, hT3, hT4, hT5, hT6⟩ := O.u.app
      replace O := O.step hT2 hT3 hT4 hT5 hT6
      repeat' (first
| ((with_reducible apply opsF.op rfl); (case hs => exact is_convI tEV hcv))
| ((with_reducible apply opsF.op rfl); case hs => first | exact tHT | exact tHS)
| (with_reducible first | apply opsF.nil | apply seqF.nn | apply vcF.seq | apply vcF.region | apply vcF.skip | apply vcF.block | apply vcF.exit | apply vcF.ret | apply vcF.loop | apply seqF.e | apply seqF.r | apply blkF.nn | apply blkF.e | apply blkF.r | apply blkF.o rfl)
| ((with_reducible apply opsF.call); case hx => exact tAG)
| ((with_reducible apply vcF.cond); case hx => exact tEV) <;> ((intro hc; try simp only [Int.reduceLT, Int.reduceLE, Int.reduceEq, Int.reduceNe, Int.cast_ofNat_Int, Int.reduceNeg, reduceCtorEq, ne_eq, ge_iff_le, gt_iff_lt, beq_iff_eq, beq_eq_false_iff_ne, bne_iff_ne, bne_eq_false_iff_eq, nrm, *] at hc) <;> try (exfalso; omega))
| ((with_reducible first | apply retF.r | apply retF.nn); case hv => exact tRS))
      rw [← hCS] at O
      refine ⟨i + 1, by omega, _, _, O, g1, ?_, rfl, by omega, hS2⟩
      rw [brows_app]
      rfl
    · obtain rfl : i = mk.length := by omega
      rw [List.drop_length] at hS
      have hS2 : (pre ++ numW 4 bd.length) ++ textsB bd = T := by rw [← hS]; simp [marksB]
      have hSl : pre.length ≤ 100000000 := by
        have := congrArg List.length hS2
        simp only [List.length_append] at this
        omega
      clear hS
      rw [hCS] at O
      repeat' (first
| (obtain ⟨tk1, h2, hap, hT2, hT3, hT4, hT5, hT6⟩ := O.u.app; ((with_reducible apply opsF.op rfl); (case hs => exact is_appB tEV tEV (by first | exact numW_ne _ _ | exact textB_ne _ | simp) hap (by simp only [List.length_append, numW_len, List.length_cons, List.length_nil, textB]; omega))); replace O := O.step hT2 hT3 hT4 hT5 hT6; replace hM := O.m; clear hap hT2 hT3 hT4 hT5 hT6)
| ((with_reducible apply opsF.op rfl); case hs => first | exact tHT | exact tHS)
| (with_reducible first | apply opsF.nil | apply seqF.nn | apply vcF.seq | apply vcF.region | apply vcF.skip | apply vcF.block | apply vcF.exit | apply vcF.ret | apply vcF.loop | apply seqF.e | apply seqF.r | apply blkF.nn | apply blkF.e | apply blkF.r | apply blkF.o rfl)
| ((with_reducible apply opsF.call); case hx => exact tAG)
| ((with_reducible apply vcF.cond); case hx => exact tEV) <;> ((intro hc; try simp only [Int.reduceLT, Int.reduceLE, Int.reduceEq, Int.reduceNe, Int.cast_ofNat_Int, Int.reduceNeg, reduceCtorEq, ne_eq, ge_iff_le, gt_iff_lt, beq_iff_eq, beq_eq_false_iff_ne, bne_iff_ne, bne_eq_false_iff_eq, nrm, *] at hc) <;> try (exfalso; omega))
| ((with_reducible first | apply retF.r | apply retF.nn); case hv => exact tRS)
| ((refine Call.use (rnum8_call _ 4 4 rfl _ (by omega) (by omega)) ?_)))
      rw [← hCS] at O
      refine LpF.ind rfl (fun i : Nat => bd.length - i) (fun i σ hh => ∃ (pre : L8) (tk : Tok), Ow h hh CS tk ∧ σ 1 = .ptr h.n 0 ∧ σ 3 = .list 1 (brows pre) tk ∧ σ 8 = .v (.int .i64 (i : Nat)) ∧ i ≤ bd.length ∧ pre ++ textsB (bd.drop i) = T) ?_ (i := 0)
        ⟨_, _, O, g1, rfl, rfl, Nat.zero_le _, hS2⟩
      clear O hS2 hSl g1 g3 g6 hM
      rintro i σ hh ⟨pre, tk, O, g1, g3, g6, hi, hS⟩
      have hM := O.m
      rw [hCS] at hM
      rcases Nat.lt_or_ge i bd.length with hlt | hge
      · obtain ⟨x, hx⟩ : ∃ x, bd[i]? = some x := ⟨_, List.getElem?_eq_getElem hlt⟩
        have hxl := zbs x (List.mem_of_getElem? hx)
        have hS2 : (pre ++ textB x) ++ textsB (bd.drop (i + 1)) = T := by rw [← hS, textsB_drop hx]; simp
        have hSl : pre.length ≤ 100000000 := by
          have := congrArg List.length hS2
          simp only [List.length_append] at this
          omega
        clear hS
        rw [hCS] at O
        repeat' (first
| (obtain ⟨tk1, h2, hap, hT2, hT3, hT4, hT5, hT6⟩ := O.u.app; ((with_reducible apply opsF.op rfl); (case hs => exact is_appB tEV tEV (by first | exact numW_ne _ _ | exact textB_ne _ | simp) hap (by simp only [List.length_append, numW_len, List.length_cons, List.length_nil, textB]; omega))); replace O := O.step hT2 hT3 hT4 hT5 hT6; replace hM := O.m; clear hap hT2 hT3 hT4 hT5 hT6)
| ((with_reducible apply opsF.op rfl); case hs => first | exact tHT | exact tHS)
| (with_reducible first | apply opsF.nil | apply seqF.nn | apply vcF.seq | apply vcF.region | apply vcF.skip | apply vcF.block | apply vcF.exit | apply vcF.ret | apply vcF.loop | apply seqF.e | apply seqF.r | apply blkF.nn | apply blkF.e | apply blkF.r | apply blkF.o rfl)
| ((with_reducible apply opsF.call); case hx => exact tAG)
| ((with_reducible apply vcF.cond); case hx => exact tEV) <;> ((intro hc; try simp only [Int.reduceLT, Int.reduceLE, Int.reduceEq, Int.reduceNe, Int.cast_ofNat_Int, Int.reduceNeg, reduceCtorEq, ne_eq, ge_iff_le, gt_iff_lt, beq_iff_eq, beq_eq_false_iff_ne, bne_iff_ne, bne_eq_false_iff_eq, nrm, *] at hc) <;> try (exfalso; omega))
| ((with_reducible first | apply retF.r | apply retF.nn); case hv => exact tRS)
| ((refine Call.use (rtext8_call _ _ (by omega)) ?_)))
        rw [← hCS] at O
        exact ⟨i + 1, by omega, _, _, O, g1, rfl, rfl, by omega, hS2⟩
      · obtain rfl : i = bd.length := by omega
        rw [List.drop_length, textsB, List.append_nil] at hS
        subst hS
        have hE := O.e
        repeat' (first
| ((with_reducible apply opsF.op rfl); case hs => first | exact tHT | exact tHS)
| (with_reducible first | apply opsF.nil | apply seqF.nn | apply vcF.seq | apply vcF.region | apply vcF.skip | apply vcF.block | apply vcF.exit | apply vcF.ret | apply vcF.loop | apply seqF.e | apply seqF.r | apply blkF.nn | apply blkF.e | apply blkF.r | apply blkF.o rfl)
| ((with_reducible apply opsF.call); case hx => exact tAG)
| ((with_reducible apply vcF.cond); case hx => exact tEV) <;> ((intro hc; try simp only [Int.reduceLT, Int.reduceLE, Int.reduceEq, Int.reduceNe, Int.cast_ofNat_Int, Int.reduceNeg, reduceCtorEq, ne_eq, ge_iff_le, gt_iff_lt, beq_iff_eq, beq_eq_false_iff_ne, bne_iff_ne, bne_eq_false_iff_eq, nrm, *] at hc) <;> try (exfalso; omega))
| ((with_reducible first | apply retF.r | apply retF.nn); case hv => exact tRS))
        all_goals exact ⟨_, rfl, hE⟩
theorem rbytes_call (m : Msg) (t1 t2 t3 : Tok) (h : AH) (hm : MOk m) (hg : goodM m = true) : Call P w0 ref08_Bytes [.agg (msgC m t1 t2 t3)] h (fun v h' => v = .list 1 (brows (bytesM m)) .no ∧ h' = h) :=
  Call.pure (brows_plain _ trivial) ((rbytes_raw m t1 t2 t3 h hm hg).weak fun v h' ⟨tk, hv, hE⟩ => ⟨_, _, hv ▸ .noTok, .refl _, rfl, hE⟩)
end Go.Abs.F
