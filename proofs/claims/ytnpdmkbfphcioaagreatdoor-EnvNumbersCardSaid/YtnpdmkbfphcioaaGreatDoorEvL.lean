/- Layer 11: what its laws call first. Layer 11: what a law knows of the world; how long a message's parts are. -/
import Derived.Test.YtnpdmkbfphcioaaGreatDoorEvE
import Derived.Test.YtnpdmkbfphcioaaGreatDoorEvF
import Derived.Test.YtnpdmkbfphcioaaGreatDoorEvI
import Derived.Test.YtnpdmkbfphcioaaGreatDoorEvJ
import Derived.Test.YtnpdmkbfphcioaaGreatDoorAbsW
namespace Go.Abs.F
open Go Go.Abs
set_option maxRecDepth 10000
set_option maxHeartbeats 20000000
set_option linter.unusedSimpArgs false
set_option linter.unusedVariables false
variable {w0 : World}
def sumL : List L8 → Nat
  | [] => 0
  | s :: l => s.length + sumL l
theorem sumL_app (l m : List L8) : sumL (l ++ m) = sumL l + sumL m := by
  induction l with
  | nil => simp [sumL]
  | cons x l ih => simp only [List.cons_append, sumL, ih]; omega
theorem sumL_take {l : List L8} {i : Nat} {x : L8} (hx : l[i]? = some x) : sumL (l.take (i + 1)) = sumL (l.take i) + x.length := by
  rw [List.take_add_one, hx, Option.toList_some, sumL_app]
  simp [sumL]
theorem sumL_le (l : List L8) (i : Nat) : sumL (l.take i) ≤ sumL l := by
  conv => rhs; rw [← List.take_append_drop i l, sumL_app]
  omega
theorem sumL_mem {l : List L8} {s : L8} (h : s ∈ l) : s.length ≤ sumL l := by
  induction l with
  | nil => cases h
  | cons x l ih =>
    simp only [sumL]
    rcases List.mem_cons.1 h with rfl | h
    · omega
    · have := ih h; omega
def baseM (m : Msg) : Nat := m.2.2.2.2.2.1.length + m.2.2.2.2.2.2.1.length + m.2.2.2.2.2.2.2.1.length + m.2.2.2.2.2.2.2.2.length
def smallM (m : Msg) : Bool := decide (baseM m + sumL m.2.2.2.2.2.2.2.2 + sumL m.2.2.2.2.2.2.1 < 5000)
theorem small_ok {m : Msg} (h : smallM m = true) : MOk m := by
  have h := of_decide_eq_true h
  unfold baseM at h
  exact ⟨by omega, by omega, fun s hs => by have := sumL_mem hs; omega, by omega, by omega, fun s hs => by have := sumL_mem hs; omega⟩
theorem rcS_sum (l : List L8) : (rcS l).length = sumL l + 6 * l.length := by
  induction l with
  | nil => rfl
  | cons x l ih =>
    have h3 := kv_len K7 x
    have h4 : K7.length = 4 := rfl
    simp only [rcS, sumL, List.length_append, List.length_cons, ih]
    omega
theorem bdS_sum (l : List L8) : (bdS l).length = sumL l + l.length := by
  induction l with
  | nil => rfl
  | cons x l ih =>
    simp only [bdS, sumL, List.length_append, List.length_cons, ih]
    omega
theorem text_small {m : Msg} (hs : smallM m = true) (hg : goodM m = true) : (textM m).length ≤ 1000000 := by
  have g := goodP_of hg
  have h := of_decide_eq_true hs
  unfold baseM at h
  have d1 := decS_len _ g.t1.1 g.t1.2
  have d2 := decS_len _ g.t2.1 g.t2.2
  have d3 := decS_len _ g.t3.1 g.t3.2
  have d4 := decS_len _ g.t4.1 g.t4.2
  have d5 := decS_len _ g.t5.1 g.t5.2
  have a1 := rcS_sum m.2.2.2.2.2.2.1
  have a2 := bdS_sum m.2.2.2.2.2.2.2.2
  have a3 := mkS_len g.mks
  simp only [textM, numsT, restT, List.length_append, kv_len, List.length_cons, K1, K2, K3, K4, K5, K6, K8, List.length_nil]
  omega
structure MLen (m : Msg) : Prop where
  f : m.2.2.2.2.2.1.length ≤ 140737488351232
  rl : m.2.2.2.2.2.2.1.length ≤ 140737488351232
  rs : ∀ s ∈ m.2.2.2.2.2.2.1, s.length ≤ 140737488351232
  ml : m.2.2.2.2.2.2.2.1.length ≤ 140737488351232
  bl : m.2.2.2.2.2.2.2.2.length ≤ 140737488351232
  bs : ∀ s ∈ m.2.2.2.2.2.2.2.2, s.length ≤ 140737488351232
theorem small_raw (m : Msg) (t1 t2 t3 : Tok) (h : AH) (hm : MLen m) : Call P w0 law11_small [.agg (msgC m t1 t2 t3)] h (fun v h' => v = .v (.bool (smallM m)) ∧ Ext h h') := by
  obtain ⟨n1, n2, n3, n4, n5, f, rc, mk, bd⟩ := m
  obtain ⟨zf, zr, zrs, zm, zb, zbs⟩ := hm
  simp only at zf zr zrs zm zb zbs
  have xl := srows_len
  have xg := srows_get
  have yl := irows_len
  have e1 := srows_len rc
  have e2 := irows_len mk
  have e3 := srows_len bd
  obtain ⟨B, hB⟩ : ∃ B : Nat, B = f.length + rc.length + mk.length + bd.length := ⟨_, rfl⟩
  have hsm : smallM (n1, n2, n3, n4, n5, f, rc, mk, bd) = decide (B + sumL bd + sumL rc < 5000) := by rw [hB]; rfl
  rw [hsm]
  clear hsm
  have hBI : ((f.length : Int) + rc.length + mk.length + bd.length) = (B : Int) := by omega
  have hBN : B ≤ 562949953404928 := by omega
  clear hB
  refine Call.bodyF b_law11_small rfl rfl ?_
  unfold c_law11_small msgC
  dsimp only
  repeat' (first
    | ((with_reducible apply opsF.op rfl); (case hs => (first | exact tHT | exact tHS)))
    | with_reducible (first | apply opsF.nil | apply seqF.nn | apply vcF.seq | apply vcF.region | apply vcF.skip | apply vcF.block | apply vcF.exit | apply vcF.ret | apply vcF.loop | apply seqF.e | apply seqF.r | apply blkF.nn | apply blkF.e | apply blkF.r | apply blkF.o rfl)
    | ((with_reducible apply opsF.call); (case hx => exact tAG))
    | ((with_reducible apply opsF.want); (case hg => exact tEV); (case hb => exact tNB))
    | ((with_reducible apply opsF.skip); (case hg => exact tEV); (case hb => exact tNB))
    | (first | ((with_reducible apply opsF.case); (case hg => exact tEV)) | ((with_reducible apply vcF.cond); (case hx => exact tEV))) <;> ((intro hc; try simp only [Int.reduceLT, Int.reduceLE, Int.reduceEq, Int.reduceNe, Int.cast_ofNat_Int, Int.reduceNeg, decide_true, decide_false, not_true_eq_false, not_false_eq_true, decide_eq_true_eq, decide_eq_false_iff_not, Bool.not_eq_true', Bool.not_eq_false', Bool.not_true, Bool.not_false, Bool.false_eq_true, Bool.true_eq_false, Bool.not_eq_true, Bool.not_eq_false, beq_iff_eq, beq_eq_false_iff_ne, bne_iff_ne, bne_eq_false_iff_eq, ne_eq, Int.not_lt, Int.not_le, ge_iff_le, gt_iff_lt, Decidable.not_not, reduceCtorEq, *] at hc) <;> (try (exfalso; omega)))
    | ((with_reducible apply opsF.und); (case hg => rfl))
    | ((with_reducible apply retF.r); (case hv => exact tRS))
    | ((with_reducible apply retF.nn); (case hv => exact tRS)))
  refine LpF.ind rfl (fun i : Nat => bd.length - i) (fun i σ hh => Ext h hh ∧ hh.objs h.n = some (.cells [.v (.int .i64 n1), .v (.int .i64 n2), .v (.int .i64 n3), .v (.int .i64 n4), .v (.int .i64 n5), .v (.string (bs f)), .list 1 (srows rc) t1, .list 1 (irows mk) t2, .list 1 (srows bd) t3]) ∧ h.n < hh.n ∧ σ 1 = .ptr h.n 0 ∧ σ 3 = .v (.int .i64 ((B + sumL (bd.take i) : Nat) : Int)) ∧ σ 4 = .v (.int .i64 (i : Nat)) ∧ i ≤ bd.length) ?_ (i := 0)
    ⟨Ext.alloc _ _, by simp [alloc_at], by simp [alloc_n], rfl, ?_, rfl, Nat.zero_le _⟩
  rotate_left
  · conv => lhs; whnf
    first | (simp [sumL]; done) | (simp [sumL]; omega)
  rintro i σ hh ⟨hE, hM, hn, g1, g3, g4, hi⟩
  have hts := sumL_le bd i
  by_cases hex : i = bd.length ∨ 5000 ≤ B + sumL (bd.take i)
  · have hfin : ∀ k, i = bd.length → B + sumL (bd.take i) + k = B + sumL bd + k := fun k e => by rw [e, List.take_length]
    generalize hq : B + sumL (bd.take i) = q at *
    have hqs : q ≤ B + sumL bd := by omega
    have key : (i < bd.length ∧ 5000 ≤ q) ∨ i = bd.length := by omega
    clear hex hq
    rcases key with ⟨k1, k2⟩ | k1
    · rw [decide_eq_false (show ¬ B + sumL bd + sumL rc < 5000 by omega)]
      clear hfin hqs hts
      have k3 : ¬ (q : Int) < 5000 := by omega
      clear k2
      repeat' (first
    | ((with_reducible apply opsF.op rfl); (case hs => (first | exact tHT | exact tHS)))
    | with_reducible (first | apply opsF.nil | apply seqF.nn | apply vcF.seq | apply vcF.region | apply vcF.skip | apply vcF.block | apply vcF.exit | apply vcF.ret | apply vcF.loop | apply seqF.e | apply seqF.r | apply blkF.nn | apply blkF.e | apply blkF.r | apply blkF.o rfl)
    | ((with_reducible apply opsF.call); (case hx => exact tAG))
    | ((with_reducible apply opsF.want); (case hg => exact tEV); (case hb => exact tNB))
    | ((with_reducible apply opsF.skip); (case hg => exact tEV); (case hb => exact tNB))
    | (first | ((with_reducible apply opsF.case); (case hg => exact tEV)) | ((with_reducible apply vcF.cond); (case hx => exact tEV))) <;> ((intro hc; try simp only [Int.reduceLT, Int.reduceLE, Int.reduceEq, Int.reduceNe, Int.cast_ofNat_Int, Int.reduceNeg, decide_true, decide_false, not_true_eq_false, not_false_eq_true, decide_eq_true_eq, decide_eq_false_iff_not, Bool.not_eq_true', Bool.not_eq_false', Bool.not_true, Bool.not_false, Bool.false_eq_true, Bool.true_eq_false, Bool.not_eq_true, Bool.not_eq_false, beq_iff_eq, beq_eq_false_iff_ne, bne_iff_ne, bne_eq_false_iff_eq, ne_eq, Int.not_lt, Int.not_le, ge_iff_le, gt_iff_lt, Decidable.not_not, reduceCtorEq, *] at hc) <;> (try (exfalso; omega)))
    | ((with_reducible apply opsF.und); (case hg => rfl))
    | ((with_reducible apply retF.r); (case hv => exact tRS))
    | ((with_reducible apply retF.nn); (case hv => exact tRS)))
      refine LpF.ind rfl (fun i : Nat => i) (fun i σ hh => i = 0 ∧ Ext h hh ∧ hh.objs h.n = some (.cells [.v (.int .i64 n1), .v (.int .i64 n2), .v (.int .i64 n3), .v (.int .i64 n4), .v (.int .i64 n5), .v (.string (bs f)), .list 1 (srows rc) t1, .list 1 (irows mk) t2, .list 1 (srows bd) t3]) ∧ h.n < hh.n ∧ σ 1 = .ptr h.n 0 ∧ σ 3 = .v (.int .i64 (q : Int)) ∧ σ 5 = .v (.int .i64 0)) ?_ (i := 0)
        ⟨rfl, hE, hM, hn, g1, g3, rfl⟩
      clear hE hM hn g1 g3 g4
      rintro i σ hh ⟨_, hE, hM, hn, g1, g3, g5⟩
      rcases Nat.eq_zero_or_pos rc.length with k4 | k4
      · repeat' (first
    | ((with_reducible apply opsF.op rfl); (case hs => (first | exact tHT | exact tHS)))
    | with_reducible (first | apply opsF.nil | apply seqF.nn | apply vcF.seq | apply vcF.region | apply vcF.skip | apply vcF.block | apply vcF.exit | apply vcF.ret | apply vcF.loop | apply seqF.e | apply seqF.r | apply blkF.nn | apply blkF.e | apply blkF.r | apply blkF.o rfl)
    | ((with_reducible apply opsF.call); (case hx => exact tAG))
    | ((with_reducible apply opsF.want); (case hg => exact tEV); (case hb => exact tNB))
    | ((with_reducible apply opsF.skip); (case hg => exact tEV); (case hb => exact tNB))
    | (first | ((with_reducible apply opsF.case); (case hg => exact tEV)) | ((with_reducible apply vcF.cond); (case hx => exact tEV))) <;> ((intro hc; try simp only [Int.reduceLT, Int.reduceLE, Int.reduceEq, Int.reduceNe, Int.cast_ofNat_Int, Int.reduceNeg, decide_true, decide_false, not_true_eq_false, not_false_eq_true, decide_eq_true_eq, decide_eq_false_iff_not, Bool.not_eq_true', Bool.not_eq_false', Bool.not_true, Bool.not_false, Bool.false_eq_true, Bool.true_eq_false, Bool.not_eq_true, Bool.not_eq_false, beq_iff_eq, beq_eq_false_iff_ne, bne_iff_ne, bne_eq_false_iff_eq, ne_eq, Int.not_lt, Int.not_le, ge_iff_le, gt_iff_lt, Decidable.not_not, reduceCtorEq, *] at hc) <;> (try (exfalso; omega)))
    | ((with_reducible apply opsF.und); (case hg => rfl))
    | ((with_reducible apply retF.r); (case hv => exact tRS))
    | ((with_reducible apply retF.nn); (case hv => exact tRS)))
        all_goals first
          | exact ⟨rfl, hE⟩
          | exact ⟨by simp; omega, hE⟩
      · repeat' (first
    | ((with_reducible apply opsF.op rfl); (case hs => (first | exact tHT | exact tHS)))
    | with_reducible (first | apply opsF.nil | apply seqF.nn | apply vcF.seq | apply vcF.region | apply vcF.skip | apply vcF.block | apply vcF.exit | apply vcF.ret | apply vcF.loop | apply seqF.e | apply seqF.r | apply blkF.nn | apply blkF.e | apply blkF.r | apply blkF.o rfl)
    | ((with_reducible apply opsF.call); (case hx => exact tAG))
    | ((with_reducible apply opsF.want); (case hg => exact tEV); (case hb => exact tNB))
    | ((with_reducible apply opsF.skip); (case hg => exact tEV); (case hb => exact tNB))
    | (first | ((with_reducible apply opsF.case); (case hg => exact tEV)) | ((with_reducible apply vcF.cond); (case hx => exact tEV))) <;> ((intro hc; try simp only [Int.reduceLT, Int.reduceLE, Int.reduceEq, Int.reduceNe, Int.cast_ofNat_Int, Int.reduceNeg, decide_true, decide_false, not_true_eq_false, not_false_eq_true, decide_eq_true_eq, decide_eq_false_iff_not, Bool.not_eq_true', Bool.not_eq_false', Bool.not_true, Bool.not_false, Bool.false_eq_true, Bool.true_eq_false, Bool.not_eq_true, Bool.not_eq_false, beq_iff_eq, beq_eq_false_iff_ne, bne_iff_ne, bne_eq_false_iff_eq, ne_eq, Int.not_lt, Int.not_le, ge_iff_le, gt_iff_lt, Decidable.not_not, reduceCtorEq, *] at hc) <;> (try (exfalso; omega)))
    | ((with_reducible apply opsF.und); (case hg => rfl))
    | ((with_reducible apply retF.r); (case hv => exact tRS))
    | ((with_reducible apply retF.nn); (case hv => exact tRS)))
        all_goals first
          | exact ⟨rfl, hE⟩
          | exact ⟨by simp; omega, hE⟩
    · have hqe : q = B + sumL bd := by have := hfin 0 k1; omega
      subst hqe
      clear hfin hqs hts
      generalize B + sumL bd = q at *
      subst k1
      repeat' (first
    | ((with_reducible apply opsF.op rfl); (case hs => (first | exact tHT | exact tHS)))
    | with_reducible (first | apply opsF.nil | apply seqF.nn | apply vcF.seq | apply vcF.region | apply vcF.skip | apply vcF.block | apply vcF.exit | apply vcF.ret | apply vcF.loop | apply seqF.e | apply seqF.r | apply blkF.nn | apply blkF.e | apply blkF.r | apply blkF.o rfl)
    | ((with_reducible apply opsF.call); (case hx => exact tAG))
    | ((with_reducible apply opsF.want); (case hg => exact tEV); (case hb => exact tNB))
    | ((with_reducible apply opsF.skip); (case hg => exact tEV); (case hb => exact tNB))
    | (first | ((with_reducible apply opsF.case); (case hg => exact tEV)) | ((with_reducible apply vcF.cond); (case hx => exact tEV))) <;> ((intro hc; try simp only [Int.reduceLT, Int.reduceLE, Int.reduceEq, Int.reduceNe, Int.cast_ofNat_Int, Int.reduceNeg, decide_true, decide_false, not_true_eq_false, not_false_eq_true, decide_eq_true_eq, decide_eq_false_iff_not, Bool.not_eq_true', Bool.not_eq_false', Bool.not_true, Bool.not_false, Bool.false_eq_true, Bool.true_eq_false, Bool.not_eq_true, Bool.not_eq_false, beq_iff_eq, beq_eq_false_iff_ne, bne_iff_ne, bne_eq_false_iff_eq, ne_eq, Int.not_lt, Int.not_le, ge_iff_le, gt_iff_lt, Decidable.not_not, reduceCtorEq, *] at hc) <;> (try (exfalso; omega)))
    | ((with_reducible apply opsF.und); (case hg => rfl))
    | ((with_reducible apply retF.r); (case hv => exact tRS))
    | ((with_reducible apply retF.nn); (case hv => exact tRS)))
      refine LpF.ind rfl (fun i : Nat => rc.length - i) (fun i σ hh => Ext h hh ∧ hh.objs h.n = some (.cells [.v (.int .i64 n1), .v (.int .i64 n2), .v (.int .i64 n3), .v (.int .i64 n4), .v (.int .i64 n5), .v (.string (bs f)), .list 1 (srows rc) t1, .list 1 (irows mk) t2, .list 1 (srows bd) t3]) ∧ h.n < hh.n ∧ σ 1 = .ptr h.n 0 ∧ σ 3 = .v (.int .i64 ((q + sumL (rc.take i) : Nat) : Int)) ∧ σ 5 = .v (.int .i64 (i : Nat)) ∧ i ≤ rc.length) ?_ (i := 0)
        ⟨hE, hM, hn, g1, g3, rfl, Nat.zero_le _⟩
      clear hE hM hn g1 g3 g4
      rintro i σ hh ⟨hE, hM, hn, g1, g3, g5, hi2⟩
      have hts := sumL_le rc i
      by_cases hex : i = rc.length ∨ 5000 ≤ q + sumL (rc.take i)
      · have hgo : decide (q + sumL rc < 5000) = decide (q + sumL (rc.take i) < 5000) := by
          rcases hex with e | e
          · rw [e, List.take_length]
          · rw [decide_eq_false (by omega), decide_eq_false (by omega)]
        rw [hgo]
        clear hgo
        generalize hq : q + sumL (rc.take i) = r at *
        have key : (i < rc.length ∧ 5000 ≤ r) ∨ i = rc.length := by omega
        clear hex hq hts
        rcases key with ⟨k1, k2⟩ | k1
        · have k3 : ¬ (r : Int) < 5000 := by omega
          clear k2
          rw [decide_eq_false (show ¬ r < 5000 by omega)]
          repeat' (first
    | ((with_reducible apply opsF.op rfl); (case hs => (first | exact tHT | exact tHS)))
    | with_reducible (first | apply opsF.nil | apply seqF.nn | apply vcF.seq | apply vcF.region | apply vcF.skip | apply vcF.block | apply vcF.exit | apply vcF.ret | apply vcF.loop | apply seqF.e | apply seqF.r | apply blkF.nn | apply blkF.e | apply blkF.r | apply blkF.o rfl)
    | ((with_reducible apply opsF.call); (case hx => exact tAG))
    | ((with_reducible apply opsF.want); (case hg => exact tEV); (case hb => exact tNB))
    | ((with_reducible apply opsF.skip); (case hg => exact tEV); (case hb => exact tNB))
    | (first | ((with_reducible apply opsF.case); (case hg => exact tEV)) | ((with_reducible apply vcF.cond); (case hx => exact tEV))) <;> ((intro hc; try simp only [Int.reduceLT, Int.reduceLE, Int.reduceEq, Int.reduceNe, Int.cast_ofNat_Int, Int.reduceNeg, decide_true, decide_false, not_true_eq_false, not_false_eq_true, decide_eq_true_eq, decide_eq_false_iff_not, Bool.not_eq_true', Bool.not_eq_false', Bool.not_true, Bool.not_false, Bool.false_eq_true, Bool.true_eq_false, Bool.not_eq_true, Bool.not_eq_false, beq_iff_eq, beq_eq_false_iff_ne, bne_iff_ne, bne_eq_false_iff_eq, ne_eq, Int.not_lt, Int.not_le, ge_iff_le, gt_iff_lt, Decidable.not_not, reduceCtorEq, *] at hc) <;> (try (exfalso; omega)))
    | ((with_reducible apply opsF.und); (case hg => rfl))
    | ((with_reducible apply retF.r); (case hv => exact tRS))
    | ((with_reducible apply retF.nn); (case hv => exact tRS)))
          all_goals first
            | exact ⟨rfl, hE⟩
            | exact ⟨by simp; omega, hE⟩
        · subst k1
          rcases Nat.lt_or_ge r 5000 with k5 | k5
          · have k3 : (r : Int) < 5000 := by omega
            rw [decide_eq_true k5]
            clear k5
            repeat' (first
    | ((with_reducible apply opsF.op rfl); (case hs => (first | exact tHT | exact tHS)))
    | with_reducible (first | apply opsF.nil | apply seqF.nn | apply vcF.seq | apply vcF.region | apply vcF.skip | apply vcF.block | apply vcF.exit | apply vcF.ret | apply vcF.loop | apply seqF.e | apply seqF.r | apply blkF.nn | apply blkF.e | apply blkF.r | apply blkF.o rfl)
    | ((with_reducible apply opsF.call); (case hx => exact tAG))
    | ((with_reducible apply opsF.want); (case hg => exact tEV); (case hb => exact tNB))
    | ((with_reducible apply opsF.skip); (case hg => exact tEV); (case hb => exact tNB))
    | (first | ((with_reducible apply opsF.case); (case hg => exact tEV)) | ((with_reducible apply vcF.cond); (case hx => exact tEV))) <;> ((intro hc; try simp only [Int.reduceLT, Int.reduceLE, Int.reduceEq, Int.reduceNe, Int.cast_ofNat_Int, Int.reduceNeg, decide_true, decide_false, not_true_eq_false, not_false_eq_true, decide_eq_true_eq, decide_eq_false_iff_not, Bool.not_eq_true', Bool.not_eq_false', Bool.not_true, Bool.not_false, Bool.false_eq_true, Bool.true_eq_false, Bool.not_eq_true, Bool.not_eq_false, beq_iff_eq, beq_eq_false_iff_ne, bne_iff_ne, bne_eq_false_iff_eq, ne_eq, Int.not_lt, Int.not_le, ge_iff_le, gt_iff_lt, Decidable.not_not, reduceCtorEq, *] at hc) <;> (try (exfalso; omega)))
    | ((with_reducible apply opsF.und); (case hg => rfl))
    | ((with_reducible apply retF.r); (case hv => exact tRS))
    | ((with_reducible apply retF.nn); (case hv => exact tRS)))
            all_goals exact ⟨rfl, hE⟩
          · have k3 : ¬ (r : Int) < 5000 := by omega
            rw [decide_eq_false (show ¬ r < 5000 by omega)]
            clear k5
            repeat' (first
    | ((with_reducible apply opsF.op rfl); (case hs => (first | exact tHT | exact tHS)))
    | with_reducible (first | apply opsF.nil | apply seqF.nn | apply vcF.seq | apply vcF.region | apply vcF.skip | apply vcF.block | apply vcF.exit | apply vcF.ret | apply vcF.loop | apply seqF.e | apply seqF.r | apply blkF.nn | apply blkF.e | apply blkF.r | apply blkF.o rfl)
    | ((with_reducible apply opsF.call); (case hx => exact tAG))
    | ((with_reducible apply opsF.want); (case hg => exact tEV); (case hb => exact tNB))
    | ((with_reducible apply opsF.skip); (case hg => exact tEV); (case hb => exact tNB))
    | (first | ((with_reducible apply opsF.case); (case hg => exact tEV)) | ((with_reducible apply vcF.cond); (case hx => exact tEV))) <;> ((intro hc; try simp only [Int.reduceLT, Int.reduceLE, Int.reduceEq, Int.reduceNe, Int.cast_ofNat_Int, Int.reduceNeg, decide_true, decide_false, not_true_eq_false, not_false_eq_true, decide_eq_true_eq, decide_eq_false_iff_not, Bool.not_eq_true', Bool.not_eq_false', Bool.not_true, Bool.not_false, Bool.false_eq_true, Bool.true_eq_false, Bool.not_eq_true, Bool.not_eq_false, beq_iff_eq, beq_eq_false_iff_ne, bne_iff_ne, bne_eq_false_iff_eq, ne_eq, Int.not_lt, Int.not_le, ge_iff_le, gt_iff_lt, Decidable.not_not, reduceCtorEq, *] at hc) <;> (try (exfalso; omega)))
    | ((with_reducible apply opsF.und); (case hg => rfl))
    | ((with_reducible apply retF.r); (case hv => exact tRS))
    | ((with_reducible apply retF.nn); (case hv => exact tRS)))
            all_goals exact ⟨rfl, hE⟩
      · obtain ⟨x, hx⟩ : ∃ x, rc[i]? = some x := ⟨_, List.getElem?_eq_getElem (by omega)⟩
        have hxl := zrs x (List.mem_of_getElem? hx)
        have htk := sumL_take hx
        have k1 : i < rc.length := by omega
        have k2 : q + sumL (rc.take i) < 5000 := by omega
        clear hex
        generalize hq : q + sumL (rc.take i) = r at *
        have k3 : (r : Int) < (5000 : Int) := by omega
        clear k2
        repeat' (first
    | ((with_reducible apply opsF.op rfl); (case hs => (first | exact tHT | exact tHS)))
    | with_reducible (first | apply opsF.nil | apply seqF.nn | apply vcF.seq | apply vcF.region | apply vcF.skip | apply vcF.block | apply vcF.exit | apply vcF.ret | apply vcF.loop | apply seqF.e | apply seqF.r | apply blkF.nn | apply blkF.e | apply blkF.r | apply blkF.o rfl)
    | ((with_reducible apply opsF.call); (case hx => exact tAG))
    | ((with_reducible apply opsF.want); (case hg => exact tEV); (case hb => exact tNB))
    | ((with_reducible apply opsF.skip); (case hg => exact tEV); (case hb => exact tNB))
    | (first | ((with_reducible apply opsF.case); (case hg => exact tEV)) | ((with_reducible apply vcF.cond); (case hx => exact tEV))) <;> ((intro hc; try simp only [Int.reduceLT, Int.reduceLE, Int.reduceEq, Int.reduceNe, Int.cast_ofNat_Int, Int.reduceNeg, decide_true, decide_false, not_true_eq_false, not_false_eq_true, decide_eq_true_eq, decide_eq_false_iff_not, Bool.not_eq_true', Bool.not_eq_false', Bool.not_true, Bool.not_false, Bool.false_eq_true, Bool.true_eq_false, Bool.not_eq_true, Bool.not_eq_false, beq_iff_eq, beq_eq_false_iff_ne, bne_iff_ne, bne_eq_false_iff_eq, ne_eq, Int.not_lt, Int.not_le, ge_iff_le, gt_iff_lt, Decidable.not_not, reduceCtorEq, *] at hc) <;> (try (exfalso; omega)))
    | ((with_reducible apply opsF.und); (case hg => rfl))
    | ((with_reducible apply retF.r); (case hv => exact tRS))
    | ((with_reducible apply retF.nn); (case hv => exact tRS)))
        refine ⟨i + 1, by omega, hE, hM, hn, g1, ?_, rfl, by omega⟩
        conv => lhs; whnf
        rw [htk, ← Nat.add_assoc, hq]
        rfl
  · obtain ⟨x, hx⟩ : ∃ x, bd[i]? = some x := ⟨_, List.getElem?_eq_getElem (by omega)⟩
    have hxl := zbs x (List.mem_of_getElem? hx)
    have htk := sumL_take hx
    have k1 : i < bd.length := by omega
    have k2 : B + sumL (bd.take i) < 5000 := by omega
    clear hex
    generalize hq : B + sumL (bd.take i) = q at *
    have k3 : (q : Int) < (5000 : Int) := by omega
    clear k2
    repeat' (first
    | ((with_reducible apply opsF.op rfl); (case hs => (first | exact tHT | exact tHS)))
    | with_reducible (first | apply opsF.nil | apply seqF.nn | apply vcF.seq | apply vcF.region | apply vcF.skip | apply vcF.block | apply vcF.exit | apply vcF.ret | apply vcF.loop | apply seqF.e | apply seqF.r | apply blkF.nn | apply blkF.e | apply blkF.r | apply blkF.o rfl)
    | ((with_reducible apply opsF.call); (case hx => exact tAG))
    | ((with_reducible apply opsF.want); (case hg => exact tEV); (case hb => exact tNB))
    | ((with_reducible apply opsF.skip); (case hg => exact tEV); (case hb => exact tNB))
    | (first | ((with_reducible apply opsF.case); (case hg => exact tEV)) | ((with_reducible apply vcF.cond); (case hx => exact tEV))) <;> ((intro hc; try simp only [Int.reduceLT, Int.reduceLE, Int.reduceEq, Int.reduceNe, Int.cast_ofNat_Int, Int.reduceNeg, decide_true, decide_false, not_true_eq_false, not_false_eq_true, decide_eq_true_eq, decide_eq_false_iff_not, Bool.not_eq_true', Bool.not_eq_false', Bool.not_true, Bool.not_false, Bool.false_eq_true, Bool.true_eq_false, Bool.not_eq_true, Bool.not_eq_false, beq_iff_eq, beq_eq_false_iff_ne, bne_iff_ne, bne_eq_false_iff_eq, ne_eq, Int.not_lt, Int.not_le, ge_iff_le, gt_iff_lt, Decidable.not_not, reduceCtorEq, *] at hc) <;> (try (exfalso; omega)))
    | ((with_reducible apply opsF.und); (case hg => rfl))
    | ((with_reducible apply retF.r); (case hv => exact tRS))
    | ((with_reducible apply retF.nn); (case hv => exact tRS)))
    refine ⟨i + 1, by omega, hE, hM, hn, g1, ?_, rfl, by omega⟩
    conv => lhs; whnf
    rw [htk, ← Nat.add_assoc, hq]
    rfl
theorem small_call (m : Msg) (t1 t2 t3 : Tok) (h : AH) (hm : MLen m) : Call P w0 law11_small [.agg (msgC m t1 t2 t3)] h (fun v h' => v = .v (.bool (smallM m)) ∧ h' = h) := Call.pure (.v _) (small_raw m t1 t2 t3 h hm)
theorem encV_plain (m : Msg) : Plain (encV m) := by
  unfold encV
  split
  · refine Plain.tupv fun x hx => ?_
    simp only [List.mem_cons, List.not_mem_nil, or_false] at hx
    rcases hx with rfl | rfl
    · refine Plain.listv trivial fun r hr x hx => ?_
      simp only [brows, List.mem_map] at hr
      obtain ⟨b, _, rfl⟩ := hr
      rw [List.mem_singleton.1 hx]; exact .v _
    · exact .v _
  · refine Plain.tupv fun x hx => ?_
    simp only [List.mem_cons, List.not_mem_nil, or_false] at hx
    rcases hx with rfl | rfl
    · exact Plain.listv trivial fun r hr x hx => by cases hr
    · exact .v _
theorem encode_call (hP : PowTab w0) (m : Msg) (t1 t2 t3 : Tok) (h : AH) (hm : MOk m) : Call P w0 env_Encode [.agg (msgC m t1 t2 t3)] h (fun v h' => v = encV m ∧ h' = h) := Call.pure (encV_plain m) (encode_raw hP m t1 t2 t3 h hm)
def ansM : Msg := (1, 0, 0, 0, 0, [], [[97, 64, 98]], [], [])
theorem ansM_good : goodM ansM = true := by kernel_rfl
theorem ansM_small : smallM ansM = true := by kernel_rfl
theorem answers11_call (hP : PowTab w0) (hE : ErrVars w0) (h : AH) : Call P w0 law11_answers [] h (fun v h' => v = .v (.bool true) ∧ h' = h) := by
  refine Call.pure (.v _) ?_
  have hen := fun t1 t2 t3 h => encode_call (w0 := w0) hP ansM t1 t2 t3 h (small_ok ansM_small)
  have hde := fun tok h => decode_call (w0 := w0) hP hE (textM ansM) tok h (text_small ansM_small ansM_good)
  rw [encV, if_pos ansM_good] at hen
  rw [decM_text ansM_good] at hde
  have hmc : ∀ t1 t2 t3, msgC ansM t1 t2 t3 = [.v (.int .i64 1), .v (.int .i64 0), .v (.int .i64 0), .v (.int .i64 0), .v (.int .i64 0), .v (.string (bs [])), .list 1 [[.v (.string (bs [97, 64, 98]))]] t1, .list 1 [] t2, .list 1 [] t3] := fun _ _ _ => rfl
  have hE2 : ∀ o1 o2, Ext h ((h.alloc o1).set h.n o2) := fun o1 o2 => (Ext.alloc _ _).set (Nat.le_refl _) _
  unfold decV at hde
  simp only [hmc] at hen hde
  clear hmc
  generalize textM ansM = T at *
  refine Call.bodyF b_law11_answers rfl rfl ?_
  unfold c_law11_answers
  repeat' (first
    | ((with_reducible apply opsF.op rfl); (case hs => (first | exact tHT | exact tHS)))
    | with_reducible (first | apply opsF.nil | apply seqF.nn | apply vcF.seq | apply vcF.region | apply vcF.skip | apply vcF.ret | apply seqF.r)
    | ((with_reducible apply opsF.call); (case hx => exact tAG))
    | ((with_reducible apply opsF.want); (case hg => exact tEV); (case hb => exact tNB))
    | ((with_reducible apply opsF.skip); (case hg => exact tEV); (case hb => exact tNB))
    | (first | ((with_reducible apply opsF.case); (case hg => exact tEV)) | ((with_reducible apply vcF.cond); (case hx => exact tEV))) <;> ((intro hc; try simp only [Int.reduceLT, Int.reduceLE, Int.reduceEq, Int.reduceNe, Int.cast_ofNat_Int, Int.reduceNeg, decide_true, decide_false, not_true_eq_false, not_false_eq_true, decide_eq_true_eq, decide_eq_false_iff_not, Bool.not_eq_true', Bool.not_eq_false', Bool.not_true, Bool.not_false, Bool.false_eq_true, Bool.true_eq_false, Bool.not_eq_true, Bool.not_eq_false, beq_iff_eq, beq_eq_false_iff_ne, bne_iff_ne, bne_eq_false_iff_eq, ne_eq, Int.not_lt, Int.not_le, ge_iff_le, gt_iff_lt, Decidable.not_not, reduceCtorEq, *] at hc) <;> (try (exfalso; omega)))
    | ((with_reducible apply opsF.und); (case hg => rfl))
    | ((with_reducible apply retF.r); (case hv => exact tRS))
    | ((with_reducible apply retF.nn); (case hv => exact tRS))
    | ((refine Call.use (hen _ _ _ _) ?_))
    | ((refine Call.use (hde _ _) ?_)))
  all_goals exact ⟨rfl, hE2 _ _⟩
abbrev MsgT : Ty := .pair (.int .i64) (.pair (.int .i64) (.pair (.int .i64) (.pair (.int .i64) (.pair (.int .i64) (.pair .str (.pair (.slice .str) (.pair (.slice (.int .i64)) (.pair (.slice .str) .unit))))))))
def msgOf (x : MsgT.D) : Msg := ((x.1 : Int), (x.2.1 : Int), (x.2.2.1 : Int), (x.2.2.2.1 : Int), (x.2.2.2.2.1 : Int), (x.2.2.2.2.2.1 : List UInt8), (x.2.2.2.2.2.2.1 : List (List UInt8)), (x.2.2.2.2.2.2.2.1 : List Int), (x.2.2.2.2.2.2.2.2.1 : List (List UInt8)))
theorem msg_ty (x : MsgT.D) (hf : MsgT.fit 140737488351232 x) : ∃ m : Msg, MsgT.val x = .agg (msgC m .no .no .no) ∧ MLen m := by
  refine ⟨msgOf x, rfl, ⟨hf.2.2.2.2.2.1, hf.2.2.2.2.2.2.1.1, fun s hs => hf.2.2.2.2.2.2.1.2 s hs, hf.2.2.2.2.2.2.2.1.1, hf.2.2.2.2.2.2.2.2.1.1, fun s hs => hf.2.2.2.2.2.2.2.2.1.2 s hs⟩⟩
end Go.Abs.F
namespace Go.Abs.F
open Go Go.Abs
set_option maxRecDepth 10000
set_option maxHeartbeats 20000000
set_option linter.unusedSimpArgs false
set_option linter.unusedVariables false
variable {w0 : World}
theorem errVars_of {l : List (String × DataW Unit)} {W : World} (hL : laidMetH P l W) (h1 : l.filter (fun x => x.1 == "strconv.ErrSyntax") = [("strconv.ErrSyntax", Go.Proofs.YtnpdmkbfphcioaaGreatDoor.Rows.laid_strconv_ErrSyntax)]) (h2 : l.filter (fun x => x.1 == "strconv.ErrRange") = [("strconv.ErrRange", Go.Proofs.YtnpdmkbfphcioaaGreatDoor.Rows.laid_strconv_ErrRange)]) : ErrVars W :=
  ⟨errSyntax_of hL h1 rfl, errRange_of hL h2 rfl⟩
theorem mkS_ge (l : List Int) : l.length ≤ (mkS l).length := by
  induction l with
  | nil => exact Nat.le_refl _
  | cons x l ih =>
    have h := decS_ne x
    have h1 : 1 ≤ (decS x).length := by
      cases hq : decS x with
      | nil => exact absurd hq h
      | cons a l => simp
    simp only [mkS, List.length_append, List.length_cons]
    omega
theorem mok_text {m : Msg} (h : (textM m).length ≤ 1000000) : MOk m := by
  have a1 := rcS_sum m.2.2.2.2.2.2.1
  have a2 := bdS_sum m.2.2.2.2.2.2.2.2
  have a3 := mkS_ge m.2.2.2.2.2.2.2.1
  simp only [textM, numsT, restT, List.length_append, kv_len, List.length_cons] at h
  exact ⟨by omega, by omega, fun s hs => by have := sumL_mem hs; omega, by omega, by omega, fun s hs => by have := sumL_mem hs; omega⟩
end Go.Abs.F
