/- What the proof needs, part 24: Layer 12: Decode of what Encode wrote, for any message that may be; Layer 13: messages in either format; Layer 13: TurnKeeps: turned over and over a message is as it was; Layer 13: TurnBoth: a message in either format is it; turned it is in the other one, and turned back as it was. -/
import Derived.Test.YtnpdmkbfphcioaaGreatDoorQTurn21
import Derived.Test.YtnpdmkbfphcioaaGreatDoorQTurn23
/- Layer 12: Decode of what Encode wrote, for any message that may be. -/
namespace Go.Abs.F
open Go Go.Abs
set_option maxRecDepth 10000
set_option maxHeartbeats 20000000
set_option linter.unusedSimpArgs false
set_option linter.unusedVariables false
variable {w0 : World}
theorem mb_len {m : L8} (h : mbS m = true) : m.length ≤ 400 := by
  have h := of_decide_eq_true h
  obtain ⟨⟨a, b⟩, hs⟩ : ∃ x, splitO m = some x := by
    unfold canonO at h
    cases hq : splitO m with
    | none => rw [hq] at h; cases h
    | some x => exact ⟨x, rfl⟩
  obtain ⟨rfl, hl, hd, hn⟩ := splitO_some hs
  simp only [localS, Bool.and_eq_true, decide_eq_true_eq] at hl
  simp only [domainS, Bool.and_eq_true, decide_eq_true_eq] at hd
  simp only [List.length_append, List.length_cons]
  omega
theorem bsize_len (l : List L8) : 2 * l.length ≤ bsizeS l := by
  induction l with
  | nil => exact Nat.le_refl _
  | cons x l ih => simp only [bsizeS, List.length_cons]; omega
theorem marksN_of {l : List Int} (h : l.all markS = true) : marksB l = marksN (l.map Int.toNat) ∧ irows l = nrows (l.map Int.toNat) := by
  induction l with
  | nil => exact ⟨rfl, rfl⟩
  | cons x l ih =>
    rw [List.all_cons, Bool.and_eq_true] at h
    obtain ⟨h1, h2⟩ := ih h.2
    have hx := h.1
    simp only [markS, Bool.and_eq_true, decide_eq_true_eq] at hx
    obtain ⟨k, rfl⟩ : ∃ k : Nat, x = (k : Int) := ⟨x.toNat, by omega⟩
    have hk : k % 256 = k := by omega
    refine ⟨?_, ?_⟩
    · have : marksB ((k : Int) :: l) = numW 1 k ++ marksB l := by simp [marksB, numW, hk]
      rw [this, h1]; simp [marksN]
    · show [AV.v (.int .i64 (k : Int))] :: irows l = [AV.v (.int .i64 ((k : Int).toNat : Int))] :: nrows (l.map Int.toNat)
      rw [h2]; simp
theorem bdecode_call (m : Msg) (tok : Tok) (h : AH) (hm : MOk m) (hg : goodM m = true) : Call P w0 bin_Decode [.list 1 (brows (bytesM m)) tok] h (fun v h' => v = decV (some m) .no .no .no ∧ h' = h) := by
  refine Call.args ?_ (.cons (AV.le.noTok (tok := tok)) .nil)
  have htl := bytes_len hm hg
  have hG := fun t1 t2 t3 h => egood_call (w0 := w0) m t1 t2 t3 h hm
  rw [hg] at hG
  refine Call.pure (decV_plain _) (Call.weak (Q := fun v h' => ∃ t1 t2 t3, v = .tup [.agg (msgC m t1 t2 t3), .v (.int .i64 0)] ∧ Ext h h') ?_ fun v h' ⟨t1, t2, t3, hv, hE⟩ => ⟨_, h', hv ▸ decV_le (some m) t1 t2 t3, .refl _, rfl, hE⟩)
  obtain ⟨n1, n2, n3, n4, n5, f, rc, mk, bd⟩ := m
  simp only [goodM, numsS, bodyS, Bool.and_eq_true, decide_eq_true_eq] at hg
  obtain ⟨⟨⟨⟨⟨⟨⟨⟨⟨⟨⟨q1, q2⟩, q3⟩, q4⟩, q5⟩, zf⟩, z1⟩, z2⟩, z3⟩, z4⟩, rm⟩, zb⟩ := hg
  obtain ⟨a, rfl, ha⟩ := time_le q1
  obtain ⟨b, rfl, hb⟩ := time_le q2
  obtain ⟨c, rfl, hc⟩ := time_le q3
  obtain ⟨d, rfl, hd⟩ := time_le q4
  obtain ⟨e, rfl, he⟩ := time_le q5
  obtain ⟨hmb, hir⟩ := marksN_of rm
  have hfl : f.length < 65536 := by
    rcases Bool.or_eq_true _ _ ▸ zf with hz | hz
    · rw [List.isEmpty_iff.1 hz]; simp
    · have := mb_len hz; omega
  have hrx : ∀ t ∈ rc, t.length < 65536 := fun t ht => by have := mb_len (List.all_eq_true.1 z3 t ht); omega
  have hbx : ∀ t ∈ bd, t.length < 65536 := fun t ht => by
    have := List.all_eq_true.1 zb.1 t ht
    simp only [lineOkS, Bool.and_eq_true, decide_eq_true_eq] at this
    omega
  have hbl := bsize_len bd
  have hzb := zb.2
  unfold msgC at hG ⊢
  dsimp only at hG ⊢
  rw [hir] at hG ⊢
  have hb0 : bytesM ((a : Int), (b : Int), (c : Int), (d : Int), (e : Int), f, rc, mk, bd) = numW 1 2 ++ (numW 6 a ++ (numW 6 b ++ (numW 6 c ++ (numW 6 d ++ (numW 6 e ++ (textB f ++ ((numW 2 rc.length ++ textsB rc) ++ ((numW 2 (mk.map Int.toNat).length ++ marksN (mk.map Int.toNat)) ++ ((numW 4 bd.length ++ textsB bd) ++ []))))))))) := by
    simp [bytesM, numW, hmb]
  rw [hb0] at htl ⊢
  have hmx : ∀ t ∈ mk.map Int.toNat, t ≤ 2 := fun t ht => by
    obtain ⟨x, hx, rfl⟩ := List.mem_map.1 ht
    have := List.all_eq_true.1 rm x hx
    simp only [markS, Bool.and_eq_true, decide_eq_true_eq] at this
    omega
  have hml : (mk.map Int.toNat).length ≤ 50 := by rw [List.length_map]; exact z4
  generalize mk.map Int.toNat = mn at *
  refine (bdecode_raw a b c d e f rc mn bd _ _ _ _ _ _ _ _ _ h ⟨⟨rfl, ?_⟩, by omega⟩ ⟨⟨rfl, ?_⟩, by omega⟩ ⟨⟨rfl, ?_⟩, by omega⟩ ⟨⟨rfl, ?_⟩, by omega⟩ ⟨⟨rfl, ?_⟩, by omega⟩ ⟨⟨rfl, ?_⟩, by omega⟩ ⟨rfl, ?_⟩ ⟨rfl, ?_⟩ _ ⟨rfl, ?_⟩ ⟨rfl, ?_⟩ hfl z2 hrx hml hmx (by omega) hbx hG).mono fun v h' hp => ?_
  all_goals first
    | (obtain ⟨⟨t1, t2, t3, rfl⟩, hE⟩ := hp; exact ⟨t1, t2, t3, rfl, hE⟩)
    | (simp only [List.length_append, numW_len] at htl ⊢; omega)
end Go.Abs.F
/- Layer 13: messages in either format. -/
namespace Go.Abs.F
open Go Go.Abs
set_option maxRecDepth 10000
set_option maxHeartbeats 20000000
set_option linter.unusedSimpArgs false
set_option linter.unusedVariables false
variable {w0 : World}
theorem small13_raw (m : Msg) (t1 t2 t3 : Tok) (h : AH) (hm : MLen m) : Call P w0 law13_small [.agg (msgC m t1 t2 t3)] h (fun v h' => v = .v (.bool (smallM m)) ∧ Ext h h') := by
  obtain ⟨n1, n2, n3, n4, n5, f, rc, mk, bd⟩ := m
  obtain ⟨zf, zr, zrs, zm, zb, zbs⟩ := hm
  simp only at zf zr zrs zm zb zbs
  have xl := srows_len
  have xg := srows_get
  have yl := irows_len
  have e1 := srows_len rc
  have e2 := irows_len mk
  have e3 := srows_len bd
  obtain ⟨B, hB⟩ : ∃ B : Nat, B = f.length + rc.length + mk.length + bd.length := ⟨_, rfl⟩
  have hsm : smallM (n1, n2, n3, n4, n5, f, rc, mk, bd) = decide (B + sumL bd + sumL rc < 5000) := by rw [hB]; rfl
  rw [hsm]
  clear hsm
  have hBI : ((f.length : Int) + rc.length + mk.length + bd.length) = (B : Int) := by omega
  have hBN : B ≤ 562949953404928 := by omega
  clear hB
  refine Call.bodyF b_law13_small rfl rfl ?_
  unfold c_law13_small msgC
  dsimp only
  repeat' (first
| ((with_reducible apply opsF.op rfl); case hs => first | exact tHT | exact tHS)
| (with_reducible first | apply opsF.nil | apply seqF.nn | apply vcF.seq | apply vcF.region | apply vcF.skip | apply vcF.block | apply vcF.exit | apply vcF.ret | apply vcF.loop | apply seqF.e | apply seqF.r | apply blkF.nn | apply blkF.e | apply blkF.r | apply blkF.o rfl)
| ((with_reducible apply opsF.call); case hx => exact tAG)
| ((with_reducible apply opsF.want); (case hg => exact tEV); case hb => exact tNB)
| ((with_reducible apply opsF.skip); (case hg => exact tEV); case hb => exact tNB)
| (first | ((with_reducible apply opsF.case); case hg => exact tEV) | ((with_reducible apply vcF.cond); case hx => exact tEV)) <;> ((intro hc; try simp only [Int.reduceLT, Int.reduceLE, Int.reduceEq, Int.reduceNe, Int.cast_ofNat_Int, Int.reduceNeg, reduceCtorEq, ne_eq, ge_iff_le, gt_iff_lt, beq_iff_eq, beq_eq_false_iff_ne, bne_iff_ne, bne_eq_false_iff_eq, nrm, *] at hc) <;> try (exfalso; omega))
| ((with_reducible apply opsF.und); case hg => rfl)
| ((with_reducible first | apply retF.r | apply retF.nn); case hv => exact tRS))
  refine LpF.ind rfl (fun i : Nat => bd.length - i) (fun i σ hh => Ext h hh ∧ hh.objs h.n = some (.cells [.v (.int .i64 n1), .v (.int .i64 n2), .v (.int .i64 n3), .v (.int .i64 n4), .v (.int .i64 n5), .v (.string (bs f)), .list 1 (srows rc) t1, .list 1 (irows mk) t2, .list 1 (srows bd) t3]) ∧ h.n < hh.n ∧ σ 1 = .ptr h.n 0 ∧ σ 3 = .v (.int .i64 ((B + sumL (bd.take i) : Nat) : Int)) ∧ σ 4 = .v (.int .i64 (i : Nat)) ∧ i ≤ bd.length) ?_ (i := 0)
    ⟨Ext.alloc _ _, by simp [alloc_at], by simp [alloc_n], rfl, ?_, rfl, Nat.zero_le _⟩
  rotate_left
  · conv => lhs; whnf
    first | (simp [sumL]; done) | (simp [sumL]; omega)
  rintro i σ hh ⟨hE, hM, hn, g1, g3, g4, hi⟩
  have hts := sumL_le bd i
  by_cases hex : i = bd.length ∨ 5000 ≤ B + sumL (bd.take i)
  · have hfin : ∀ k, i = bd.length → B + sumL (bd.take i) + k = B + sumL bd + k := fun k e => by rw [e, List.take_length]
    generalize hq : B + sumL (bd.take i) = q at *
    have hqs : q ≤ B + sumL bd := by omega
    have key : (i < bd.length ∧ 5000 ≤ q) ∨ i = bd.length := by omega
    clear hex hq
    rcases key with ⟨k1, k2⟩ | k1
    · rw [decide_eq_false (show ¬ B + sumL bd + sumL rc < 5000 by omega)]
      clear hfin hqs hts
      have k3 : ¬ (q : Int) < 5000 := by omega
      clear k2
      repeat' (first
| ((with_reducible apply opsF.op rfl); case hs => first | exact tHT | exact tHS)
| (with_reducible first | apply opsF.nil | apply seqF.nn | apply vcF.seq | apply vcF.region | apply vcF.skip | apply vcF.block | apply vcF.exit | apply vcF.ret | apply vcF.loop | apply seqF.e | apply seqF.r | apply blkF.nn | apply blkF.e | apply blkF.r | apply blkF.o rfl)
| ((with_reducible apply opsF.call); case hx => exact tAG)
| ((with_reducible apply opsF.want); (case hg => exact tEV); case hb => exact tNB)
| ((with_reducible apply opsF.skip); (case hg => exact tEV); case hb => exact tNB)
| (first | ((with_reducible apply opsF.case); case hg => exact tEV) | ((with_reducible apply vcF.cond); case hx => exact tEV)) <;> ((intro hc; try simp only [Int.reduceLT, Int.reduceLE, Int.reduceEq, Int.reduceNe, Int.cast_ofNat_Int, Int.reduceNeg, reduceCtorEq, ne_eq, ge_iff_le, gt_iff_lt, beq_iff_eq, beq_eq_false_iff_ne, bne_iff_ne, bne_eq_false_iff_eq, nrm, *] at hc) <;> try (exfalso; omega))
| ((with_reducible apply opsF.und); case hg => rfl)
| ((with_reducible first | apply retF.r | apply retF.nn); case hv => exact tRS))
      refine LpF.ind rfl (fun i : Nat => i) (fun i σ hh => i = 0 ∧ Ext h hh ∧ hh.objs h.n = some (.cells [.v (.int .i64 n1), .v (.int .i64 n2), .v (.int .i64 n3), .v (.int .i64 n4), .v (.int .i64 n5), .v (.string (bs f)), .list 1 (srows rc) t1, .list 1 (irows mk) t2, .list 1 (srows bd) t3]) ∧ h.n < hh.n ∧ σ 1 = .ptr h.n 0 ∧ σ 3 = .v (.int .i64 (q : Int)) ∧ σ 5 = .v (.int .i64 0)) ?_ (i := 0)
        ⟨rfl, hE, hM, hn, g1, g3, rfl⟩
      clear hE hM hn g1 g3 g4
      rintro i σ hh ⟨_, hE, hM, hn, g1, g3, g5⟩
      rcases Nat.eq_zero_or_pos rc.length with k4 | k4
      · repeat' (first
| ((with_reducible apply opsF.op rfl); case hs => first | exact tHT | exact tHS)
| (with_reducible first | apply opsF.nil | apply seqF.nn | apply vcF.seq | apply vcF.region | apply vcF.skip | apply vcF.block | apply vcF.exit | apply vcF.ret | apply vcF.loop | apply seqF.e | apply seqF.r | apply blkF.nn | apply blkF.e | apply blkF.r | apply blkF.o rfl)
| ((with_reducible apply opsF.call); case hx => exact tAG)
| ((with_reducible apply opsF.want); (case hg => exact tEV); case hb => exact tNB)
| ((with_reducible apply opsF.skip); (case hg => exact tEV); case hb => exact tNB)
| (first | ((with_reducible apply opsF.case); case hg => exact tEV) | ((with_reducible apply vcF.cond); case hx => exact tEV)) <;> ((intro hc; try simp only [Int.reduceLT, Int.reduceLE, Int.reduceEq, Int.reduceNe, Int.cast_ofNat_Int, Int.reduceNeg, reduceCtorEq, ne_eq, ge_iff_le, gt_iff_lt, beq_iff_eq, beq_eq_false_iff_ne, bne_iff_ne, bne_eq_false_iff_eq, nrm, *] at hc) <;> try (exfalso; omega))
| ((with_reducible apply opsF.und); case hg => rfl)
| ((with_reducible first | apply retF.r | apply retF.nn); case hv => exact tRS))
        all_goals first
          | exact ⟨rfl, hE⟩
          | exact ⟨by simp; omega, hE⟩
      · repeat' (first
| ((with_reducible apply opsF.op rfl); case hs => first | exact tHT | exact tHS)
| (with_reducible first | apply opsF.nil | apply seqF.nn | apply vcF.seq | apply vcF.region | apply vcF.skip | apply vcF.block | apply vcF.exit | apply vcF.ret | apply vcF.loop | apply seqF.e | apply seqF.r | apply blkF.nn | apply blkF.e | apply blkF.r | apply blkF.o rfl)
| ((with_reducible apply opsF.call); case hx => exact tAG)
| ((with_reducible apply opsF.want); (case hg => exact tEV); case hb => exact tNB)
| ((with_reducible apply opsF.skip); (case hg => exact tEV); case hb => exact tNB)
| (first | ((with_reducible apply opsF.case); case hg => exact tEV) | ((with_reducible apply vcF.cond); case hx => exact tEV)) <;> ((intro hc; try simp only [Int.reduceLT, Int.reduceLE, Int.reduceEq, Int.reduceNe, Int.cast_ofNat_Int, Int.reduceNeg, reduceCtorEq, ne_eq, ge_iff_le, gt_iff_lt, beq_iff_eq, beq_eq_false_iff_ne, bne_iff_ne, bne_eq_false_iff_eq, nrm, *] at hc) <;> try (exfalso; omega))
| ((with_reducible apply opsF.und); case hg => rfl)
| ((with_reducible first | apply retF.r | apply retF.nn); case hv => exact tRS))
        all_goals first
          | exact ⟨rfl, hE⟩
          | exact ⟨by simp; omega, hE⟩
    · have hqe : q = B + sumL bd := by have := hfin 0 k1; omega
      subst hqe
      clear hfin hqs hts
      generalize B + sumL bd = q at *
      subst k1
      repeat' (first
| ((with_reducible apply opsF.op rfl); case hs => first | exact tHT | exact tHS)
| (with_reducible first | apply opsF.nil | apply seqF.nn | apply vcF.seq | apply vcF.region | apply vcF.skip | apply vcF.block | apply vcF.exit | apply vcF.ret | apply vcF.loop | apply seqF.e | apply seqF.r | apply blkF.nn | apply blkF.e | apply blkF.r | apply blkF.o rfl)
| ((with_reducible apply opsF.call); case hx => exact tAG)
| ((with_reducible apply opsF.want); (case hg => exact tEV); case hb => exact tNB)
| ((with_reducible apply opsF.skip); (case hg => exact tEV); case hb => exact tNB)
| (first | ((with_reducible apply opsF.case); case hg => exact tEV) | ((with_reducible apply vcF.cond); case hx => exact tEV)) <;> ((intro hc; try simp only [Int.reduceLT, Int.reduceLE, Int.reduceEq, Int.reduceNe, Int.cast_ofNat_Int, Int.reduceNeg, reduceCtorEq, ne_eq, ge_iff_le, gt_iff_lt, beq_iff_eq, beq_eq_false_iff_ne, bne_iff_ne, bne_eq_false_iff_eq, nrm, *] at hc) <;> try (exfalso; omega))
| ((with_reducible apply opsF.und); case hg => rfl)
| ((with_reducible first | apply retF.r | apply retF.nn); case hv => exact tRS))
      refine LpF.ind rfl (fun i : Nat => rc.length - i) (fun i σ hh => Ext h hh ∧ hh.objs h.n = some (.cells [.v (.int .i64 n1), .v (.int .i64 n2), .v (.int .i64 n3), .v (.int .i64 n4), .v (.int .i64 n5), .v (.string (bs f)), .list 1 (srows rc) t1, .list 1 (irows mk) t2, .list 1 (srows bd) t3]) ∧ h.n < hh.n ∧ σ 1 = .ptr h.n 0 ∧ σ 3 = .v (.int .i64 ((q + sumL (rc.take i) : Nat) : Int)) ∧ σ 5 = .v (.int .i64 (i : Nat)) ∧ i ≤ rc.length) ?_ (i := 0)
        ⟨hE, hM, hn, g1, g3, rfl, Nat.zero_le _⟩
      clear hE hM hn g1 g3 g4
      rintro i σ hh ⟨hE, hM, hn, g1, g3, g5, hi2⟩
      have hts := sumL_le rc i
      by_cases hex : i = rc.length ∨ 5000 ≤ q + sumL (rc.take i)
      · have hgo : decide (q + sumL rc < 5000) = decide (q + sumL (rc.take i) < 5000) := by
          rcases hex with e | e
          · rw [e, List.take_length]
          · rw [decide_eq_false (by omega), decide_eq_false (by omega)]
        rw [hgo]
        clear hgo
        generalize hq : q + sumL (rc.take i) = r at *
        have key : (i < rc.length ∧ 5000 ≤ r) ∨ i = rc.length := by omega
        clear hex hq hts
        rcases key with ⟨k1, k2⟩ | k1
        · have k3 : ¬ (r : Int) < 5000 := by omega
          clear k2
          rw [decide_eq_false (show ¬ r < 5000 by omega)]
          repeat' (first
| ((with_reducible apply opsF.op rfl); case hs => first | exact tHT | exact tHS)
| (with_reducible first | apply opsF.nil | apply seqF.nn | apply vcF.seq | apply vcF.region | apply vcF.skip | apply vcF.block | apply vcF.exit | apply vcF.ret | apply vcF.loop | apply seqF.e | apply seqF.r | apply blkF.nn | apply blkF.e | apply blkF.r | apply blkF.o rfl)
| ((with_reducible apply opsF.call); case hx => exact tAG)
| ((with_reducible apply opsF.want); (case hg => exact tEV); case hb => exact tNB)
| ((with_reducible apply opsF.skip); (case hg => exact tEV); case hb => exact tNB)
| (first | ((with_reducible apply opsF.case); case hg => exact tEV) | ((with_reducible apply vcF.cond); case hx => exact tEV)) <;> ((intro hc; try simp only [Int.reduceLT, Int.reduceLE, Int.reduceEq, Int.reduceNe, Int.cast_ofNat_Int, Int.reduceNeg, reduceCtorEq, ne_eq, ge_iff_le, gt_iff_lt, beq_iff_eq, beq_eq_false_iff_ne, bne_iff_ne, bne_eq_false_iff_eq, nrm, *] at hc) <;> try (exfalso; omega))
| ((with_reducible apply opsF.und); case hg => rfl)
| ((with_reducible first | apply retF.r | apply retF.nn); case hv => exact tRS))
          all_goals first
            | exact ⟨rfl, hE⟩
            | exact ⟨by simp; omega, hE⟩
        · subst k1
          rcases Nat.lt_or_ge r 5000 with k5 | k5
          · have k3 : (r : Int) < 5000 := by omega
            rw [decide_eq_true k5]
            clear k5
            repeat' (first
| ((with_reducible apply opsF.op rfl); case hs => first | exact tHT | exact tHS)
| (with_reducible first | apply opsF.nil | apply seqF.nn | apply vcF.seq | apply vcF.region | apply vcF.skip | apply vcF.block | apply vcF.exit | apply vcF.ret | apply vcF.loop | apply seqF.e | apply seqF.r | apply blkF.nn | apply blkF.e | apply blkF.r | apply blkF.o rfl)
| ((with_reducible apply opsF.call); case hx => exact tAG)
| ((with_reducible apply opsF.want); (case hg => exact tEV); case hb => exact tNB)
| ((with_reducible apply opsF.skip); (case hg => exact tEV); case hb => exact tNB)
| (first | ((with_reducible apply opsF.case); case hg => exact tEV) | ((with_reducible apply vcF.cond); case hx => exact tEV)) <;> ((intro hc; try simp only [Int.reduceLT, Int.reduceLE, Int.reduceEq, Int.reduceNe, Int.cast_ofNat_Int, Int.reduceNeg, reduceCtorEq, ne_eq, ge_iff_le, gt_iff_lt, beq_iff_eq, beq_eq_false_iff_ne, bne_iff_ne, bne_eq_false_iff_eq, nrm, *] at hc) <;> try (exfalso; omega))
| ((with_reducible apply opsF.und); case hg => rfl)
| ((with_reducible first | apply retF.r | apply retF.nn); case hv => exact tRS))
            all_goals exact ⟨rfl, hE⟩
          · have k3 : ¬ (r : Int) < 5000 := by omega
            rw [decide_eq_false (show ¬ r < 5000 by omega)]
            clear k5
            repeat' (first
| ((with_reducible apply opsF.op rfl); case hs => first | exact tHT | exact tHS)
| (with_reducible first | apply opsF.nil | apply seqF.nn | apply vcF.seq | apply vcF.region | apply vcF.skip | apply vcF.block | apply vcF.exit | apply vcF.ret | apply vcF.loop | apply seqF.e | apply seqF.r | apply blkF.nn | apply blkF.e | apply blkF.r | apply blkF.o rfl)
| ((with_reducible apply opsF.call); case hx => exact tAG)
| ((with_reducible apply opsF.want); (case hg => exact tEV); case hb => exact tNB)
| ((with_reducible apply opsF.skip); (case hg => exact tEV); case hb => exact tNB)
| (first | ((with_reducible apply opsF.case); case hg => exact tEV) | ((with_reducible apply vcF.cond); case hx => exact tEV)) <;> ((intro hc; try simp only [Int.reduceLT, Int.reduceLE, Int.reduceEq, Int.reduceNe, Int.cast_ofNat_Int, Int.reduceNeg, reduceCtorEq, ne_eq, ge_iff_le, gt_iff_lt, beq_iff_eq, beq_eq_false_iff_ne, bne_iff_ne, bne_eq_false_iff_eq, nrm, *] at hc) <;> try (exfalso; omega))
| ((with_reducible apply opsF.und); case hg => rfl)
| ((with_reducible first | apply retF.r | apply retF.nn); case hv => exact tRS))
            all_goals exact ⟨rfl, hE⟩
      · obtain ⟨x, hx⟩ : ∃ x, rc[i]? = some x := ⟨_, List.getElem?_eq_getElem (by omega)⟩
        have hxl := zrs x (List.mem_of_getElem? hx)
        have htk := sumL_take hx
        have k1 : i < rc.length := by omega
        have k2 : q + sumL (rc.take i) < 5000 := by omega
        clear hex
        generalize hq : q + sumL (rc.take i) = r at *
        have k3 : (r : Int) < (5000 : Int) := by omega
        clear k2
        repeat' (first
| ((with_reducible apply opsF.op rfl); case hs => first | exact tHT | exact tHS)
| (with_reducible first | apply opsF.nil | apply seqF.nn | apply vcF.seq | apply vcF.region | apply vcF.skip | apply vcF.block | apply vcF.exit | apply vcF.ret | apply vcF.loop | apply seqF.e | apply seqF.r | apply blkF.nn | apply blkF.e | apply blkF.r | apply blkF.o rfl)
| ((with_reducible apply opsF.call); case hx => exact tAG)
| ((with_reducible apply opsF.want); (case hg => exact tEV); case hb => exact tNB)
| ((with_reducible apply opsF.skip); (case hg => exact tEV); case hb => exact tNB)
| (first | ((with_reducible apply opsF.case); case hg => exact tEV) | ((with_reducible apply vcF.cond); case hx => exact tEV)) <;> ((intro hc; try simp only [Int.reduceLT, Int.reduceLE, Int.reduceEq, Int.reduceNe, Int.cast_ofNat_Int, Int.reduceNeg, reduceCtorEq, ne_eq, ge_iff_le, gt_iff_lt, beq_iff_eq, beq_eq_false_iff_ne, bne_iff_ne, bne_eq_false_iff_eq, nrm, *] at hc) <;> try (exfalso; omega))
| ((with_reducible apply opsF.und); case hg => rfl)
| ((with_reducible first | apply retF.r | apply retF.nn); case hv => exact tRS))
        refine ⟨i + 1, by omega, hE, hM, hn, g1, ?_, rfl, by omega⟩
        conv => lhs; whnf
        rw [htk, ← Nat.add_assoc, hq]
        rfl
  · obtain ⟨x, hx⟩ : ∃ x, bd[i]? = some x := ⟨_, List.getElem?_eq_getElem (by omega)⟩
    have hxl := zbs x (List.mem_of_getElem? hx)
    have htk := sumL_take hx
    have k1 : i < bd.length := by omega
    have k2 : B + sumL (bd.take i) < 5000 := by omega
    clear hex
    generalize hq : B + sumL (bd.take i) = q at *
    have k3 : (q : Int) < (5000 : Int) := by omega
    clear k2
    repeat' (first
| ((with_reducible apply opsF.op rfl); case hs => first | exact tHT | exact tHS)
| (with_reducible first | apply opsF.nil | apply seqF.nn | apply vcF.seq | apply vcF.region | apply vcF.skip | apply vcF.block | apply vcF.exit | apply vcF.ret | apply vcF.loop | apply seqF.e | apply seqF.r | apply blkF.nn | apply blkF.e | apply blkF.r | apply blkF.o rfl)
| ((with_reducible apply opsF.call); case hx => exact tAG)
| ((with_reducible apply opsF.want); (case hg => exact tEV); case hb => exact tNB)
| ((with_reducible apply opsF.skip); (case hg => exact tEV); case hb => exact tNB)
| (first | ((with_reducible apply opsF.case); case hg => exact tEV) | ((with_reducible apply vcF.cond); case hx => exact tEV)) <;> ((intro hc; try simp only [Int.reduceLT, Int.reduceLE, Int.reduceEq, Int.reduceNe, Int.cast_ofNat_Int, Int.reduceNeg, reduceCtorEq, ne_eq, ge_iff_le, gt_iff_lt, beq_iff_eq, beq_eq_false_iff_ne, bne_iff_ne, bne_eq_false_iff_eq, nrm, *] at hc) <;> try (exfalso; omega))
| ((with_reducible apply opsF.und); case hg => rfl)
| ((with_reducible first | apply retF.r | apply retF.nn); case hv => exact tRS))
    refine ⟨i + 1, by omega, hE, hM, hn, g1, ?_, rfl, by omega⟩
    conv => lhs; whnf
    rw [htk, ← Nat.add_assoc, hq]
    rfl
theorem small13_call (m : Msg) (t1 t2 t3 : Tok) (h : AH) (hm : MLen m) : Call P w0 law13_small [.agg (msgC m t1 t2 t3)] h (fun v h' => v = .v (.bool (smallM m)) ∧ h' = h) := Call.pure (.v _) (small13_raw m t1 t2 t3 h hm)
theorem bytes_call (a b : L8) (ta tb : Tok) (h : AH) (hl : a.length ≤ 140737488351232) : Call P w0 ref08_Same [.list 1 (brows a) ta, .list 1 (brows b) tb] h (fun v h' => v = .v (.bool (decide (a = b))) ∧ h' = h) := by
  have xl := brows_len
  have xg := brows_get
  refine Call.bodyF b_ref08_Same rfl rfl ?_
  unfold c_ref08_Same
  repeat' (first
| ((with_reducible apply opsF.op rfl); case hs => first | exact tHT | exact tHS)
| (with_reducible first | apply opsF.nil | apply seqF.nn | apply vcF.seq | apply vcF.region | apply vcF.skip | apply vcF.block | apply vcF.exit | apply vcF.ret | apply vcF.loop | apply seqF.e | apply seqF.r | apply blkF.nn | apply blkF.e | apply blkF.r | apply blkF.o rfl)
| ((with_reducible apply opsF.call); case hx => exact tAG)
| ((with_reducible apply vcF.cond); case hx => exact tEV) <;> ((intro hc; try simp only [Int.reduceLT, Int.reduceLE, Int.reduceEq, Int.reduceNe, Int.cast_ofNat_Int, Int.reduceNeg, reduceCtorEq, ne_eq, ge_iff_le, gt_iff_lt, beq_iff_eq, beq_eq_false_iff_ne, bne_iff_ne, bne_eq_false_iff_eq, nrm, *] at hc) <;> try (exfalso; omega))
| ((with_reducible first | apply retF.r | apply retF.nn); case hv => exact tRS))
  · have : a ≠ b := by rintro rfl; simp at *
    simp [this]
  · refine LpF.ind rfl (fun i : Nat => a.length - i) (fun i σ h' => h' = h ∧ σ 0 = .list 1 (brows a) ta ∧ σ 1 = .list 1 (brows b) tb ∧ σ 5 = .v (.int .i64 (i : Nat)) ∧ i ≤ a.length ∧ a.take i = b.take i) ?_ (i := 0) ⟨rfl, rfl, rfl, rfl, Nat.zero_le _, rfl⟩
    rintro i σ h' ⟨rfl, h0, h1, h5, hi, he⟩
    have hlen : a.length = b.length := by omega
    rcases Nat.lt_or_ge i a.length with hlt | hge
    · have ha : a[i]? = some a[i] := List.getElem?_eq_getElem hlt
      have hb : b[i]? = some (b[i]'(by omega)) := List.getElem?_eq_getElem (by omega)
      repeat' (first
| ((with_reducible apply opsF.op rfl); case hs => first | exact tHT | exact tHS)
| (with_reducible first | apply opsF.nil | apply seqF.nn | apply vcF.seq | apply vcF.region | apply vcF.skip | apply vcF.block | apply vcF.exit | apply vcF.ret | apply vcF.loop | apply seqF.e | apply seqF.r | apply blkF.nn | apply blkF.e | apply blkF.r | apply blkF.o rfl)
| ((with_reducible apply opsF.call); case hx => exact tAG)
| ((with_reducible apply vcF.cond); case hx => exact tEV) <;> ((intro hc; try simp only [Int.reduceLT, Int.reduceLE, Int.reduceEq, Int.reduceNe, Int.cast_ofNat_Int, Int.reduceNeg, reduceCtorEq, ne_eq, ge_iff_le, gt_iff_lt, beq_iff_eq, beq_eq_false_iff_ne, bne_iff_ne, bne_eq_false_iff_eq, nrm, *] at hc) <;> try (exfalso; omega))
| ((with_reducible first | apply retF.r | apply retF.nn); case hv => exact tRS))
      · have : a ≠ b := by rintro rfl; simp at *
        simp [this]
      · refine ⟨i + 1, by omega, rfl, by assumption, by assumption, ?_, by omega, ?_⟩
        · exact rfl
        · rw [List.take_add_one, List.take_add_one, he, ha, hb, UInt8.toNat_inj.1 (show a[i].toNat = b[i].toNat by omega)]
    · have : i = a.length := by omega
      subst this
      repeat' (first
| ((with_reducible apply opsF.op rfl); case hs => first | exact tHT | exact tHS)
| (with_reducible first | apply opsF.nil | apply seqF.nn | apply vcF.seq | apply vcF.region | apply vcF.skip | apply vcF.block | apply vcF.exit | apply vcF.ret | apply vcF.loop | apply seqF.e | apply seqF.r | apply blkF.nn | apply blkF.e | apply blkF.r | apply blkF.o rfl)
| ((with_reducible apply opsF.call); case hx => exact tAG)
| ((with_reducible apply vcF.cond); case hx => exact tEV) <;> ((intro hc; try simp only [Int.reduceLT, Int.reduceLE, Int.reduceEq, Int.reduceNe, Int.cast_ofNat_Int, Int.reduceNeg, reduceCtorEq, ne_eq, ge_iff_le, gt_iff_lt, beq_iff_eq, beq_eq_false_iff_ne, bne_iff_ne, bne_eq_false_iff_eq, nrm, *] at hc) <;> try (exfalso; omega))
| ((with_reducible first | apply retF.r | apply retF.nn); case hv => exact tRS))
      have : a = b := by
        rw [List.take_length, hlen, List.take_length] at he
        exact he
      simp [this]

def fmtM (t : Bool) (m : Msg) : L8 := if t then textM m else bytesM m
def fmtI (t : Bool) : Int := if t then 1 else 2
theorem text_head (m : Msg) : ∃ r, textM m = 105 :: r := ⟨_, rfl⟩
theorem bytes_head (m : Msg) : ∃ r, bytesM m = 2 :: r := ⟨_, rfl⟩
theorem sniffT_call (l : L8) (tok : Tok) (h : AH) (hl : l.length ≤ 1000000000) : Call P w0 turn_Sniff [.list 1 (brows (105 :: l)) tok] h (fun v h' => v = .v (.int .i64 1) ∧ h' = h) := by
  have bl := brows_len
  have bg := brows_get
  have e1 : (brows (105 :: l))[0]? = some [.v (.int .u8 105)] := rfl
  have e2 : (brows (105 :: l)).length = l.length + 1 := by rw [brows_len]; rfl
  generalize brows (105 :: l) = B at *
  refine Call.bodyF b_turn_Sniff rfl rfl ?_
  unfold c_turn_Sniff
  repeat' (first
| ((with_reducible apply opsF.op rfl); case hs => first | exact tHT | exact tHS)
| (with_reducible first | apply opsF.nil | apply seqF.nn | apply vcF.seq | apply vcF.region | apply vcF.skip | apply vcF.block | apply vcF.exit | apply vcF.ret | apply vcF.loop | apply seqF.e | apply seqF.r | apply blkF.nn | apply blkF.e | apply blkF.r | apply blkF.o rfl)
| ((with_reducible apply opsF.call); case hx => exact tAG)
| ((with_reducible apply vcF.cond); case hx => exact tEV) <;> ((intro hc; try simp only [Int.reduceLT, Int.reduceLE, Int.reduceEq, Int.reduceNe, Int.cast_ofNat_Int, Int.reduceNeg, reduceCtorEq, ne_eq, ge_iff_le, gt_iff_lt, beq_iff_eq, beq_eq_false_iff_ne, bne_iff_ne, bne_eq_false_iff_eq, nrm, *] at hc) <;> try (exfalso; omega))
| ((with_reducible first | apply retF.r | apply retF.nn); case hv => exact tRS))
  all_goals first | exact ⟨rfl, rfl⟩ | trace_state
theorem sniffB_call (l : L8) (tok : Tok) (h : AH) (hl : l.length ≤ 1000000000) : Call P w0 turn_Sniff [.list 1 (brows (2 :: l)) tok] h (fun v h' => v = .v (.int .i64 2) ∧ h' = h) := by
  have e1 : (brows (2 :: l))[0]? = some [.v (.int .u8 2)] := rfl
  have e2 : (brows (2 :: l)).length = l.length + 1 := by rw [brows_len]; rfl
  generalize brows (2 :: l) = B at *
  refine Call.bodyF b_turn_Sniff rfl rfl ?_
  unfold c_turn_Sniff
  repeat' (first
| ((with_reducible apply opsF.op rfl); case hs => first | exact tHT | exact tHS)
| (with_reducible first | apply opsF.nil | apply seqF.nn | apply vcF.seq | apply vcF.region | apply vcF.skip | apply vcF.block | apply vcF.exit | apply vcF.ret | apply vcF.loop | apply seqF.e | apply seqF.r | apply blkF.nn | apply blkF.e | apply blkF.r | apply blkF.o rfl)
| ((with_reducible apply opsF.call); case hx => exact tAG)
| ((with_reducible apply vcF.cond); case hx => exact tEV) <;> ((intro hc; try simp only [Int.reduceLT, Int.reduceLE, Int.reduceEq, Int.reduceNe, Int.cast_ofNat_Int, Int.reduceNeg, reduceCtorEq, ne_eq, ge_iff_le, gt_iff_lt, beq_iff_eq, beq_eq_false_iff_ne, bne_iff_ne, bne_eq_false_iff_eq, nrm, *] at hc) <;> try (exfalso; omega))
| ((with_reducible first | apply retF.r | apply retF.nn); case hv => exact tRS))
  all_goals first | exact ⟨rfl, rfl⟩ | trace_state
theorem sniff_call (t : Bool) (m : Msg) (tok : Tok) (h : AH) (hl : (fmtM t m).length ≤ 1000000000) : Call P w0 turn_Sniff [.list 1 (brows (fmtM t m)) tok] h (fun v h' => v = .v (.int .i64 (fmtI t)) ∧ h' = h) := by
  cases t with
  | true =>
    obtain ⟨r, hr⟩ := text_head m
    have e : fmtM true m = 105 :: r := hr
    rw [e] at hl ⊢
    exact sniffT_call r tok h (by simp at hl; omega)
  | false =>
    obtain ⟨r, hr⟩ := bytes_head m
    have e : fmtM false m = 2 :: r := hr
    rw [e] at hl ⊢
    exact sniffB_call r tok h (by simp at hl; omega)
theorem tdecode_call (hP : PowTab w0) (hE : ErrVars w0) (t : Bool) (m : Msg) (tok : Tok) (h : AH) (hs : smallM m = true) (hg : goodM m = true) : Call P w0 turn_Decode [.list 1 (brows (fmtM t m)) tok] h (fun v h' => v = decV (some m) .no .no .no ∧ h' = h) := by
  have hm := small_ok hs
  have htl := text_small hs hg
  have hbl := bytes_len hm hg
  have hSn := fun tok h => sniff_call (w0 := w0) t m tok h (by cases t <;> simp only [fmtM, if_true, if_false, Bool.false_eq_true] <;> omega)
  cases t with
  | true =>
    have hD := fun tok h => decode_call (w0 := w0) hP hE (textM m) tok h htl
    rw [decM_text hg] at hD
    simp only [fmtM, fmtI, if_true] at hSn ⊢
    generalize textM m = B at *
    unfold decV msgC at hD ⊢
    refine Call.pure (by have := decV_plain (some m); unfold decV msgC at this; exact this) ?_
    refine Call.bodyF b_turn_Decode rfl rfl ?_
    unfold c_turn_Decode
    repeat' (first
| ((with_reducible apply opsF.op rfl); case hs => first | exact tHT | exact tHS)
| (with_reducible first | apply opsF.nil | apply seqF.nn | apply vcF.seq | apply vcF.region | apply vcF.skip | apply vcF.block | apply vcF.exit | apply vcF.ret | apply vcF.loop | apply seqF.e | apply seqF.r | apply blkF.nn | apply blkF.e | apply blkF.r | apply blkF.o rfl)
| ((with_reducible apply opsF.call); case hx => exact tAG)
| ((with_reducible apply vcF.cond); case hx => exact tEV) <;> ((intro hc; try simp only [Int.reduceLT, Int.reduceLE, Int.reduceEq, Int.reduceNe, Int.cast_ofNat_Int, Int.reduceNeg, reduceCtorEq, ne_eq, ge_iff_le, gt_iff_lt, beq_iff_eq, beq_eq_false_iff_ne, bne_iff_ne, bne_eq_false_iff_eq, nrm, *] at hc) <;> try (exfalso; omega))
| ((with_reducible first | apply retF.r | apply retF.nn); case hv => exact tRS)
| ((refine Call.use (hSn _ _) ?_))
| ((refine Call.use (hD _ _) ?_)))
    all_goals exact ⟨rfl, (by repeat' (first | exact Ext.refl _ | (refine Ext.set ?_ (by first | exact Nat.le_refl _ | (simp only [alloc_n, set_n]; omega)) _) | (refine Ext.trans ?_ (Ext.alloc _ _))))⟩
  | false =>
    have hD := fun tok h => bdecode_call (w0 := w0) m tok h hm hg
    simp only [fmtM, fmtI, if_false, Bool.false_eq_true] at hSn ⊢
    generalize bytesM m = B at *
    refine Call.pure (by have := decV_plain (some m); unfold decV msgC at this; exact this) ?_
    refine Call.bodyF b_turn_Decode rfl rfl ?_
    unfold c_turn_Decode
    unfold decV msgC at hD ⊢
    repeat' (first
| ((with_reducible apply opsF.op rfl); case hs => first | exact tHT | exact tHS)
| (with_reducible first | apply opsF.nil | apply seqF.nn | apply vcF.seq | apply vcF.region | apply vcF.skip | apply vcF.block | apply vcF.exit | apply vcF.ret | apply vcF.loop | apply seqF.e | apply seqF.r | apply blkF.nn | apply blkF.e | apply blkF.r | apply blkF.o rfl)
| ((with_reducible apply opsF.call); case hx => exact tAG)
| ((with_reducible apply vcF.cond); case hx => exact tEV) <;> ((intro hc; try simp only [Int.reduceLT, Int.reduceLE, Int.reduceEq, Int.reduceNe, Int.cast_ofNat_Int, Int.reduceNeg, reduceCtorEq, ne_eq, ge_iff_le, gt_iff_lt, beq_iff_eq, beq_eq_false_iff_ne, bne_iff_ne, bne_eq_false_iff_eq, nrm, *] at hc) <;> try (exfalso; omega))
| ((with_reducible first | apply retF.r | apply retF.nn); case hv => exact tRS)
| ((refine Call.use (hSn _ _) ?_))
| ((refine Call.use (hD _ _) ?_)))
    all_goals exact ⟨rfl, (by repeat' (first | exact Ext.refl _ | (refine Ext.set ?_ (by first | exact Nat.le_refl _ | (simp only [alloc_n, set_n]; omega)) _) | (refine Ext.trans ?_ (Ext.alloc _ _))))⟩
def bytV (t : Bool) (m : Msg) : AV := .tup [.list 1 (brows (fmtM t m)) .no, .v (.int .i64 0)]
theorem bytV_plain (t : Bool) (m : Msg) : Plain (bytV t m) := by
  refine Plain.tupv fun x hx => ?_
  simp only [List.mem_cons, List.not_mem_nil, or_false] at hx
  rcases hx with rfl | rfl
  · exact brows_plain _ trivial
  · exact .v _
theorem errV_plain (n : Int) : Plain (.tup [.list 1 [] .full, .v (.int .i64 n)]) := by
  refine Plain.tupv fun x hx => ?_
  simp only [List.mem_cons, List.not_mem_nil, or_false] at hx
  rcases hx with rfl | rfl
  · exact Plain.listv trivial fun r hr x hx => by cases hr
  · exact .v _
theorem tencode_bad (m : Msg) (t1 t2 t3 : Tok) (n : Int) (h : AH) (h1 : ¬ n = 1) (h2 : ¬ n = 2) : Call P w0 turn_Encode [.agg (msgC m t1 t2 t3), .v (.int .i64 n)] h (fun v h' => v = .tup [.list 1 [] .full, .v (.int .i64 1)] ∧ h' = h) := by
  refine Call.pure (errV_plain _) ?_
  refine Call.bodyF b_turn_Encode rfl rfl ?_
  unfold c_turn_Encode msgC
  repeat' (first
| ((with_reducible apply opsF.op rfl); case hs => first | exact tHT | exact tHS)
| (with_reducible first | apply opsF.nil | apply seqF.nn | apply vcF.seq | apply vcF.region | apply vcF.skip | apply vcF.block | apply vcF.exit | apply vcF.ret | apply vcF.loop | apply seqF.e | apply seqF.r | apply blkF.nn | apply blkF.e | apply blkF.r | apply blkF.o rfl)
| ((with_reducible apply opsF.call); case hx => exact tAG)
| ((with_reducible apply vcF.cond); case hx => exact tEV) <;> ((intro hc; try simp only [Int.reduceLT, Int.reduceLE, Int.reduceEq, Int.reduceNe, Int.cast_ofNat_Int, Int.reduceNeg, reduceCtorEq, ne_eq, ge_iff_le, gt_iff_lt, beq_iff_eq, beq_eq_false_iff_ne, bne_iff_ne, bne_eq_false_iff_eq, nrm, *] at hc) <;> try (exfalso; omega))
| ((with_reducible first | apply retF.r | apply retF.nn); case hv => exact tRS))
  all_goals exact ⟨rfl, (by repeat' (first | exact Ext.refl _ | (refine Ext.set ?_ (by first | exact Nat.le_refl _ | (simp only [alloc_n, set_n]; omega)) _) | (refine Ext.trans ?_ (Ext.alloc _ _))))⟩
theorem tencode_form (hP : PowTab w0) (t : Bool) (m : Msg) (t1 t2 t3 : Tok) (h : AH) (hm : MOk m) (hg : goodM m = false) : Call P w0 turn_Encode [.agg (msgC m t1 t2 t3), .v (.int .i64 (fmtI t))] h (fun v h' => v = .tup [.list 1 [] .full, .v (.int .i64 2)] ∧ h' = h) := by
  have hA := fun h => encode_call (w0 := w0) hP m t1 t2 t3 h hm
  have hB := fun h => bencode_call (w0 := w0) m t1 t2 t3 h hm
  rw [encV, hg, if_neg (by simp)] at hA
  rw [binV, hg, if_neg (by simp)] at hB
  refine Call.pure (errV_plain _) ?_
  refine Call.bodyF b_turn_Encode rfl rfl ?_
  unfold c_turn_Encode
  unfold msgC at hA hB ⊢
  cases t with
  | true =>
    rw [show fmtI true = 1 from rfl]
    repeat' (first
| ((with_reducible apply opsF.op rfl); case hs => first | exact tHT | exact tHS)
| (with_reducible first | apply opsF.nil | apply seqF.nn | apply vcF.seq | apply vcF.region | apply vcF.skip | apply vcF.block | apply vcF.exit | apply vcF.ret | apply vcF.loop | apply seqF.e | apply seqF.r | apply blkF.nn | apply blkF.e | apply blkF.r | apply blkF.o rfl)
| ((with_reducible apply opsF.call); case hx => exact tAG)
| ((with_reducible apply vcF.cond); case hx => exact tEV) <;> ((intro hc; try simp only [Int.reduceLT, Int.reduceLE, Int.reduceEq, Int.reduceNe, Int.cast_ofNat_Int, Int.reduceNeg, reduceCtorEq, ne_eq, ge_iff_le, gt_iff_lt, beq_iff_eq, beq_eq_false_iff_ne, bne_iff_ne, bne_eq_false_iff_eq, nrm, *] at hc) <;> try (exfalso; omega))
| ((with_reducible first | apply retF.r | apply retF.nn); case hv => exact tRS)
| ((refine Call.use (hA _) ?_))
| ((refine Call.use (hB _) ?_)))
    all_goals exact ⟨rfl, (by repeat' (first | exact Ext.refl _ | (refine Ext.set ?_ (by first | exact Nat.le_refl _ | (simp only [alloc_n, set_n]; omega)) _) | (refine Ext.trans ?_ (Ext.alloc _ _))))⟩
  | false =>
    rw [show fmtI false = 2 from rfl]
    repeat' (first
| ((with_reducible apply opsF.op rfl); case hs => first | exact tHT | exact tHS)
| (with_reducible first | apply opsF.nil | apply seqF.nn | apply vcF.seq | apply vcF.region | apply vcF.skip | apply vcF.block | apply vcF.exit | apply vcF.ret | apply vcF.loop | apply seqF.e | apply seqF.r | apply blkF.nn | apply blkF.e | apply blkF.r | apply blkF.o rfl)
| ((with_reducible apply opsF.call); case hx => exact tAG)
| ((with_reducible apply vcF.cond); case hx => exact tEV) <;> ((intro hc; try simp only [Int.reduceLT, Int.reduceLE, Int.reduceEq, Int.reduceNe, Int.cast_ofNat_Int, Int.reduceNeg, reduceCtorEq, ne_eq, ge_iff_le, gt_iff_lt, beq_iff_eq, beq_eq_false_iff_ne, bne_iff_ne, bne_eq_false_iff_eq, nrm, *] at hc) <;> try (exfalso; omega))
| ((with_reducible first | apply retF.r | apply retF.nn); case hv => exact tRS)
| ((refine Call.use (hA _) ?_))
| ((refine Call.use (hB _) ?_)))
    all_goals exact ⟨rfl, (by repeat' (first | exact Ext.refl _ | (refine Ext.set ?_ (by first | exact Nat.le_refl _ | (simp only [alloc_n, set_n]; omega)) _) | (refine Ext.trans ?_ (Ext.alloc _ _))))⟩
theorem tencode_call (hP : PowTab w0) (t : Bool) (m : Msg) (t1 t2 t3 : Tok) (h : AH) (hm : MOk m) (hg : goodM m = true) : Call P w0 turn_Encode [.agg (msgC m t1 t2 t3), .v (.int .i64 (fmtI t))] h (fun v h' => v = bytV t m ∧ h' = h) := by
  have hA := fun h => encode_call (w0 := w0) hP m t1 t2 t3 h hm
  have hB := fun h => bencode_call (w0 := w0) m t1 t2 t3 h hm
  rw [encV, hg, if_pos rfl] at hA
  rw [binV, hg, if_pos rfl] at hB
  refine Call.pure (bytV_plain _ _) ?_
  refine Call.bodyF b_turn_Encode rfl rfl ?_
  unfold c_turn_Encode
  rw [bytV]
  generalize hT : textM m = T at *
  generalize hN : bytesM m = N at *
  unfold msgC at hA hB ⊢
  cases t with
  | true =>
    rw [show fmtI true = 1 from rfl, show fmtM true m = T from hT]
    repeat' (first
| ((with_reducible apply opsF.op rfl); case hs => first | exact tHT | exact tHS)
| (with_reducible first | apply opsF.nil | apply seqF.nn | apply vcF.seq | apply vcF.region | apply vcF.skip | apply vcF.block | apply vcF.exit | apply vcF.ret | apply vcF.loop | apply seqF.e | apply seqF.r | apply blkF.nn | apply blkF.e | apply blkF.r | apply blkF.o rfl)
| ((with_reducible apply opsF.call); case hx => exact tAG)
| ((with_reducible apply vcF.cond); case hx => exact tEV) <;> ((intro hc; try simp only [Int.reduceLT, Int.reduceLE, Int.reduceEq, Int.reduceNe, Int.cast_ofNat_Int, Int.reduceNeg, reduceCtorEq, ne_eq, ge_iff_le, gt_iff_lt, beq_iff_eq, beq_eq_false_iff_ne, bne_iff_ne, bne_eq_false_iff_eq, nrm, *] at hc) <;> try (exfalso; omega))
| ((with_reducible first | apply retF.r | apply retF.nn); case hv => exact tRS)
| ((refine Call.use (hA _) ?_))
| ((refine Call.use (hB _) ?_)))
    all_goals exact ⟨rfl, (by repeat' (first | exact Ext.refl _ | (refine Ext.set ?_ (by first | exact Nat.le_refl _ | (simp only [alloc_n, set_n]; omega)) _) | (refine Ext.trans ?_ (Ext.alloc _ _))))⟩
  | false =>
    rw [show fmtI false = 2 from rfl, show fmtM false m = N from hN]
    repeat' (first
| ((with_reducible apply opsF.op rfl); case hs => first | exact tHT | exact tHS)
| (with_reducible first | apply opsF.nil | apply seqF.nn | apply vcF.seq | apply vcF.region | apply vcF.skip | apply vcF.block | apply vcF.exit | apply vcF.ret | apply vcF.loop | apply seqF.e | apply seqF.r | apply blkF.nn | apply blkF.e | apply blkF.r | apply blkF.o rfl)
| ((with_reducible apply opsF.call); case hx => exact tAG)
| ((with_reducible apply vcF.cond); case hx => exact tEV) <;> ((intro hc; try simp only [Int.reduceLT, Int.reduceLE, Int.reduceEq, Int.reduceNe, Int.cast_ofNat_Int, Int.reduceNeg, reduceCtorEq, ne_eq, ge_iff_le, gt_iff_lt, beq_iff_eq, beq_eq_false_iff_ne, bne_iff_ne, bne_eq_false_iff_eq, nrm, *] at hc) <;> try (exfalso; omega))
| ((with_reducible first | apply retF.r | apply retF.nn); case hv => exact tRS)
| ((refine Call.use (hA _) ?_))
| ((refine Call.use (hB _) ?_)))
    all_goals exact ⟨rfl, (by repeat' (first | exact Ext.refl _ | (refine Ext.set ?_ (by first | exact Nat.le_refl _ | (simp only [alloc_n, set_n]; omega)) _) | (refine Ext.trans ?_ (Ext.alloc _ _))))⟩
theorem turn_bad (b : L8) (tok : Tok) (n : Int) (h : AH) (h1 : ¬ n = 1) (h2 : ¬ n = 2) : Call P w0 turn_Turn [.list 1 (brows b) tok, .v (.int .i64 n)] h (fun v h' => v = .tup [.list 1 [] .full, .v (.int .i64 1)] ∧ h' = h) := by
  refine Call.bodyF b_turn_Turn rfl rfl ?_
  unfold c_turn_Turn
  repeat' (first
| ((with_reducible apply opsF.op rfl); case hs => first | exact tHT | exact tHS)
| (with_reducible first | apply opsF.nil | apply seqF.nn | apply vcF.seq | apply vcF.region | apply vcF.skip | apply vcF.ret | apply seqF.r)
| ((with_reducible apply opsF.call); case hx => exact tAG)
| ((with_reducible apply opsF.want); (case hg => exact tEV); case hb => exact tNB)
| ((with_reducible apply opsF.skip); (case hg => exact tEV); case hb => exact tNB)
| (first | ((with_reducible apply opsF.case); case hg => exact tEV) | ((with_reducible apply vcF.cond); case hx => exact tEV)) <;> ((intro hc; try simp only [Int.reduceLT, Int.reduceLE, Int.reduceEq, Int.reduceNe, Int.cast_ofNat_Int, Int.reduceNeg, reduceCtorEq, ne_eq, ge_iff_le, gt_iff_lt, beq_iff_eq, beq_eq_false_iff_ne, bne_iff_ne, bne_eq_false_iff_eq, nrm, *] at hc) <;> try (exfalso; omega))
| ((with_reducible apply opsF.und); case hg => rfl)
| ((with_reducible first | apply retF.r | apply retF.nn); case hv => exact tRS))
  all_goals exact ⟨rfl, rfl⟩
theorem turn_call (hP : PowTab w0) (hE : ErrVars w0) (t u : Bool) (m : Msg) (tok : Tok) (h : AH) (hs : smallM m = true) (hg : goodM m = true) : Call P w0 turn_Turn [.list 1 (brows (fmtM t m)) tok, .v (.int .i64 (fmtI u))] h (fun v h' => v = bytV u m ∧ h' = h) := by
  have hD := fun tok h => tdecode_call (w0 := w0) hP hE t m tok h hs hg
  have hC := fun h => tencode_call (w0 := w0) hP u m .no .no .no h (small_ok hs) hg
  unfold decV at hD
  unfold msgC at hD hC
  refine Call.pure (bytV_plain _ _) ?_
  rw [bytV] at hC ⊢
  generalize fmtM t m = B at *
  generalize fmtM u m = C at *
  refine Call.bodyF b_turn_Turn rfl rfl ?_
  unfold c_turn_Turn
  cases u with
  | true =>
    rw [show fmtI true = 1 from rfl] at *
    repeat' (first
| ((with_reducible apply opsF.op rfl); case hs => first | exact tHT | exact tHS)
| (with_reducible first | apply opsF.nil | apply seqF.nn | apply vcF.seq | apply vcF.region | apply vcF.skip | apply vcF.ret | apply seqF.r)
| ((with_reducible apply opsF.call); case hx => exact tAG)
| ((with_reducible apply opsF.want); (case hg => exact tEV); case hb => exact tNB)
| ((with_reducible apply opsF.skip); (case hg => exact tEV); case hb => exact tNB)
| (first | ((with_reducible apply opsF.case); case hg => exact tEV) | ((with_reducible apply vcF.cond); case hx => exact tEV)) <;> ((intro hc; try simp only [Int.reduceLT, Int.reduceLE, Int.reduceEq, Int.reduceNe, Int.cast_ofNat_Int, Int.reduceNeg, reduceCtorEq, ne_eq, ge_iff_le, gt_iff_lt, beq_iff_eq, beq_eq_false_iff_ne, bne_iff_ne, bne_eq_false_iff_eq, nrm, *] at hc) <;> try (exfalso; omega))
| ((with_reducible apply opsF.und); case hg => rfl)
| ((with_reducible first | apply retF.r | apply retF.nn); case hv => exact tRS)
| ((refine Call.use (hD _ _) ?_))
| ((refine Call.use (hC _) ?_)))
    all_goals exact ⟨rfl, (by repeat' (first | exact Ext.refl _ | (refine Ext.set ?_ (by first | exact Nat.le_refl _ | (simp only [alloc_n, set_n]; omega)) _) | (refine Ext.trans ?_ (Ext.alloc _ _))))⟩
  | false =>
    rw [show fmtI false = 2 from rfl] at *
    repeat' (first
| ((with_reducible apply opsF.op rfl); case hs => first | exact tHT | exact tHS)
| (with_reducible first | apply opsF.nil | apply seqF.nn | apply vcF.seq | apply vcF.region | apply vcF.skip | apply vcF.ret | apply seqF.r)
| ((with_reducible apply opsF.call); case hx => exact tAG)
| ((with_reducible apply opsF.want); (case hg => exact tEV); case hb => exact tNB)
| ((with_reducible apply opsF.skip); (case hg => exact tEV); case hb => exact tNB)
| (first | ((with_reducible apply opsF.case); case hg => exact tEV) | ((with_reducible apply vcF.cond); case hx => exact tEV)) <;> ((intro hc; try simp only [Int.reduceLT, Int.reduceLE, Int.reduceEq, Int.reduceNe, Int.cast_ofNat_Int, Int.reduceNeg, reduceCtorEq, ne_eq, ge_iff_le, gt_iff_lt, beq_iff_eq, beq_eq_false_iff_ne, bne_iff_ne, bne_eq_false_iff_eq, nrm, *] at hc) <;> try (exfalso; omega))
| ((with_reducible apply opsF.und); case hg => rfl)
| ((with_reducible first | apply retF.r | apply retF.nn); case hv => exact tRS)
| ((refine Call.use (hD _ _) ?_))
| ((refine Call.use (hC _) ?_)))
    all_goals exact ⟨rfl, (by repeat' (first | exact Ext.refl _ | (refine Ext.set ?_ (by first | exact Nat.le_refl _ | (simp only [alloc_n, set_n]; omega)) _) | (refine Ext.trans ?_ (Ext.alloc _ _))))⟩
theorem answers13_call (hP : PowTab w0) (h : AH) : Call P w0 law13_answers [] h (fun v h' => v = .v (.bool true) ∧ h' = h) := by
  refine Call.pure (.v _) ?_
  have hen := fun t1 t2 t3 h => tencode_call (w0 := w0) hP true ansM t1 t2 t3 h (small_ok ansM_small) ansM_good
  have hsn := fun tok h => sniff_call (w0 := w0) true ansM tok h (by have := text_small ansM_small ansM_good; simp only [fmtM, if_true]; omega)
  have hsb := fun tok h => sniffB_call (w0 := w0) [] tok h (by simp)
  have hmc : ∀ t1 t2 t3, msgC ansM t1 t2 t3 = [.v (.int .i64 1), .v (.int .i64 0), .v (.int .i64 0), .v (.int .i64 0), .v (.int .i64 0), .v (.string (bs [])), .list 1 [[.v (.string (bs [97, 64, 98]))]] t1, .list 1 [] t2, .list 1 [] t3] := fun _ _ _ => rfl
  rw [show brows [2] = [[AV.v (.int .u8 2)]] from rfl] at hsb
  simp only [hmc] at hen
  clear hmc
  rw [bytV] at hen
  rw [show fmtI true = 1 from rfl] at hen hsn
  generalize fmtM true ansM = T at *
  refine Call.bodyF b_law13_answers rfl rfl ?_
  unfold c_law13_answers
  repeat' (first
| ((with_reducible apply opsF.op rfl); case hs => first | exact tHT | exact tHS)
| (with_reducible first | apply opsF.nil | apply seqF.nn | apply vcF.seq | apply vcF.region | apply vcF.skip | apply vcF.ret | apply seqF.r)
| ((with_reducible apply opsF.call); case hx => exact tAG)
| ((with_reducible apply opsF.want); (case hg => exact tEV); case hb => exact tNB)
| ((with_reducible apply opsF.skip); (case hg => exact tEV); case hb => exact tNB)
| (first | ((with_reducible apply opsF.case); case hg => exact tEV) | ((with_reducible apply vcF.cond); case hx => exact tEV)) <;> ((intro hc; try simp only [Int.reduceLT, Int.reduceLE, Int.reduceEq, Int.reduceNe, Int.cast_ofNat_Int, Int.reduceNeg, reduceCtorEq, ne_eq, ge_iff_le, gt_iff_lt, beq_iff_eq, beq_eq_false_iff_ne, bne_iff_ne, bne_eq_false_iff_eq, nrm, *] at hc) <;> try (exfalso; omega))
| ((with_reducible apply opsF.und); case hg => rfl)
| ((with_reducible first | apply retF.r | apply retF.nn); case hv => exact tRS)
| ((refine Call.use (hen _ _ _ _) ?_))
| ((refine Call.use (hsn _ _) ?_))
| ((refine Call.use (hsb _ _) ?_)))
  all_goals exact ⟨rfl, (by repeat' (first | exact Ext.refl _ | (refine Ext.set ?_ (by first | exact Nat.le_refl _ | (simp only [alloc_n, set_n]; omega)) _) | (refine Ext.trans ?_ (Ext.alloc _ _))))⟩
end Go.Abs.F
/- Layer 13: TurnKeeps: turned over and over a message is as it was. -/
namespace Go.Abs.F
open Go Go.Abs
set_option maxRecDepth 10000
set_option maxHeartbeats 20000000
set_option linter.unusedSimpArgs false
set_option linter.unusedVariables false
variable {w0 : World}
theorem u8_wf13 {n : Int} (h : (Lit.int .u8 n).wf = true) : 0 ≤ n ∧ n ≤ 255 := by
  simp [Lit.wf, IntKind.min, IntKind.max, IntKind.signed, IntKind.bits] at h
  exact ⟨by omega, by omega⟩
theorem brows_key13 {f : Int → List AV} (hf : ∀ x, f x = [AV.v (.int .u8 x)]) : ∀ m : List Int, (∀ x ∈ m, 0 ≤ x ∧ x ≤ 255) → m.map f = brows (m.map fun x : Int => UInt8.ofNat x.toNat)
  | [], _ => rfl
  | x :: m, hm => by
    have hx := hm x (by simp)
    have ih := brows_key13 hf m (fun y hy => hm y (List.mem_cons_of_mem _ hy))
    simp only [List.map_cons, brows] at ih ⊢
    rw [ih, hf, u8n (show x.toNat < 256 by omega), Int.toNat_of_nonneg hx.1]
theorem brows_ty13 (l : (Ty.slice (.int .u8)).D) (hw : (Ty.slice (.int .u8)).wf l) : ∃ b : List UInt8, (Ty.slice (.int .u8)).val l = .list 1 (brows b) .no ∧ b.length = List.length l := by
  refine ⟨List.map (fun x : Int => UInt8.ofNat x.toNat) l, ?_, List.length_map _⟩
  simp only [Ty.val]
  congr 1
  exact brows_key13 (f := (Ty.int .u8).enc) (fun x => rfl) l (fun x hx => u8_wf13 (hw.2 x hx))

theorem turnKeeps_main (W : World) (hP : PowTab W) (hE : ErrVars W) (m : Msg) (hm : MLen m) (fs : L8) (hfl : fs.length ≤ 140737488351232) : Call P W law13_TurnKeeps [.agg (msgC m .no .no .no), .list 1 (brows fs) .no] AH.start fun v _ => v = .v (.bool true) := by
  have hans := fun h => answers13_call (w0 := W) hP h
  have hsm := fun h => small13_call (w0 := W) m .no .no .no h hm
  have bl := brows_len
  refine Call.bodyF b_law13_TurnKeeps rfl rfl ?_
  unfold c_law13_TurnKeeps
  cases hs : smallM m with
  | false =>
    rw [hs] at hsm
    clear hs
    unfold msgC at hsm ⊢
    repeat' (first
| ((with_reducible first | apply opsF.op rfl | apply dopsF.op rfl); case hs => first | exact tHT | exact tHS)
| (with_reducible first | apply opsF.nil | apply seqF.nn | apply vcF.seq | apply vcF.region | apply vcF.dregion | apply vcF.skip | apply vcF.block | apply vcF.exit | apply vcF.ret | apply vcF.loop | apply seqF.e | apply seqF.r | apply blkF.nn | apply blkF.e | apply blkF.r | apply blkF.o rfl | apply dopsF.nil | apply stabsF.nil | apply stabsF.cons | apply dopsF.cont)
| ((with_reducible first | apply opsF.call | apply dopsF.call); case hx => exact tAG)
| ((with_reducible first | apply opsF.want | apply dopsF.want | apply stabF.want); (case hg => exact tEV); case hb => exact tNB)
| ((with_reducible first | apply opsF.skip | apply dopsF.skip | apply stabF.skip); (case hg => exact tEV); case hb => exact tNB)
| (first | ((with_reducible first | apply opsF.case | apply dopsF.case); case hg => exact tEV) | ((with_reducible apply vcF.cond); case hx => exact tEV)) <;> ((intro hc; try simp only [Int.reduceLT, Int.reduceLE, Int.reduceEq, Int.reduceNe, Int.cast_ofNat_Int, Int.reduceNeg, reduceCtorEq, ne_eq, ge_iff_le, gt_iff_lt, beq_iff_eq, beq_eq_false_iff_ne, bne_iff_ne, bne_eq_false_iff_eq, nrm, *] at hc) <;> try (exfalso; omega))
| ((with_reducible first | apply opsF.und | apply dopsF.und); case hg => rfl)
| ((with_reducible apply stabF.und); rfl)
| ((with_reducible apply stabF.op); (case hs => first | exact tHT | exact tHS); case hv => exact tSV)
| ((with_reducible first | apply retF.r | apply retF.nn); case hv => exact tRS)
| ((refine Call.use (hsm _) ?_))
| ((refine Call.use (hans _) ?_)))
    all_goals rfl
  | true =>
    have hmo := small_ok hs
    have hgo := fun h => refgood_call (w0 := W) m .no .no .no h hmo
    rw [hs] at hsm
    cases hg : goodM m with
    | false =>
      rw [hg] at hgo
      clear hs hmo hg
      unfold msgC at hsm hgo ⊢
      repeat' (first
| ((with_reducible first | apply opsF.op rfl | apply dopsF.op rfl); case hs => first | exact tHT | exact tHS)
| (with_reducible first | apply opsF.nil | apply seqF.nn | apply vcF.seq | apply vcF.region | apply vcF.dregion | apply vcF.skip | apply vcF.block | apply vcF.exit | apply vcF.ret | apply vcF.loop | apply seqF.e | apply seqF.r | apply blkF.nn | apply blkF.e | apply blkF.r | apply blkF.o rfl | apply dopsF.nil | apply stabsF.nil | apply stabsF.cons | apply dopsF.cont)
| ((with_reducible first | apply opsF.call | apply dopsF.call); case hx => exact tAG)
| ((with_reducible first | apply opsF.want | apply dopsF.want | apply stabF.want); (case hg => exact tEV); case hb => exact tNB)
| ((with_reducible first | apply opsF.skip | apply dopsF.skip | apply stabF.skip); (case hg => exact tEV); case hb => exact tNB)
| (first | ((with_reducible first | apply opsF.case | apply dopsF.case); case hg => exact tEV) | ((with_reducible apply vcF.cond); case hx => exact tEV)) <;> ((intro hc; try simp only [Int.reduceLT, Int.reduceLE, Int.reduceEq, Int.reduceNe, Int.cast_ofNat_Int, Int.reduceNeg, reduceCtorEq, ne_eq, ge_iff_le, gt_iff_lt, beq_iff_eq, beq_eq_false_iff_ne, bne_iff_ne, bne_eq_false_iff_eq, nrm, *] at hc) <;> try (exfalso; omega))
| ((with_reducible first | apply opsF.und | apply dopsF.und); case hg => rfl)
| ((with_reducible apply stabF.und); rfl)
| ((with_reducible apply stabF.op); (case hs => first | exact tHT | exact tHS); case hv => exact tSV)
| ((with_reducible first | apply retF.r | apply retF.nn); case hv => exact tRS)
| ((refine Call.use (hsm _) ?_))
| ((refine Call.use (hans _) ?_))
| ((refine Call.use (hgo _) ?_)))
      all_goals rfl
    | true =>
      rw [hg] at hgo
      have hde := fun t tok h => tdecode_call (w0 := W) hP hE t m tok h hs hg
      have hlen : ∀ u, (fmtM u m).length ≤ 1000000000 := fun u => by
        have h1 := text_small hs hg
        have h2 := bytes_len hmo hg
        cases u <;> simp only [fmtM, if_true, if_false, Bool.false_eq_true] <;> omega
      have hsn := fun t tok h => sniff_call (w0 := W) t m tok h (hlen t)
      have hsa := fun h => rsame_call (w0 := W) m m .no .no .no .no .no .no h hm.rl hm.ml hm.bl
      rw [sameM_refl] at hsa
      have hrb := fun h => rbytes_call (w0 := W) m .no .no .no h hmo hg
      have htu := fun t u tok h => turn_call (w0 := W) hP hE t u m tok h hs hg
      unfold decV at hde
      unfold bytV at htu
      rw [show bytesM m = fmtM false m from rfl] at hrb
      clear hs hmo hg hlen
      unfold msgC at hsm hgo hde hsa hrb ⊢
      repeat' (first
| ((with_reducible first | apply opsF.op rfl | apply dopsF.op rfl); case hs => first | exact tHT | exact tHS)
| (with_reducible first | apply opsF.nil | apply seqF.nn | apply vcF.seq | apply vcF.region | apply vcF.dregion | apply vcF.skip | apply vcF.block | apply vcF.exit | apply vcF.ret | apply vcF.loop | apply seqF.e | apply seqF.r | apply blkF.nn | apply blkF.e | apply blkF.r | apply blkF.o rfl | apply dopsF.nil | apply stabsF.nil | apply stabsF.cons | apply dopsF.cont)
| ((with_reducible first | apply opsF.call | apply dopsF.call); case hx => exact tAG)
| ((with_reducible first | apply opsF.want | apply dopsF.want | apply stabF.want); (case hg => exact tEV); case hb => exact tNB)
| ((with_reducible first | apply opsF.skip | apply dopsF.skip | apply stabF.skip); (case hg => exact tEV); case hb => exact tNB)
| (first | ((with_reducible first | apply opsF.case | apply dopsF.case); case hg => exact tEV) | ((with_reducible apply vcF.cond); case hx => exact tEV)) <;> ((intro hc; try simp only [Int.reduceLT, Int.reduceLE, Int.reduceEq, Int.reduceNe, Int.cast_ofNat_Int, Int.reduceNeg, reduceCtorEq, ne_eq, ge_iff_le, gt_iff_lt, beq_iff_eq, beq_eq_false_iff_ne, bne_iff_ne, bne_eq_false_iff_eq, nrm, *] at hc) <;> try (exfalso; omega))
| ((with_reducible first | apply opsF.und | apply dopsF.und); case hg => rfl)
| ((with_reducible apply stabF.und); rfl)
| ((with_reducible apply stabF.op); (case hs => first | exact tHT | exact tHS); case hv => exact tSV)
| ((with_reducible first | apply retF.r | apply retF.nn); case hv => exact tRS)
| ((refine Call.use (hsm _) ?_))
| ((refine Call.use (hans _) ?_))
| ((refine Call.use (hgo _) ?_))
| ((refine Call.use (hrb _) ?_)))
      all_goals first
        | rfl
        | refine LpF.ind rfl (fun i : Nat => fs.length - i) (fun i σ hh => ∃ (t : Bool), AH.start.n < hh.n ∧ hh.objs AH.start.n = some (.cells [.v (.int .i64 m.1), .v (.int .i64 m.2.1), .v (.int .i64 m.2.2.1), .v (.int .i64 m.2.2.2.1), .v (.int .i64 m.2.2.2.2.1), .v (.string (bs m.2.2.2.2.2.1)), .list 1 (srows m.2.2.2.2.2.2.1) .no, .list 1 (irows m.2.2.2.2.2.2.2.1) .no, .list 1 (srows m.2.2.2.2.2.2.2.2) .no]) ∧ σ 1 = .list 1 (brows fs) .no ∧ σ 2 = .ptr AH.start.n 0 ∧ σ 5 = .list 1 (brows (fmtM t m)) .no ∧ σ 6 = .v (.int .i64 (i : Nat)) ∧ i ≤ fs.length) ?_ (i := 0)
            ⟨false, by simp [alloc_n], by simp [alloc_at], rfl, rfl, rfl, rfl, Nat.zero_le _⟩
      rintro i σ hh ⟨t, hn, hM, g1, g2, g5, g6, hi⟩
      have htuT := fun tok h => htu t true tok h
      have htuF := fun tok h => htu t false tok h
      have hsnT := fun tok h => hsn true tok h
      have hsnF := fun tok h => hsn false tok h
      rw [show fmtI true = 1 from rfl] at htuT hsnT
      rw [show fmtI false = 2 from rfl] at htuF hsnF
      have hbl2 := brows_len fs
      rcases Nat.lt_or_ge i fs.length with hlt | hge
      · obtain ⟨x, hx⟩ : ∃ x, fs[i]? = some x := ⟨_, List.getElem?_eq_getElem hlt⟩
        have hxg : (brows fs)[i]? = some [.v (.int .u8 (x.toNat : Int))] := by rw [brows_get, hx]; rfl
        have h2 : (x.toNat : Int).tmod 2 = ((x.toNat % 2 : Nat) : Int) := (Int.ofNat_tmod x.toNat 2).symm
        generalize (x.toNat : Int) = X at *
        clear htu hsn hde hsa hans
        rcases Nat.mod_two_eq_zero_or_one x.toNat with hq | hq
        · rw [hq] at h2
          have h2 : X.tmod 2 = 0 := h2
          repeat' (first
| ((with_reducible apply opsF.op rfl); (case hs => exact is_rem tEV tEV (by decide) h2))
| ((with_reducible apply dopsF.op rfl); (case hs => exact is_rem tEV tEV (by decide) h2))
| ((with_reducible first | apply opsF.op rfl | apply dopsF.op rfl); case hs => first | exact tHT | exact tHS)
| (with_reducible first | apply opsF.nil | apply seqF.nn | apply vcF.seq | apply vcF.region | apply vcF.dregion | apply vcF.skip | apply vcF.block | apply vcF.exit | apply vcF.ret | apply vcF.loop | apply seqF.e | apply seqF.r | apply blkF.nn | apply blkF.e | apply blkF.r | apply blkF.o rfl | apply dopsF.nil | apply stabsF.nil | apply stabsF.cons | apply dopsF.cont)
| ((with_reducible first | apply opsF.call | apply dopsF.call); case hx => exact tAG)
| ((with_reducible first | apply opsF.want | apply dopsF.want | apply stabF.want); (case hg => exact tEV); case hb => exact tNB)
| ((with_reducible first | apply opsF.skip | apply dopsF.skip | apply stabF.skip); (case hg => exact tEV); case hb => exact tNB)
| (first | ((with_reducible first | apply opsF.case | apply dopsF.case); case hg => exact tEV) | ((with_reducible apply vcF.cond); case hx => exact tEV)) <;> ((intro hc; try simp only [Int.reduceLT, Int.reduceLE, Int.reduceEq, Int.reduceNe, Int.cast_ofNat_Int, Int.reduceNeg, reduceCtorEq, ne_eq, ge_iff_le, gt_iff_lt, beq_iff_eq, beq_eq_false_iff_ne, bne_iff_ne, bne_eq_false_iff_eq, nrm, *] at hc) <;> try (exfalso; omega))
| ((with_reducible first | apply opsF.und | apply dopsF.und); case hg => rfl)
| ((with_reducible apply stabF.und); rfl)
| ((with_reducible apply stabF.op); (case hs => first | exact tHT | exact tHS); case hv => exact tSV)
| ((with_reducible first | apply retF.r | apply retF.nn); case hv => exact tRS)
| ((refine Call.use (htuT _ _) ?_))
| ((refine Call.use (hsnT _ _) ?_)))
          all_goals exact ⟨i + 1, by omega, true, hn, hM, g1, g2, rfl, rfl, by omega⟩
        · rw [hq] at h2
          have h2 : X.tmod 2 = 1 := h2
          repeat' (first
| ((with_reducible apply opsF.op rfl); (case hs => exact is_rem tEV tEV (by decide) h2))
| ((with_reducible apply dopsF.op rfl); (case hs => exact is_rem tEV tEV (by decide) h2))
| ((with_reducible first | apply opsF.op rfl | apply dopsF.op rfl); case hs => first | exact tHT | exact tHS)
| (with_reducible first | apply opsF.nil | apply seqF.nn | apply vcF.seq | apply vcF.region | apply vcF.dregion | apply vcF.skip | apply vcF.block | apply vcF.exit | apply vcF.ret | apply vcF.loop | apply seqF.e | apply seqF.r | apply blkF.nn | apply blkF.e | apply blkF.r | apply blkF.o rfl | apply dopsF.nil | apply stabsF.nil | apply stabsF.cons | apply dopsF.cont)
| ((with_reducible first | apply opsF.call | apply dopsF.call); case hx => exact tAG)
| ((with_reducible first | apply opsF.want | apply dopsF.want | apply stabF.want); (case hg => exact tEV); case hb => exact tNB)
| ((with_reducible first | apply opsF.skip | apply dopsF.skip | apply stabF.skip); (case hg => exact tEV); case hb => exact tNB)
| (first | ((with_reducible first | apply opsF.case | apply dopsF.case); case hg => exact tEV) | ((with_reducible apply vcF.cond); case hx => exact tEV)) <;> ((intro hc; try simp only [Int.reduceLT, Int.reduceLE, Int.reduceEq, Int.reduceNe, Int.cast_ofNat_Int, Int.reduceNeg, reduceCtorEq, ne_eq, ge_iff_le, gt_iff_lt, beq_iff_eq, beq_eq_false_iff_ne, bne_iff_ne, bne_eq_false_iff_eq, nrm, *] at hc) <;> try (exfalso; omega))
| ((with_reducible first | apply opsF.und | apply dopsF.und); case hg => rfl)
| ((with_reducible apply stabF.und); rfl)
| ((with_reducible apply stabF.op); (case hs => first | exact tHT | exact tHS); case hv => exact tSV)
| ((with_reducible first | apply retF.r | apply retF.nn); case hv => exact tRS)
| ((refine Call.use (htuF _ _) ?_))
| ((refine Call.use (hsnF _ _) ?_)))
          all_goals exact ⟨i + 1, by omega, false, hn, hM, g1, g2, rfl, rfl, by omega⟩
      · obtain rfl : i = fs.length := by omega
        clear htu htuT htuF hsn hsnT hsnF
        repeat' (first
| ((with_reducible first | apply opsF.op rfl | apply dopsF.op rfl); case hs => first | exact tHT | exact tHS)
| (with_reducible first | apply opsF.nil | apply seqF.nn | apply vcF.seq | apply vcF.region | apply vcF.dregion | apply vcF.skip | apply vcF.block | apply vcF.exit | apply vcF.ret | apply vcF.loop | apply seqF.e | apply seqF.r | apply blkF.nn | apply blkF.e | apply blkF.r | apply blkF.o rfl | apply dopsF.nil | apply stabsF.nil | apply stabsF.cons | apply dopsF.cont)
| ((with_reducible first | apply opsF.call | apply dopsF.call); case hx => exact tAG)
| ((with_reducible first | apply opsF.want | apply dopsF.want | apply stabF.want); (case hg => exact tEV); case hb => exact tNB)
| ((with_reducible first | apply opsF.skip | apply dopsF.skip | apply stabF.skip); (case hg => exact tEV); case hb => exact tNB)
| (first | ((with_reducible first | apply opsF.case | apply dopsF.case); case hg => exact tEV) | ((with_reducible apply vcF.cond); case hx => exact tEV)) <;> ((intro hc; try simp only [Int.reduceLT, Int.reduceLE, Int.reduceEq, Int.reduceNe, Int.cast_ofNat_Int, Int.reduceNeg, reduceCtorEq, ne_eq, ge_iff_le, gt_iff_lt, beq_iff_eq, beq_eq_false_iff_ne, bne_iff_ne, bne_eq_false_iff_eq, nrm, *] at hc) <;> try (exfalso; omega))
| ((with_reducible first | apply opsF.und | apply dopsF.und); case hg => rfl)
| ((with_reducible apply stabF.und); rfl)
| ((with_reducible apply stabF.op); (case hs => first | exact tHT | exact tHS); case hv => exact tSV)
| ((with_reducible first | apply retF.r | apply retF.nn); case hv => exact tRS)
| ((refine Call.use (hans _) ?_))
| ((refine Call.use (hde _ _ _) ?_))
| ((refine Call.use (hsa _) ?_)))
        all_goals rfl
theorem law_TurnKeeps (W : World) (hL : laidMetH P Go.Proofs.YtnpdmkbfphcioaaGreatDoor.Rows.turnKeepsRow.laid W) (x0 : MsgT.D) (h0 : MsgT.wf x0) (g0 : MsgT.fit 140737488351232 x0) (x1 : (Ty.slice (.int .u8)).D) (h1 : (Ty.slice (.int .u8)).wf x1) (g1 : (Ty.slice (.int .u8)).fit 140737488351232 x1) :
    Call P W law13_TurnKeeps [MsgT.val x0, (Ty.slice (.int .u8)).val x1] AH.start fun v _ => v = .v (.bool true) := by
  obtain ⟨m, e0, hm⟩ := msg_ty x0 g0
  obtain ⟨b, e1, hb⟩ := brows_ty13 x1 h1
  rw [e0, e1]
  exact turnKeeps_main W (powTab_of hL (by kernel_rfl)) (errVars_of hL (by kernel_rfl) (by kernel_rfl)) m hm b (by rw [hb]; exact g1.1)
end Go.Abs.F
/- Layer 13: TurnBoth: a message in either format is it; turned it is in the other one, and turned back as it was. -/
namespace Go.Abs.F
open Go Go.Abs
set_option maxRecDepth 10000
set_option maxHeartbeats 20000000
set_option linter.unusedSimpArgs false
set_option linter.unusedVariables false
variable {w0 : World}
theorem turnBoth_main (W : World) (hP : PowTab W) (hE : ErrVars W) (m : Msg) (hm : MLen m) (fm ot : Int) : Call P W law13_TurnBoth [.agg (msgC m .no .no .no), .v (.int .i64 fm), .v (.int .i64 ot)] AH.start fun v _ => v = .v (.bool true) := by
  have hans := fun h => answers13_call (w0 := W) hP h
  have hsm := fun h => small13_call (w0 := W) m .no .no .no h hm
  refine Call.bodyF b_law13_TurnBoth rfl rfl ?_
  unfold c_law13_TurnBoth
  cases hs : smallM m with
  | false =>
    rw [hs] at hsm
    clear hs
    unfold msgC at hsm ⊢
    repeat' (first
| ((with_reducible apply opsF.op rfl); case hs => first | exact tHT | exact tHS)
| (with_reducible first | apply opsF.nil | apply seqF.nn | apply vcF.seq | apply vcF.region | apply vcF.skip | apply vcF.ret | apply seqF.r)
| ((with_reducible apply opsF.call); case hx => exact tAG)
| ((with_reducible apply opsF.want); (case hg => exact tEV); case hb => exact tNB)
| ((with_reducible apply opsF.skip); (case hg => exact tEV); case hb => exact tNB)
| (first | ((with_reducible apply opsF.case); case hg => exact tEV) | ((with_reducible apply vcF.cond); case hx => exact tEV)) <;> ((intro hc; try simp only [Int.reduceLT, Int.reduceLE, Int.reduceEq, Int.reduceNe, Int.cast_ofNat_Int, Int.reduceNeg, reduceCtorEq, ne_eq, ge_iff_le, gt_iff_lt, beq_iff_eq, beq_eq_false_iff_ne, bne_iff_ne, bne_eq_false_iff_eq, nrm, *] at hc) <;> try (exfalso; omega))
| ((with_reducible apply opsF.und); case hg => rfl)
| ((with_reducible first | apply retF.r | apply retF.nn); case hv => exact tRS)
| ((refine Call.use (hsm _) ?_))
| ((refine Call.use (hans _) ?_)))
    all_goals rfl
  | true =>
    have hmo := small_ok hs
    rw [hs] at hsm
    by_cases hf : fm = 1 ∨ fm = 2
    · obtain ⟨t, ht⟩ : ∃ t, fm = fmtI t := by
        rcases hf with rfl | rfl
        · exact ⟨true, rfl⟩
        · exact ⟨false, rfl⟩
      clear hf
      subst ht
      have hgo := fun h => refgood_call (w0 := W) m .no .no .no h hmo
      cases hg : goodM m with
      | false =>
        rw [hg] at hgo
        have hen := fun h => tencode_form (w0 := W) hP t m .no .no .no h hmo hg
        clear hs hmo hg
        cases t with
        | true =>
          rw [show fmtI true = 1 from rfl] at *
          unfold msgC at hsm hgo hen ⊢
          repeat' (first
| ((with_reducible apply opsF.op rfl); case hs => first | exact tHT | exact tHS)
| (with_reducible first | apply opsF.nil | apply seqF.nn | apply vcF.seq | apply vcF.region | apply vcF.skip | apply vcF.ret | apply seqF.r)
| ((with_reducible apply opsF.call); case hx => exact tAG)
| ((with_reducible apply opsF.want); (case hg => exact tEV); case hb => exact tNB)
| ((with_reducible apply opsF.skip); (case hg => exact tEV); case hb => exact tNB)
| (first | ((with_reducible apply opsF.case); case hg => exact tEV) | ((with_reducible apply vcF.cond); case hx => exact tEV)) <;> ((intro hc; try simp only [Int.reduceLT, Int.reduceLE, Int.reduceEq, Int.reduceNe, Int.cast_ofNat_Int, Int.reduceNeg, reduceCtorEq, ne_eq, ge_iff_le, gt_iff_lt, beq_iff_eq, beq_eq_false_iff_ne, bne_iff_ne, bne_eq_false_iff_eq, nrm, *] at hc) <;> try (exfalso; omega))
| ((with_reducible apply opsF.und); case hg => rfl)
| ((with_reducible first | apply retF.r | apply retF.nn); case hv => exact tRS)
| ((refine Call.use (hsm _) ?_))
| ((refine Call.use (hans _) ?_))
| ((refine Call.use (hen _) ?_))
| ((refine Call.use (hgo _) ?_)))
          all_goals rfl
        | false =>
          rw [show fmtI false = 2 from rfl] at *
          unfold msgC at hsm hgo hen ⊢
          repeat' (first
| ((with_reducible apply opsF.op rfl); case hs => first | exact tHT | exact tHS)
| (with_reducible first | apply opsF.nil | apply seqF.nn | apply vcF.seq | apply vcF.region | apply vcF.skip | apply vcF.ret | apply seqF.r)
| ((with_reducible apply opsF.call); case hx => exact tAG)
| ((with_reducible apply opsF.want); (case hg => exact tEV); case hb => exact tNB)
| ((with_reducible apply opsF.skip); (case hg => exact tEV); case hb => exact tNB)
| (first | ((with_reducible apply opsF.case); case hg => exact tEV) | ((with_reducible apply vcF.cond); case hx => exact tEV)) <;> ((intro hc; try simp only [Int.reduceLT, Int.reduceLE, Int.reduceEq, Int.reduceNe, Int.cast_ofNat_Int, Int.reduceNeg, reduceCtorEq, ne_eq, ge_iff_le, gt_iff_lt, beq_iff_eq, beq_eq_false_iff_ne, bne_iff_ne, bne_eq_false_iff_eq, nrm, *] at hc) <;> try (exfalso; omega))
| ((with_reducible apply opsF.und); case hg => rfl)
| ((with_reducible first | apply retF.r | apply retF.nn); case hv => exact tRS)
| ((refine Call.use (hsm _) ?_))
| ((refine Call.use (hans _) ?_))
| ((refine Call.use (hen _) ?_))
| ((refine Call.use (hgo _) ?_)))
          all_goals rfl
      | true =>
        rw [hg] at hgo
        have hen := fun h => tencode_call (w0 := W) hP t m .no .no .no h hmo hg
        have hde := fun tok h => tdecode_call (w0 := W) hP hE t m tok h hs hg
        have hlen : ∀ u, (fmtM u m).length ≤ 1000000000 := fun u => by
          have h1 := text_small hs hg
          have h2 := bytes_len hmo hg
          cases u <;> simp only [fmtM, if_true, if_false, Bool.false_eq_true] <;> omega
        have hsn := fun tok h => sniff_call (w0 := W) t m tok h (hlen t)
        have hsa := fun h => rsame_call (w0 := W) m m .no .no .no .no .no .no h hm.rl hm.ml hm.bl
        rw [sameM_refl] at hsa
        have hrt := fun h => reftext_call (w0 := W) m .no .no .no h hmo hg
        have hrb := fun h => rbytes_call (w0 := W) m .no .no .no h hmo hg
        unfold decV at hde
        by_cases hq : ot = 1 ∨ ot = 2
        · obtain ⟨u, hu⟩ : ∃ u, ot = fmtI u := by
            rcases hq with rfl | rfl
            · exact ⟨true, rfl⟩
            · exact ⟨false, rfl⟩
          clear hq
          subst hu
          have htu := fun tok h => turn_call (w0 := W) hP hE t u m tok h hs hg
          have htb := fun tok h => turn_call (w0 := W) hP hE u t m tok h hs hg
          have hsc := fun ta tb h => bytes_call (w0 := W) (fmtM u m) (fmtM u m) ta tb h (by have := hlen u; omega)
          have hsd := fun ta tb h => bytes_call (w0 := W) (fmtM t m) (fmtM t m) ta tb h (by have := hlen t; omega)
          rw [decide_eq_true rfl] at hsc hsd
          rw [bytV] at hen htu htb
          rw [show textM m = fmtM true m from rfl] at hrt
          rw [show bytesM m = fmtM false m from rfl] at hrb
          have hb2 := byteRows_brows (fmtM true m)
          clear hs hmo hg hlen
          cases t with
          | true =>
            cases u with
            | true =>
              rw [show fmtI true = 1 from rfl] at *
              unfold msgC at hsm hen hgo hde hsa hrt hrb ⊢
              generalize fmtM true m = A at *
              generalize fmtM false m = B at *
              repeat' (first
| ((with_reducible apply opsF.op rfl); case hs => first | exact tHT | exact tHS)
| (with_reducible first | apply opsF.nil | apply seqF.nn | apply vcF.seq | apply vcF.region | apply vcF.skip | apply vcF.ret | apply seqF.r)
| ((with_reducible apply opsF.call); case hx => exact tAG)
| ((with_reducible apply opsF.want); (case hg => exact tEV); case hb => exact tNB)
| ((with_reducible apply opsF.skip); (case hg => exact tEV); case hb => exact tNB)
| (first | ((with_reducible apply opsF.case); case hg => exact tEV) | ((with_reducible apply vcF.cond); case hx => exact tEV)) <;> ((intro hc; try simp only [Int.reduceLT, Int.reduceLE, Int.reduceEq, Int.reduceNe, Int.cast_ofNat_Int, Int.reduceNeg, reduceCtorEq, ne_eq, ge_iff_le, gt_iff_lt, beq_iff_eq, beq_eq_false_iff_ne, bne_iff_ne, bne_eq_false_iff_eq, nrm, *] at hc) <;> try (exfalso; omega))
| ((with_reducible apply opsF.und); case hg => rfl)
| ((with_reducible first | apply retF.r | apply retF.nn); case hv => exact tRS)
| ((refine Call.use (hsm _) ?_))
| ((refine Call.use (hans _) ?_))
| ((refine Call.use (hen _) ?_))
| ((refine Call.use (hgo _) ?_))
| ((refine Call.use (hde _ _) ?_))
| ((refine Call.use (htu _ _) ?_))
| ((refine Call.use (htb _ _) ?_))
| ((refine Call.use (hsn _ _) ?_))
| ((refine Call.use (hsa _) ?_))
| ((refine Call.use (hrt _) ?_))
| ((refine Call.use (hrb _) ?_))
| ((refine Call.use (hsc _ _ _) ?_))
| ((refine Call.use (hsd _ _ _) ?_)))
              all_goals rfl
            | false =>
              rw [show fmtI true = 1 from rfl] at *
              rw [show fmtI false = 2 from rfl] at *
              unfold msgC at hsm hen hgo hde hsa hrt hrb ⊢
              generalize fmtM true m = A at *
              generalize fmtM false m = B at *
              repeat' (first
| ((with_reducible apply opsF.op rfl); case hs => first | exact tHT | exact tHS)
| (with_reducible first | apply opsF.nil | apply seqF.nn | apply vcF.seq | apply vcF.region | apply vcF.skip | apply vcF.ret | apply seqF.r)
| ((with_reducible apply opsF.call); case hx => exact tAG)
| ((with_reducible apply opsF.want); (case hg => exact tEV); case hb => exact tNB)
| ((with_reducible apply opsF.skip); (case hg => exact tEV); case hb => exact tNB)
| (first | ((with_reducible apply opsF.case); case hg => exact tEV) | ((with_reducible apply vcF.cond); case hx => exact tEV)) <;> ((intro hc; try simp only [Int.reduceLT, Int.reduceLE, Int.reduceEq, Int.reduceNe, Int.cast_ofNat_Int, Int.reduceNeg, reduceCtorEq, ne_eq, ge_iff_le, gt_iff_lt, beq_iff_eq, beq_eq_false_iff_ne, bne_iff_ne, bne_eq_false_iff_eq, nrm, *] at hc) <;> try (exfalso; omega))
| ((with_reducible apply opsF.und); case hg => rfl)
| ((with_reducible first | apply retF.r | apply retF.nn); case hv => exact tRS)
| ((refine Call.use (hsm _) ?_))
| ((refine Call.use (hans _) ?_))
| ((refine Call.use (hen _) ?_))
| ((refine Call.use (hgo _) ?_))
| ((refine Call.use (hde _ _) ?_))
| ((refine Call.use (htu _ _) ?_))
| ((refine Call.use (htb _ _) ?_))
| ((refine Call.use (hsn _ _) ?_))
| ((refine Call.use (hsa _) ?_))
| ((refine Call.use (hrt _) ?_))
| ((refine Call.use (hrb _) ?_))
| ((refine Call.use (hsc _ _ _) ?_))
| ((refine Call.use (hsd _ _ _) ?_)))
              all_goals rfl
          | false =>
            cases u with
            | true =>
              rw [show fmtI true = 1 from rfl] at *
              rw [show fmtI false = 2 from rfl] at *
              unfold msgC at hsm hen hgo hde hsa hrt hrb ⊢
              generalize fmtM true m = A at *
              generalize fmtM false m = B at *
              repeat' (first
| ((with_reducible apply opsF.op rfl); case hs => first | exact tHT | exact tHS)
| (with_reducible first | apply opsF.nil | apply seqF.nn | apply vcF.seq | apply vcF.region | apply vcF.skip | apply vcF.ret | apply seqF.r)
| ((with_reducible apply opsF.call); case hx => exact tAG)
| ((with_reducible apply opsF.want); (case hg => exact tEV); case hb => exact tNB)
| ((with_reducible apply opsF.skip); (case hg => exact tEV); case hb => exact tNB)
| (first | ((with_reducible apply opsF.case); case hg => exact tEV) | ((with_reducible apply vcF.cond); case hx => exact tEV)) <;> ((intro hc; try simp only [Int.reduceLT, Int.reduceLE, Int.reduceEq, Int.reduceNe, Int.cast_ofNat_Int, Int.reduceNeg, reduceCtorEq, ne_eq, ge_iff_le, gt_iff_lt, beq_iff_eq, beq_eq_false_iff_ne, bne_iff_ne, bne_eq_false_iff_eq, nrm, *] at hc) <;> try (exfalso; omega))
| ((with_reducible apply opsF.und); case hg => rfl)
| ((with_reducible first | apply retF.r | apply retF.nn); case hv => exact tRS)
| ((refine Call.use (hsm _) ?_))
| ((refine Call.use (hans _) ?_))
| ((refine Call.use (hen _) ?_))
| ((refine Call.use (hgo _) ?_))
| ((refine Call.use (hde _ _) ?_))
| ((refine Call.use (htu _ _) ?_))
| ((refine Call.use (htb _ _) ?_))
| ((refine Call.use (hsn _ _) ?_))
| ((refine Call.use (hsa _) ?_))
| ((refine Call.use (hrt _) ?_))
| ((refine Call.use (hrb _) ?_))
| ((refine Call.use (hsc _ _ _) ?_))
| ((refine Call.use (hsd _ _ _) ?_)))
              all_goals rfl
            | false =>
              rw [show fmtI false = 2 from rfl] at *
              unfold msgC at hsm hen hgo hde hsa hrt hrb ⊢
              generalize fmtM true m = A at *
              generalize fmtM false m = B at *
              repeat' (first
| ((with_reducible apply opsF.op rfl); case hs => first | exact tHT | exact tHS)
| (with_reducible first | apply opsF.nil | apply seqF.nn | apply vcF.seq | apply vcF.region | apply vcF.skip | apply vcF.ret | apply seqF.r)
| ((with_reducible apply opsF.call); case hx => exact tAG)
| ((with_reducible apply opsF.want); (case hg => exact tEV); case hb => exact tNB)
| ((with_reducible apply opsF.skip); (case hg => exact tEV); case hb => exact tNB)
| (first | ((with_reducible apply opsF.case); case hg => exact tEV) | ((with_reducible apply vcF.cond); case hx => exact tEV)) <;> ((intro hc; try simp only [Int.reduceLT, Int.reduceLE, Int.reduceEq, Int.reduceNe, Int.cast_ofNat_Int, Int.reduceNeg, reduceCtorEq, ne_eq, ge_iff_le, gt_iff_lt, beq_iff_eq, beq_eq_false_iff_ne, bne_iff_ne, bne_eq_false_iff_eq, nrm, *] at hc) <;> try (exfalso; omega))
| ((with_reducible apply opsF.und); case hg => rfl)
| ((with_reducible first | apply retF.r | apply retF.nn); case hv => exact tRS)
| ((refine Call.use (hsm _) ?_))
| ((refine Call.use (hans _) ?_))
| ((refine Call.use (hen _) ?_))
| ((refine Call.use (hgo _) ?_))
| ((refine Call.use (hde _ _) ?_))
| ((refine Call.use (htu _ _) ?_))
| ((refine Call.use (htb _ _) ?_))
| ((refine Call.use (hsn _ _) ?_))
| ((refine Call.use (hsa _) ?_))
| ((refine Call.use (hrt _) ?_))
| ((refine Call.use (hrb _) ?_))
| ((refine Call.use (hsc _ _ _) ?_))
| ((refine Call.use (hsd _ _ _) ?_)))
              all_goals rfl
        · have n1 : ¬ ot = 1 := fun e => hq (.inl e)
          have n2 : ¬ ot = 2 := fun e => hq (.inr e)
          clear hq
          have htu := fun tok h => turn_bad (w0 := W) (fmtM t m) tok ot h n1 n2
          rw [bytV] at hen
          clear hs hmo hg hlen
          cases t with
          | true =>
            rw [show fmtI true = 1 from rfl] at *
            unfold msgC at hsm hen hgo hde hsa ⊢
            generalize fmtM true m = A at *
            generalize fmtM false m = B at *
            repeat' (first
| ((with_reducible apply opsF.op rfl); case hs => first | exact tHT | exact tHS)
| (with_reducible first | apply opsF.nil | apply seqF.nn | apply vcF.seq | apply vcF.region | apply vcF.skip | apply vcF.ret | apply seqF.r)
| ((with_reducible apply opsF.call); case hx => exact tAG)
| ((with_reducible apply opsF.want); (case hg => exact tEV); case hb => exact tNB)
| ((with_reducible apply opsF.skip); (case hg => exact tEV); case hb => exact tNB)
| (first | ((with_reducible apply opsF.case); case hg => exact tEV) | ((with_reducible apply vcF.cond); case hx => exact tEV)) <;> ((intro hc; try simp only [Int.reduceLT, Int.reduceLE, Int.reduceEq, Int.reduceNe, Int.cast_ofNat_Int, Int.reduceNeg, reduceCtorEq, ne_eq, ge_iff_le, gt_iff_lt, beq_iff_eq, beq_eq_false_iff_ne, bne_iff_ne, bne_eq_false_iff_eq, nrm, *] at hc) <;> try (exfalso; omega))
| ((with_reducible apply opsF.und); case hg => rfl)
| ((with_reducible first | apply retF.r | apply retF.nn); case hv => exact tRS)
| ((refine Call.use (hsm _) ?_))
| ((refine Call.use (hans _) ?_))
| ((refine Call.use (hen _) ?_))
| ((refine Call.use (hgo _) ?_))
| ((refine Call.use (hde _ _) ?_))
| ((refine Call.use (htu _ _) ?_))
| ((refine Call.use (hsn _ _) ?_))
| ((refine Call.use (hsa _) ?_)))
            all_goals rfl
          | false =>
            rw [show fmtI false = 2 from rfl] at *
            unfold msgC at hsm hen hgo hde hsa ⊢
            generalize fmtM true m = A at *
            generalize fmtM false m = B at *
            repeat' (first
| ((with_reducible apply opsF.op rfl); case hs => first | exact tHT | exact tHS)
| (with_reducible first | apply opsF.nil | apply seqF.nn | apply vcF.seq | apply vcF.region | apply vcF.skip | apply vcF.ret | apply seqF.r)
| ((with_reducible apply opsF.call); case hx => exact tAG)
| ((with_reducible apply opsF.want); (case hg => exact tEV); case hb => exact tNB)
| ((with_reducible apply opsF.skip); (case hg => exact tEV); case hb => exact tNB)
| (first | ((with_reducible apply opsF.case); case hg => exact tEV) | ((with_reducible apply vcF.cond); case hx => exact tEV)) <;> ((intro hc; try simp only [Int.reduceLT, Int.reduceLE, Int.reduceEq, Int.reduceNe, Int.cast_ofNat_Int, Int.reduceNeg, reduceCtorEq, ne_eq, ge_iff_le, gt_iff_lt, beq_iff_eq, beq_eq_false_iff_ne, bne_iff_ne, bne_eq_false_iff_eq, nrm, *] at hc) <;> try (exfalso; omega))
| ((with_reducible apply opsF.und); case hg => rfl)
| ((with_reducible first | apply retF.r | apply retF.nn); case hv => exact tRS)
| ((refine Call.use (hsm _) ?_))
| ((refine Call.use (hans _) ?_))
| ((refine Call.use (hen _) ?_))
| ((refine Call.use (hgo _) ?_))
| ((refine Call.use (hde _ _) ?_))
| ((refine Call.use (htu _ _) ?_))
| ((refine Call.use (hsn _ _) ?_))
| ((refine Call.use (hsa _) ?_)))
            all_goals rfl
    · have n1 : ¬ fm = 1 := fun e => hf (.inl e)
      have n2 : ¬ fm = 2 := fun e => hf (.inr e)
      have hen := fun h => tencode_bad (w0 := W) m .no .no .no fm h n1 n2
      clear hf hs hmo
      unfold msgC at hsm hen ⊢
      repeat' (first
| ((with_reducible apply opsF.op rfl); case hs => first | exact tHT | exact tHS)
| (with_reducible first | apply opsF.nil | apply seqF.nn | apply vcF.seq | apply vcF.region | apply vcF.skip | apply vcF.ret | apply seqF.r)
| ((with_reducible apply opsF.call); case hx => exact tAG)
| ((with_reducible apply opsF.want); (case hg => exact tEV); case hb => exact tNB)
| ((with_reducible apply opsF.skip); (case hg => exact tEV); case hb => exact tNB)
| (first | ((with_reducible apply opsF.case); case hg => exact tEV) | ((with_reducible apply vcF.cond); case hx => exact tEV)) <;> ((intro hc; try simp only [Int.reduceLT, Int.reduceLE, Int.reduceEq, Int.reduceNe, Int.cast_ofNat_Int, Int.reduceNeg, reduceCtorEq, ne_eq, ge_iff_le, gt_iff_lt, beq_iff_eq, beq_eq_false_iff_ne, bne_iff_ne, bne_eq_false_iff_eq, nrm, *] at hc) <;> try (exfalso; omega))
| ((with_reducible apply opsF.und); case hg => rfl)
| ((with_reducible first | apply retF.r | apply retF.nn); case hv => exact tRS)
| ((refine Call.use (hsm _) ?_))
| ((refine Call.use (hans _) ?_))
| ((refine Call.use (hen _) ?_)))
      all_goals rfl
theorem law_TurnBoth (W : World) (hL : laidMetH P Go.Proofs.YtnpdmkbfphcioaaGreatDoor.Rows.turnBothRow.laid W) (x0 : MsgT.D) (h0 : MsgT.wf x0) (g0 : MsgT.fit 140737488351232 x0) (x1 : (Ty.int .i64).D) (h1 : (Ty.int .i64).wf x1) (g1 : (Ty.int .i64).fit 140737488351232 x1) (x2 : (Ty.int .i64).D) (h2 : (Ty.int .i64).wf x2) (g2 : (Ty.int .i64).fit 140737488351232 x2) :
    Call P W law13_TurnBoth [MsgT.val x0, (Ty.int .i64).val x1, (Ty.int .i64).val x2] AH.start fun v _ => v = .v (.bool true) := by
  obtain ⟨m, e0, hm⟩ := msg_ty x0 g0
  rw [e0]
  exact turnBoth_main W (powTab_of hL (by kernel_rfl)) (errVars_of hL (by kernel_rfl) (by kernel_rfl)) m hm x1 x2
end Go.Abs.F
