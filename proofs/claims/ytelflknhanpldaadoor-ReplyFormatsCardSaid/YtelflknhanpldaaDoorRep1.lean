/- Layer 4: a reply's line, read by the program and by the reference. -/
import Derived.Test.YtelflknhanpldaaDoorFn0
import Derived.Test.YtelflknhanpldaaDoorAbsY
namespace Go.Abs.F
open Go Go.Abs
set_option maxRecDepth 10000
set_option maxHeartbeats 20000000
set_option linter.unusedSimpArgs false
variable {w0 : World}
theorem code_call (n : Int) (h : AH) : Call P w0 reply_code [.v (.int .i64 n)] h (fun v h' => v = .v (.bool (decide (200 ≤ n ∧ n ≤ 599))) ∧ h' = h) := by
  refine Call.bodyF b_reply_code rfl rfl ?_
  unfold c_reply_code
  repeat' (first
    | ((with_reducible apply opsF.op rfl); (case hs => exact tHS))
    | with_reducible (first | apply opsF.nil | apply seqF.nn | apply vcF.seq | apply vcF.region | apply vcF.dregion | apply vcF.skip | apply vcF.block | apply vcF.exit | apply vcF.ret | apply vcF.loop | apply seqF.e | apply seqF.r | apply blkF.nn | apply blkF.e | apply blkF.r | apply blkF.o rfl | apply dopsF.nil | apply stabsF.nil | apply stabsF.cons)
    | ((with_reducible apply opsF.call); (case hx => exact tAG))
    | ((with_reducible apply opsF.want); (case hg => exact tEV); (case hb => exact tNB))
    | ((with_reducible apply opsF.skip); (case hg => exact tEV); (case hb => exact tNB))
    | (first | ((with_reducible apply opsF.case); (case hg => exact tEV)) | ((with_reducible apply vcF.cond); (case hx => exact tEV)) | ((with_reducible apply dopsF.case); (case hg => exact tEV))) <;> ((intro hc; try simp only [Int.reduceLT, Int.reduceLE, Int.reduceEq, Int.reduceNe, Int.cast_ofNat_Int, Int.reduceNeg, decide_true, decide_false, not_true_eq_false, not_false_eq_true, decide_eq_true_eq, decide_eq_false_iff_not, Bool.not_eq_true', Bool.not_eq_false', Bool.not_true, Bool.not_false, Bool.false_eq_true, Bool.true_eq_false, Bool.not_eq_true, Bool.not_eq_false, beq_iff_eq, beq_eq_false_iff_ne, bne_iff_ne, bne_eq_false_iff_eq, ne_eq, Int.not_lt, Int.not_le, ge_iff_le, gt_iff_lt, Decidable.not_not, reduceCtorEq, *] at hc) <;> (try (exfalso; omega)))
    | ((with_reducible apply opsF.und); (case hg => rfl))
    | ((with_reducible apply opsF.callv); (case hf => exact tEV); (case hx => exact tCV))
    | ((with_reducible apply dopsF.op rfl); (case hs => exact tHS))
    | ((with_reducible apply dopsF.call); (case hx => exact tAG))
    | ((with_reducible apply dopsF.want); (case hg => exact tEV); (case hb => exact tNB))
    | ((with_reducible apply dopsF.skip); (case hg => exact tEV); (case hb => exact tNB))
    | ((with_reducible apply dopsF.und); (case hg => rfl))
    | ((with_reducible apply stabF.und); rfl)
    | ((with_reducible apply stabF.want); (case hg => exact tEV); (case hb => exact tNB))
    | ((with_reducible apply stabF.skip); (case hg => exact tEV); (case hb => exact tNB))
    | ((with_reducible apply stabF.op); (case hs => exact tHS); (case hv => exact tSV))
    | ((with_reducible apply retF.r); (case hv => exact tRS))
    | ((with_reducible apply retF.nn); (case hv => exact tRS)))
  · simp [*]
  · have : ¬ 200 ≤ n := by omega
    simp [this]
theorem iatoi_call (a b c : UInt8) (ha : 48 ≤ (a.toNat : Int)) (ha' : (a.toNat : Int) ≤ 57) (hb : 48 ≤ (b.toNat : Int)) (hb' : (b.toNat : Int) ≤ 57) (hc : 48 ≤ (c.toNat : Int)) (hc' : (c.toNat : Int) ≤ 57) (h : AH) :
    Call P w0 i_strconv_Atoi [.v (.string (bs [a, b, c]))] h (fun v h' => v = .tup [.v (.int .i64 ((((a.toNat : Int) - 48) * 10 + ((b.toNat : Int) - 48)) * 10 + ((c.toNat : Int) - 48))), .v .nilIface] ∧ h' = h) := by
  refine Call.bodyF b_i_strconv_Atoi rfl rfl ?_
  unfold c_i_strconv_Atoi
  repeat' (first
    | ((with_reducible apply opsF.op rfl); (case hs => exact tHS))
    | with_reducible (first | apply opsF.nil | apply seqF.nn | apply vcF.seq | apply vcF.region | apply vcF.dregion | apply vcF.skip | apply vcF.block | apply vcF.exit | apply vcF.ret | apply vcF.loop | apply seqF.e | apply seqF.r | apply blkF.nn | apply blkF.e | apply blkF.r | apply blkF.o rfl | apply dopsF.nil | apply stabsF.nil | apply stabsF.cons)
    | ((with_reducible apply opsF.call); (case hx => exact tAG))
    | ((with_reducible apply opsF.want); (case hg => exact tEV); (case hb => exact tNB))
    | ((with_reducible apply opsF.skip); (case hg => exact tEV); (case hb => exact tNB))
    | (first | ((with_reducible apply opsF.case); (case hg => exact tEV)) | ((with_reducible apply vcF.cond); (case hx => exact tEV)) | ((with_reducible apply dopsF.case); (case hg => exact tEV))) <;> ((intro hc; try simp only [Int.reduceLT, Int.reduceLE, Int.reduceEq, Int.reduceNe, Int.cast_ofNat_Int, Int.reduceNeg, decide_true, decide_false, not_true_eq_false, not_false_eq_true, decide_eq_true_eq, decide_eq_false_iff_not, Bool.not_eq_true', Bool.not_eq_false', Bool.not_true, Bool.not_false, Bool.false_eq_true, Bool.true_eq_false, Bool.not_eq_true, Bool.not_eq_false, beq_iff_eq, beq_eq_false_iff_ne, bne_iff_ne, bne_eq_false_iff_eq, ne_eq, Int.not_lt, Int.not_le, ge_iff_le, gt_iff_lt, Decidable.not_not, reduceCtorEq, *] at hc) <;> (try (exfalso; omega)))
    | ((with_reducible apply opsF.und); (case hg => rfl))
    | ((with_reducible apply opsF.callv); (case hf => exact tEV); (case hx => exact tCV))
    | ((with_reducible apply dopsF.op rfl); (case hs => exact tHS))
    | ((with_reducible apply dopsF.call); (case hx => exact tAG))
    | ((with_reducible apply dopsF.want); (case hg => exact tEV); (case hb => exact tNB))
    | ((with_reducible apply dopsF.skip); (case hg => exact tEV); (case hb => exact tNB))
    | ((with_reducible apply dopsF.und); (case hg => rfl))
    | ((with_reducible apply stabF.und); rfl)
    | ((with_reducible apply stabF.want); (case hg => exact tEV); (case hb => exact tNB))
    | ((with_reducible apply stabF.skip); (case hg => exact tEV); (case hb => exact tNB))
    | ((with_reducible apply stabF.op); (case hs => exact tHS); (case hv => exact tSV))
    | ((with_reducible apply retF.r); (case hv => exact tRS))
    | ((with_reducible apply retF.nn); (case hv => exact tRS))
    | with_reducible apply LpF.unfold rfl)
  all_goals exact ⟨rfl, rfl⟩
theorem atoi_call (a b c : UInt8) (ha : 48 ≤ (a.toNat : Int)) (ha' : (a.toNat : Int) ≤ 57) (hb : 48 ≤ (b.toNat : Int)) (hb' : (b.toNat : Int) ≤ 57) (hc : 48 ≤ (c.toNat : Int)) (hc' : (c.toNat : Int) ≤ 57) (h : AH) :
    Call P w0 strconv_Atoi [.v (.string (bs [a, b, c]))] h (fun v h' => v = .tup [.v (.int .i64 ((((a.toNat : Int) - 48) * 10 + ((b.toNat : Int) - 48)) * 10 + ((c.toNat : Int) - 48))), .v .nilIface] ∧ h' = h) := by
  refine Call.bodyF b_strconv_Atoi rfl rfl ?_
  unfold c_strconv_Atoi
  repeat' (first
    | ((with_reducible apply opsF.op rfl); (case hs => exact tHS))
    | with_reducible (first | apply opsF.nil | apply seqF.nn | apply vcF.seq | apply vcF.region | apply vcF.dregion | apply vcF.skip | apply vcF.block | apply vcF.exit | apply vcF.ret | apply vcF.loop | apply seqF.e | apply seqF.r | apply blkF.nn | apply blkF.e | apply blkF.r | apply blkF.o rfl | apply dopsF.nil | apply stabsF.nil | apply stabsF.cons)
    | ((with_reducible apply opsF.call); (case hx => exact tAG))
    | ((with_reducible apply opsF.want); (case hg => exact tEV); (case hb => exact tNB))
    | ((with_reducible apply opsF.skip); (case hg => exact tEV); (case hb => exact tNB))
    | (first | ((with_reducible apply opsF.case); (case hg => exact tEV)) | ((with_reducible apply vcF.cond); (case hx => exact tEV)) | ((with_reducible apply dopsF.case); (case hg => exact tEV))) <;> ((intro hc; try simp only [Int.reduceLT, Int.reduceLE, Int.reduceEq, Int.reduceNe, Int.cast_ofNat_Int, Int.reduceNeg, decide_true, decide_false, not_true_eq_false, not_false_eq_true, decide_eq_true_eq, decide_eq_false_iff_not, Bool.not_eq_true', Bool.not_eq_false', Bool.not_true, Bool.not_false, Bool.false_eq_true, Bool.true_eq_false, Bool.not_eq_true, Bool.not_eq_false, beq_iff_eq, beq_eq_false_iff_ne, bne_iff_ne, bne_eq_false_iff_eq, ne_eq, Int.not_lt, Int.not_le, ge_iff_le, gt_iff_lt, Decidable.not_not, reduceCtorEq, *] at hc) <;> (try (exfalso; omega)))
    | ((with_reducible apply opsF.und); (case hg => rfl))
    | ((with_reducible apply opsF.callv); (case hf => exact tEV); (case hx => exact tCV))
    | ((with_reducible apply dopsF.op rfl); (case hs => exact tHS))
    | ((with_reducible apply dopsF.call); (case hx => exact tAG))
    | ((with_reducible apply dopsF.want); (case hg => exact tEV); (case hb => exact tNB))
    | ((with_reducible apply dopsF.skip); (case hg => exact tEV); (case hb => exact tNB))
    | ((with_reducible apply dopsF.und); (case hg => rfl))
    | ((with_reducible apply stabF.und); rfl)
    | ((with_reducible apply stabF.want); (case hg => exact tEV); (case hb => exact tNB))
    | ((with_reducible apply stabF.skip); (case hg => exact tEV); (case hb => exact tNB))
    | ((with_reducible apply stabF.op); (case hs => exact tHS); (case hv => exact tSV))
    | ((with_reducible apply retF.r); (case hv => exact tRS))
    | ((with_reducible apply retF.nn); (case hv => exact tRS)))
  refine (iatoi_call a b c ha ha' hb hb' hc hc' h).mono fun v h' hp => ?_
  obtain ⟨rfl, rfl⟩ := hp
  repeat' (first
    | ((with_reducible apply opsF.op rfl); (case hs => exact tHS))
    | with_reducible (first | apply opsF.nil | apply seqF.nn | apply vcF.seq | apply vcF.region | apply vcF.dregion | apply vcF.skip | apply vcF.block | apply vcF.exit | apply vcF.ret | apply vcF.loop | apply seqF.e | apply seqF.r | apply blkF.nn | apply blkF.e | apply blkF.r | apply blkF.o rfl | apply dopsF.nil | apply stabsF.nil | apply stabsF.cons)
    | ((with_reducible apply opsF.call); (case hx => exact tAG))
    | ((with_reducible apply opsF.want); (case hg => exact tEV); (case hb => exact tNB))
    | ((with_reducible apply opsF.skip); (case hg => exact tEV); (case hb => exact tNB))
    | (first | ((with_reducible apply opsF.case); (case hg => exact tEV)) | ((with_reducible apply vcF.cond); (case hx => exact tEV)) | ((with_reducible apply dopsF.case); (case hg => exact tEV))) <;> ((intro hc; try simp only [Int.reduceLT, Int.reduceLE, Int.reduceEq, Int.reduceNe, Int.cast_ofNat_Int, Int.reduceNeg, decide_true, decide_false, not_true_eq_false, not_false_eq_true, decide_eq_true_eq, decide_eq_false_iff_not, Bool.not_eq_true', Bool.not_eq_false', Bool.not_true, Bool.not_false, Bool.false_eq_true, Bool.true_eq_false, Bool.not_eq_true, Bool.not_eq_false, beq_iff_eq, beq_eq_false_iff_ne, bne_iff_ne, bne_eq_false_iff_eq, ne_eq, Int.not_lt, Int.not_le, ge_iff_le, gt_iff_lt, Decidable.not_not, reduceCtorEq, *] at hc) <;> (try (exfalso; omega)))
    | ((with_reducible apply opsF.und); (case hg => rfl))
    | ((with_reducible apply opsF.callv); (case hf => exact tEV); (case hx => exact tCV))
    | ((with_reducible apply dopsF.op rfl); (case hs => exact tHS))
    | ((with_reducible apply dopsF.call); (case hx => exact tAG))
    | ((with_reducible apply dopsF.want); (case hg => exact tEV); (case hb => exact tNB))
    | ((with_reducible apply dopsF.skip); (case hg => exact tEV); (case hb => exact tNB))
    | ((with_reducible apply dopsF.und); (case hg => rfl))
    | ((with_reducible apply stabF.und); rfl)
    | ((with_reducible apply stabF.want); (case hg => exact tEV); (case hb => exact tNB))
    | ((with_reducible apply stabF.skip); (case hg => exact tEV); (case hb => exact tNB))
    | ((with_reducible apply stabF.op); (case hs => exact tHS); (case hv => exact tSV))
    | ((with_reducible apply retF.r); (case hv => exact tRS))
    | ((with_reducible apply retF.nn); (case hv => exact tRS)))
  all_goals exact ⟨rfl, rfl⟩
def dig (b : UInt8) : Bool := decide (48 ≤ (b.toNat : Int)) && decide ((b.toNat : Int) ≤ 57)
def num3 (a b c : UInt8) : Int := (((a.toNat : Int) - 48) * 10 + ((b.toNat : Int) - 48)) * 10 + ((c.toNat : Int) - 48)
def oneS (k : Int) : List UInt8 → Option (Int × Bool × List UInt8)
  | a :: b :: c :: r => if k = 1 ∧ dig a ∧ dig b ∧ dig c ∧ 200 ≤ num3 a b c ∧ num3 a b c ≤ 599 then
      match r with
      | [] => some (num3 a b c, false, [])
      | x :: t => if (x.toNat : Int) = 32 then some (num3 a b c, false, t) else if (x.toNat : Int) = 45 then some (num3 a b c, true, t) else none
    else none
  | _ => none
def oneV : Option (Int × Bool × List UInt8) → AV
  | some (n, m, t) => .tup [.v (.int .i64 n), .v (.bool m), .v (.string (bs t)), .v (.bool true)]
  | none => .tup [.v (.int .i64 0), .v (.bool false), .v (.string (bs [])), .v (.bool false)]
theorem oneS_short {k : Int} {s : List UInt8} (h : (s.length : Int) < 3) : oneS k s = none := by
  match s, h with
  | [], _ | [_], _ | [_, _], _ => rfl
  | a :: b :: c :: r, h => simp at h; omega
theorem oneS_kind {k : Int} {s : List UInt8} (h : ¬ k = 1) : oneS k s = none := by
  match s with
  | [] | [_] | [_, _] => rfl
  | a :: b :: c :: r => simp [oneS, h]
def SplitP (k : Int) (s : List UInt8) (v : AV) : Prop := match oneS k s with
  | some (n, m, t) => v = .tup [.v (.int .i64 n), .v (.bool m), .v (.string (bs t)), .v (.bool true)]
  | none => ∃ n m t, v = .tup [.v (.int .i64 n), .v (.bool m), .v (.string (bs t)), .v (.bool false)]
theorem SplitP_bad {k : Int} {s : List UInt8} (h : oneS k s = none) {n : Int} {m : Bool} {t : List UInt8} : SplitP k s (.tup [.v (.int .i64 n), .v (.bool m), .v (.string (bs t)), .v (.bool false)]) := by
  simp only [SplitP, h]; exact ⟨_, _, _, rfl⟩
theorem SplitP_ok {k : Int} {s : List UInt8} {n : Int} {m : Bool} {t : List UInt8} (h : oneS k s = some (n, m, t)) : SplitP k s (.tup [.v (.int .i64 n), .v (.bool m), .v (.string (bs t)), .v (.bool true)]) := by
  simp only [SplitP, h]
theorem split_call (k : Int) (s : List UInt8) (h : AH) (hlen : s.length ≤ 9000000000000000000) : Call P w0 reply_split [.agg [.v (.int .i64 k), .v (.string (bs s))]] h (fun v h' => SplitP k s v ∧ Ext h h') := by
  by_cases hk : k = 1 ∧ 3 ≤ s.length
  · obtain ⟨rfl, hl⟩ := hk
    match s, hl with
    | [a, b, c], _ =>
      clear hl
      refine Call.bodyF b_reply_split rfl rfl ?_
      unfold c_reply_split
      repeat' (first
    | ((with_reducible apply opsF.op rfl); (case hs => exact tHS))
    | with_reducible (first | apply opsF.nil | apply seqF.nn | apply vcF.seq | apply vcF.region | apply vcF.dregion | apply vcF.skip | apply vcF.block | apply vcF.exit | apply vcF.ret | apply vcF.loop | apply seqF.e | apply seqF.r | apply blkF.nn | apply blkF.e | apply blkF.r | apply blkF.o rfl | apply dopsF.nil | apply stabsF.nil | apply stabsF.cons)
    | ((with_reducible apply opsF.call); (case hx => exact tAG))
    | ((with_reducible apply opsF.want); (case hg => exact tEV); (case hb => exact tNB))
    | ((with_reducible apply opsF.skip); (case hg => exact tEV); (case hb => exact tNB))
    | (first | ((with_reducible apply opsF.case); (case hg => exact tEV)) | ((with_reducible apply vcF.cond); (case hx => exact tEV)) | ((with_reducible apply dopsF.case); (case hg => exact tEV))) <;> ((intro hc; try simp only [Int.reduceLT, Int.reduceLE, Int.reduceEq, Int.reduceNe, Int.cast_ofNat_Int, Int.reduceNeg, decide_true, decide_false, not_true_eq_false, not_false_eq_true, decide_eq_true_eq, decide_eq_false_iff_not, Bool.not_eq_true', Bool.not_eq_false', Bool.not_true, Bool.not_false, Bool.false_eq_true, Bool.true_eq_false, Bool.not_eq_true, Bool.not_eq_false, beq_iff_eq, beq_eq_false_iff_ne, bne_iff_ne, bne_eq_false_iff_eq, ne_eq, Int.not_lt, Int.not_le, ge_iff_le, gt_iff_lt, Decidable.not_not, reduceCtorEq, *] at hc) <;> (try (exfalso; omega)))
    | ((with_reducible apply opsF.und); (case hg => rfl))
    | ((with_reducible apply opsF.callv); (case hf => exact tEV); (case hx => exact tCV))
    | ((with_reducible apply dopsF.op rfl); (case hs => exact tHS))
    | ((with_reducible apply dopsF.call); (case hx => exact tAG))
    | ((with_reducible apply dopsF.want); (case hg => exact tEV); (case hb => exact tNB))
    | ((with_reducible apply dopsF.skip); (case hg => exact tEV); (case hb => exact tNB))
    | ((with_reducible apply dopsF.und); (case hg => rfl))
    | ((with_reducible apply stabF.und); rfl)
    | ((with_reducible apply stabF.want); (case hg => exact tEV); (case hb => exact tNB))
    | ((with_reducible apply stabF.skip); (case hg => exact tEV); (case hb => exact tNB))
    | ((with_reducible apply stabF.op); (case hs => exact tHS); (case hv => exact tSV))
    | ((with_reducible apply retF.r); (case hv => exact tRS))
    | ((with_reducible apply retF.nn); (case hv => exact tRS))
    | with_reducible apply LpF.unfold rfl
    | (refine (atoi_call a b c (by assumption) (by assumption) (by assumption) (by assumption) (by assumption) (by assumption) _).mono fun v h' hp => ?_; obtain ⟨rfl, rfl⟩ := hp)
    | (refine (code_call _ _).mono fun v h' hp => ?_; obtain ⟨rfl, rfl⟩ := hp))
      all_goals refine ⟨?_, by exact Ext.alloc _ _⟩
      all_goals first
        | exact SplitP_bad (by simp (disch := omega) only [oneS, dig, num3, Bool.and_eq_true, decide_eq_true_eq, eq_self, true_and, if_pos, if_neg])
        | (by_cases hq : 200 ≤ (((a.toNat : Int) - 48) * 10 + ((b.toNat : Int) - 48)) * 10 + ((c.toNat : Int) - 48) ∧ (((a.toNat : Int) - 48) * 10 + ((b.toNat : Int) - 48)) * 10 + ((c.toNat : Int) - 48) ≤ 599
           · rw [decide_eq_true hq]
             exact SplitP_ok (by simp (disch := omega) only [oneS, dig, num3, Bool.and_eq_true, decide_eq_true_eq, eq_self, true_and, if_pos, if_neg])
           · rw [decide_eq_false hq]
             exact SplitP_bad (by simp (disch := omega) only [oneS, dig, num3, Bool.and_eq_true, decide_eq_true_eq, eq_self, true_and, if_pos, if_neg]))
    | a :: b :: c :: x :: r, _ =>
      clear hl
      refine Call.bodyF b_reply_split rfl rfl ?_
      unfold c_reply_split
      repeat' (first
    | ((with_reducible apply opsF.op rfl); (case hs => exact tHS))
    | with_reducible (first | apply opsF.nil | apply seqF.nn | apply vcF.seq | apply vcF.region | apply vcF.dregion | apply vcF.skip | apply vcF.block | apply vcF.exit | apply vcF.ret | apply vcF.loop | apply seqF.e | apply seqF.r | apply blkF.nn | apply blkF.e | apply blkF.r | apply blkF.o rfl | apply dopsF.nil | apply stabsF.nil | apply stabsF.cons)
    | ((with_reducible apply opsF.call); (case hx => exact tAG))
    | ((with_reducible apply opsF.want); (case hg => exact tEV); (case hb => exact tNB))
    | ((with_reducible apply opsF.skip); (case hg => exact tEV); (case hb => exact tNB))
    | (first | ((with_reducible apply opsF.case); (case hg => exact tEV)) | ((with_reducible apply vcF.cond); (case hx => exact tEV)) | ((with_reducible apply dopsF.case); (case hg => exact tEV))) <;> ((intro hc; try simp only [Int.reduceLT, Int.reduceLE, Int.reduceEq, Int.reduceNe, Int.cast_ofNat_Int, Int.reduceNeg, decide_true, decide_false, not_true_eq_false, not_false_eq_true, decide_eq_true_eq, decide_eq_false_iff_not, Bool.not_eq_true', Bool.not_eq_false', Bool.not_true, Bool.not_false, Bool.false_eq_true, Bool.true_eq_false, Bool.not_eq_true, Bool.not_eq_false, beq_iff_eq, beq_eq_false_iff_ne, bne_iff_ne, bne_eq_false_iff_eq, ne_eq, Int.not_lt, Int.not_le, ge_iff_le, gt_iff_lt, Decidable.not_not, reduceCtorEq, *] at hc) <;> (try (exfalso; omega)))
    | ((with_reducible apply opsF.und); (case hg => rfl))
    | ((with_reducible apply opsF.callv); (case hf => exact tEV); (case hx => exact tCV))
    | ((with_reducible apply dopsF.op rfl); (case hs => exact tHS))
    | ((with_reducible apply dopsF.call); (case hx => exact tAG))
    | ((with_reducible apply dopsF.want); (case hg => exact tEV); (case hb => exact tNB))
    | ((with_reducible apply dopsF.skip); (case hg => exact tEV); (case hb => exact tNB))
    | ((with_reducible apply dopsF.und); (case hg => rfl))
    | ((with_reducible apply stabF.und); rfl)
    | ((with_reducible apply stabF.want); (case hg => exact tEV); (case hb => exact tNB))
    | ((with_reducible apply stabF.skip); (case hg => exact tEV); (case hb => exact tNB))
    | ((with_reducible apply stabF.op); (case hs => exact tHS); (case hv => exact tSV))
    | ((with_reducible apply retF.r); (case hv => exact tRS))
    | ((with_reducible apply retF.nn); (case hv => exact tRS))
    | with_reducible apply LpF.unfold rfl
    | (refine (atoi_call a b c (by assumption) (by assumption) (by assumption) (by assumption) (by assumption) (by assumption) _).mono fun v h' hp => ?_; obtain ⟨rfl, rfl⟩ := hp)
    | (refine (code_call _ _).mono fun v h' hp => ?_; obtain ⟨rfl, rfl⟩ := hp))
      all_goals refine ⟨?_, by exact Ext.alloc _ _⟩
      all_goals try simp only [List.drop_succ_cons, List.drop_zero, List.take_length]
      all_goals first
        | exact SplitP_bad (by simp (disch := omega) only [oneS, dig, num3, Bool.and_eq_true, decide_eq_true_eq, eq_self, true_and, if_pos, if_neg, Int.reduceEq, decide_false, decide_true])
        | (by_cases hx : (x.toNat : Int) = 45
           · first
               | (exfalso; omega)
               | ((try simp only [hx, decide_true])
                  exact SplitP_ok (by simp (disch := omega) only [oneS, dig, num3, Bool.and_eq_true, decide_eq_true_eq, eq_self, true_and, if_pos, if_neg, Int.reduceEq, decide_false, decide_true]))
           · try simp only [hx, decide_false]
             first
               | exact SplitP_bad (by simp (disch := omega) only [oneS, dig, num3, Bool.and_eq_true, decide_eq_true_eq, eq_self, true_and, if_pos, if_neg, Int.reduceEq, decide_false, decide_true])
               | exact SplitP_ok (by simp (disch := omega) only [oneS, dig, num3, Bool.and_eq_true, decide_eq_true_eq, eq_self, true_and, if_pos, if_neg, Int.reduceEq, decide_false, decide_true]))
  · have hn : oneS k s = none := by
      by_cases h1 : k = 1
      · exact oneS_short (by omega)
      · exact oneS_kind h1
    refine Call.bodyF b_reply_split rfl rfl ?_
    unfold c_reply_split
    repeat' (first
    | ((with_reducible apply opsF.op rfl); (case hs => exact tHS))
    | with_reducible (first | apply opsF.nil | apply seqF.nn | apply vcF.seq | apply vcF.region | apply vcF.dregion | apply vcF.skip | apply vcF.block | apply vcF.exit | apply vcF.ret | apply vcF.loop | apply seqF.e | apply seqF.r | apply blkF.nn | apply blkF.e | apply blkF.r | apply blkF.o rfl | apply dopsF.nil | apply stabsF.nil | apply stabsF.cons)
    | ((with_reducible apply opsF.call); (case hx => exact tAG))
    | ((with_reducible apply opsF.want); (case hg => exact tEV); (case hb => exact tNB))
    | ((with_reducible apply opsF.skip); (case hg => exact tEV); (case hb => exact tNB))
    | (first | ((with_reducible apply opsF.case); (case hg => exact tEV)) | ((with_reducible apply vcF.cond); (case hx => exact tEV)) | ((with_reducible apply dopsF.case); (case hg => exact tEV))) <;> ((intro hc; try simp only [Int.reduceLT, Int.reduceLE, Int.reduceEq, Int.reduceNe, Int.cast_ofNat_Int, Int.reduceNeg, decide_true, decide_false, not_true_eq_false, not_false_eq_true, decide_eq_true_eq, decide_eq_false_iff_not, Bool.not_eq_true', Bool.not_eq_false', Bool.not_true, Bool.not_false, Bool.false_eq_true, Bool.true_eq_false, Bool.not_eq_true, Bool.not_eq_false, beq_iff_eq, beq_eq_false_iff_ne, bne_iff_ne, bne_eq_false_iff_eq, ne_eq, Int.not_lt, Int.not_le, ge_iff_le, gt_iff_lt, Decidable.not_not, reduceCtorEq, *] at hc) <;> (try (exfalso; omega)))
    | ((with_reducible apply opsF.und); (case hg => rfl))
    | ((with_reducible apply opsF.callv); (case hf => exact tEV); (case hx => exact tCV))
    | ((with_reducible apply dopsF.op rfl); (case hs => exact tHS))
    | ((with_reducible apply dopsF.call); (case hx => exact tAG))
    | ((with_reducible apply dopsF.want); (case hg => exact tEV); (case hb => exact tNB))
    | ((with_reducible apply dopsF.skip); (case hg => exact tEV); (case hb => exact tNB))
    | ((with_reducible apply dopsF.und); (case hg => rfl))
    | ((with_reducible apply stabF.und); rfl)
    | ((with_reducible apply stabF.want); (case hg => exact tEV); (case hb => exact tNB))
    | ((with_reducible apply stabF.skip); (case hg => exact tEV); (case hb => exact tNB))
    | ((with_reducible apply stabF.op); (case hs => exact tHS); (case hv => exact tSV))
    | ((with_reducible apply retF.r); (case hv => exact tRS))
    | ((with_reducible apply retF.nn); (case hv => exact tRS)))
    all_goals refine ⟨?_, by exact Ext.alloc _ _⟩
    all_goals (simp only [SplitP, hn]; exact ⟨_, _, _, rfl⟩)
end Go.Abs.F
