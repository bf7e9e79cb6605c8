/- Layer 11: which messages may be. -/
import Derived.Test.YtnpdmkbfphcioaaGreatDoorAdrB
import Derived.Test.YtnpdmkbfphcioaaGreatDoorEvA
import Derived.Test.YtnpdmkbfphcioaaGreatDoorFn2
namespace Go.Abs.F
open Go Go.Abs
set_option maxRecDepth 10000
set_option maxHeartbeats 20000000
set_option linter.unusedSimpArgs false
set_option linter.unusedVariables false
variable {w0 : World}
theorem Call.pure {f : FuncId} {args : List AV} {h : AH} {x : AV} (hp : Plain x) (hc : Call P w0 f args h fun v h' => v = x ∧ Ext h h') : Call P w0 f args h fun v h' => v = x ∧ h' = h :=
  Call.gc (Q' := fun v => v = x) hc fun v h' hq => ⟨hq.1 ▸ hp, hq.2, hq.1⟩
theorem optV_plain (o : Option (List UInt8)) : Plain (optV o) := by
  cases o with
  | none => exact .tupv fun x hx => by simp at hx; rcases hx with rfl | rfl <;> exact .v _
  | some c => exact .tupv fun x hx => by simp at hx; rcases hx with rfl | rfl <;> exact .v _
theorem canon_p (s : List UInt8) (h : AH) (hl : s.length ≤ 1000000000) : Call P w0 addr_Canon [.v (.string (bs s))] h (fun v h' => v = optV (canonO s) ∧ h' = h) := Call.pure (optV_plain _) (canon_call s h hl)
theorem rcanon_p (s : List UInt8) (h : AH) (hl : s.length ≤ 1000000000) : Call P w0 ref01_Canon [.v (.string (bs s))] h (fun v h' => v = optV (canonO s) ∧ h' = h) := Call.pure (optV_plain _) (rcanon_call s h (by omega))
theorem mbox_call (s : L8) (h : AH) (hl : s.length ≤ 1000000000) : Call P w0 env_mailbox [.v (.string (bs s))] h (fun v h' => v = .v (.bool (mbS s)) ∧ h' = h) := by
  have hc := fun h => canon_p (w0 := w0) s h hl
  refine Call.bodyF b_env_mailbox rfl rfl ?_
  unfold c_env_mailbox
  rw [mbS]
  cases hq : canonO s with
  | none =>
    rw [hq] at hc
    unfold optV at hc
    repeat' (first
    | ((with_reducible apply opsF.op rfl); (case hs => (first | exact tHT | exact tHS)))
    | with_reducible (first | apply opsF.nil | apply seqF.nn | apply vcF.seq | apply vcF.region | apply vcF.skip | apply vcF.ret | apply seqF.r)
    | ((with_reducible apply opsF.call); (case hx => exact tAG))
    | ((with_reducible apply opsF.want); (case hg => exact tEV); (case hb => exact tNB))
    | ((with_reducible apply opsF.skip); (case hg => exact tEV); (case hb => exact tNB))
    | (first | ((with_reducible apply opsF.case); (case hg => exact tEV)) | ((with_reducible apply vcF.cond); (case hx => exact tEV))) <;> ((intro hc; try simp only [Int.reduceLT, Int.reduceLE, Int.reduceEq, Int.reduceNe, Int.cast_ofNat_Int, Int.reduceNeg, decide_true, decide_false, not_true_eq_false, not_false_eq_true, decide_eq_true_eq, decide_eq_false_iff_not, Bool.not_eq_true', Bool.not_eq_false', Bool.not_true, Bool.not_false, Bool.false_eq_true, Bool.true_eq_false, Bool.not_eq_true, Bool.not_eq_false, beq_iff_eq, beq_eq_false_iff_ne, bne_iff_ne, bne_eq_false_iff_eq, ne_eq, Int.not_lt, Int.not_le, ge_iff_le, gt_iff_lt, Decidable.not_not, reduceCtorEq, *] at hc) <;> (try (exfalso; omega)))
    | ((with_reducible apply opsF.und); (case hg => rfl))
    | ((with_reducible apply retF.r); (case hv => exact tRS))
    | ((with_reducible apply retF.nn); (case hv => exact tRS))
    | ((refine Call.use (hc _) ?_)))
    all_goals first | rfl | (simp; done)
  | some c =>
    rw [hq] at hc
    unfold optV at hc
    repeat' (first
    | ((with_reducible apply opsF.op rfl); (case hs => (first | exact tHT | exact tHS)))
    | with_reducible (first | apply opsF.nil | apply seqF.nn | apply vcF.seq | apply vcF.region | apply vcF.skip | apply vcF.ret | apply seqF.r)
    | ((with_reducible apply opsF.call); (case hx => exact tAG))
    | ((with_reducible apply opsF.want); (case hg => exact tEV); (case hb => exact tNB))
    | ((with_reducible apply opsF.skip); (case hg => exact tEV); (case hb => exact tNB))
    | (first | ((with_reducible apply opsF.case); (case hg => exact tEV)) | ((with_reducible apply vcF.cond); (case hx => exact tEV))) <;> ((intro hc; try simp only [Int.reduceLT, Int.reduceLE, Int.reduceEq, Int.reduceNe, Int.cast_ofNat_Int, Int.reduceNeg, decide_true, decide_false, not_true_eq_false, not_false_eq_true, decide_eq_true_eq, decide_eq_false_iff_not, Bool.not_eq_true', Bool.not_eq_false', Bool.not_true, Bool.not_false, Bool.false_eq_true, Bool.true_eq_false, Bool.not_eq_true, Bool.not_eq_false, beq_iff_eq, beq_eq_false_iff_ne, bne_iff_ne, bne_eq_false_iff_eq, ne_eq, Int.not_lt, Int.not_le, ge_iff_le, gt_iff_lt, Decidable.not_not, reduceCtorEq, *] at hc) <;> (try (exfalso; omega)))
    | ((with_reducible apply opsF.und); (case hg => rfl))
    | ((with_reducible apply retF.r); (case hv => exact tRS))
    | ((with_reducible apply retF.nn); (case hv => exact tRS))
    | ((refine Call.use (hc _) ?_)))
    all_goals first | rfl | (simp; done) | (simp [*]; done)
theorem rmbox_call (s : L8) (h : AH) (hl : s.length ≤ 1000000000) : Call P w0 ref08_mailbox [.v (.string (bs s))] h (fun v h' => v = .v (.bool (mbS s)) ∧ h' = h) := by
  have hc := fun h => rcanon_p (w0 := w0) s h hl
  refine Call.bodyF b_ref08_mailbox rfl rfl ?_
  unfold c_ref08_mailbox
  rw [mbS]
  cases hq : canonO s with
  | none =>
    rw [hq] at hc
    unfold optV at hc
    repeat' (first
    | ((with_reducible apply opsF.op rfl); (case hs => (first | exact tHT | exact tHS)))
    | with_reducible (first | apply opsF.nil | apply seqF.nn | apply vcF.seq | apply vcF.region | apply vcF.skip | apply vcF.ret | apply seqF.r)
    | ((with_reducible apply opsF.call); (case hx => exact tAG))
    | ((with_reducible apply opsF.want); (case hg => exact tEV); (case hb => exact tNB))
    | ((with_reducible apply opsF.skip); (case hg => exact tEV); (case hb => exact tNB))
    | (first | ((with_reducible apply opsF.case); (case hg => exact tEV)) | ((with_reducible apply vcF.cond); (case hx => exact tEV))) <;> ((intro hc; try simp only [Int.reduceLT, Int.reduceLE, Int.reduceEq, Int.reduceNe, Int.cast_ofNat_Int, Int.reduceNeg, decide_true, decide_false, not_true_eq_false, not_false_eq_true, decide_eq_true_eq, decide_eq_false_iff_not, Bool.not_eq_true', Bool.not_eq_false', Bool.not_true, Bool.not_false, Bool.false_eq_true, Bool.true_eq_false, Bool.not_eq_true, Bool.not_eq_false, beq_iff_eq, beq_eq_false_iff_ne, bne_iff_ne, bne_eq_false_iff_eq, ne_eq, Int.not_lt, Int.not_le, ge_iff_le, gt_iff_lt, Decidable.not_not, reduceCtorEq, *] at hc) <;> (try (exfalso; omega)))
    | ((with_reducible apply opsF.und); (case hg => rfl))
    | ((with_reducible apply retF.r); (case hv => exact tRS))
    | ((with_reducible apply retF.nn); (case hv => exact tRS))
    | ((refine Call.use (hc _) ?_)))
    all_goals first | rfl | (simp; done)
  | some c =>
    rw [hq] at hc
    unfold optV at hc
    repeat' (first
    | ((with_reducible apply opsF.op rfl); (case hs => (first | exact tHT | exact tHS)))
    | with_reducible (first | apply opsF.nil | apply seqF.nn | apply vcF.seq | apply vcF.region | apply vcF.skip | apply vcF.ret | apply seqF.r)
    | ((with_reducible apply opsF.call); (case hx => exact tAG))
    | ((with_reducible apply opsF.want); (case hg => exact tEV); (case hb => exact tNB))
    | ((with_reducible apply opsF.skip); (case hg => exact tEV); (case hb => exact tNB))
    | (first | ((with_reducible apply opsF.case); (case hg => exact tEV)) | ((with_reducible apply vcF.cond); (case hx => exact tEV))) <;> ((intro hc; try simp only [Int.reduceLT, Int.reduceLE, Int.reduceEq, Int.reduceNe, Int.cast_ofNat_Int, Int.reduceNeg, decide_true, decide_false, not_true_eq_false, not_false_eq_true, decide_eq_true_eq, decide_eq_false_iff_not, Bool.not_eq_true', Bool.not_eq_false', Bool.not_true, Bool.not_false, Bool.false_eq_true, Bool.true_eq_false, Bool.not_eq_true, Bool.not_eq_false, beq_iff_eq, beq_eq_false_iff_ne, bne_iff_ne, bne_eq_false_iff_eq, ne_eq, Int.not_lt, Int.not_le, ge_iff_le, gt_iff_lt, Decidable.not_not, reduceCtorEq, *] at hc) <;> (try (exfalso; omega)))
    | ((with_reducible apply opsF.und); (case hg => rfl))
    | ((with_reducible apply retF.r); (case hv => exact tRS))
    | ((with_reducible apply retF.nn); (case hv => exact tRS))
    | ((refine Call.use (hc _) ?_)))
    all_goals first | rfl | (simp; done) | (simp [*]; done)
theorem time_call (n : Int) (h : AH) : Call P w0 env_time [.v (.int .i64 n)] h (fun v h' => v = .v (.bool (timeS n)) ∧ h' = h) := by
  refine Call.bodyF b_env_time rfl rfl ?_
  unfold c_env_time
  repeat' (first
    | ((with_reducible apply opsF.op rfl); (case hs => (first | exact tHT | exact tHS)))
    | with_reducible (first | apply opsF.nil | apply seqF.nn | apply vcF.seq | apply vcF.region | apply vcF.skip | apply vcF.ret | apply seqF.r)
    | ((with_reducible apply opsF.call); (case hx => exact tAG))
    | ((with_reducible apply opsF.want); (case hg => exact tEV); (case hb => exact tNB))
    | ((with_reducible apply opsF.skip); (case hg => exact tEV); (case hb => exact tNB))
    | (first | ((with_reducible apply opsF.case); (case hg => exact tEV)) | ((with_reducible apply vcF.cond); (case hx => exact tEV))) <;> ((intro hc; try simp only [Int.reduceLT, Int.reduceLE, Int.reduceEq, Int.reduceNe, Int.cast_ofNat_Int, Int.reduceNeg, decide_true, decide_false, not_true_eq_false, not_false_eq_true, decide_eq_true_eq, decide_eq_false_iff_not, Bool.not_eq_true', Bool.not_eq_false', Bool.not_true, Bool.not_false, Bool.false_eq_true, Bool.true_eq_false, Bool.not_eq_true, Bool.not_eq_false, beq_iff_eq, beq_eq_false_iff_ne, bne_iff_ne, bne_eq_false_iff_eq, ne_eq, Int.not_lt, Int.not_le, ge_iff_le, gt_iff_lt, Decidable.not_not, reduceCtorEq, *] at hc) <;> (try (exfalso; omega)))
    | ((with_reducible apply opsF.und); (case hg => rfl))
    | ((with_reducible apply retF.r); (case hv => exact tRS))
    | ((with_reducible apply retF.nn); (case hv => exact tRS)))
  all_goals (simp [timeS]; try omega)
theorem odd_call (n : Int) (h : AH) : Call P w0 env_Good_1 [.v (.int .i64 n)] h (fun v h' => v = .v (.bool (!markS n)) ∧ h' = h) := by
  refine Call.bodyF b_env_Good_1 rfl rfl ?_
  unfold c_env_Good_1
  repeat' (first
    | ((with_reducible apply opsF.op rfl); (case hs => (first | exact tHT | exact tHS)))
    | with_reducible (first | apply opsF.nil | apply seqF.nn | apply vcF.seq | apply vcF.region | apply vcF.skip | apply vcF.ret | apply seqF.r)
    | ((with_reducible apply opsF.call); (case hx => exact tAG))
    | ((with_reducible apply opsF.want); (case hg => exact tEV); (case hb => exact tNB))
    | ((with_reducible apply opsF.skip); (case hg => exact tEV); (case hb => exact tNB))
    | (first | ((with_reducible apply opsF.case); (case hg => exact tEV)) | ((with_reducible apply vcF.cond); (case hx => exact tEV))) <;> ((intro hc; try simp only [Int.reduceLT, Int.reduceLE, Int.reduceEq, Int.reduceNe, Int.cast_ofNat_Int, Int.reduceNeg, decide_true, decide_false, not_true_eq_false, not_false_eq_true, decide_eq_true_eq, decide_eq_false_iff_not, Bool.not_eq_true', Bool.not_eq_false', Bool.not_true, Bool.not_false, Bool.false_eq_true, Bool.true_eq_false, Bool.not_eq_true, Bool.not_eq_false, beq_iff_eq, beq_eq_false_iff_ne, bne_iff_ne, bne_eq_false_iff_eq, ne_eq, Int.not_lt, Int.not_le, ge_iff_le, gt_iff_lt, Decidable.not_not, reduceCtorEq, *] at hc) <;> (try (exfalso; omega)))
    | ((with_reducible apply opsF.und); (case hg => rfl))
    | ((with_reducible apply retF.r); (case hv => exact tRS))
    | ((with_reducible apply retF.nn); (case hv => exact tRS)))
  all_goals first
    | (simp [markS]; done)
    | (simp [markS]; omega)
    | (simp only [markS, and_true]; apply bool_iff; simp only [Bool.not_eq_true', Bool.and_eq_false_iff, decide_eq_true_eq, decide_eq_false_iff_not]; omega)
theorem ntime_call (n : Int) (h : AH) : Call P w0 env_Good_2 [.v (.int .i64 n)] h (fun v h' => v = .v (.bool (!timeS n)) ∧ h' = h) := by
  have hc := fun h => time_call (w0 := w0) n h
  refine Call.bodyF b_env_Good_2 rfl rfl ?_
  unfold c_env_Good_2
  repeat' (first
    | ((with_reducible apply opsF.op rfl); (case hs => (first | exact tHT | exact tHS)))
    | with_reducible (first | apply opsF.nil | apply seqF.nn | apply vcF.seq | apply vcF.region | apply vcF.skip | apply vcF.ret | apply seqF.r)
    | ((with_reducible apply opsF.call); (case hx => exact tAG))
    | (first | ((with_reducible apply vcF.cond); (case hx => exact tEV))) <;> ((intro hc; try simp only [Int.reduceLT, Int.reduceLE, Int.reduceEq, Int.reduceNe, Int.cast_ofNat_Int, Int.reduceNeg, decide_true, decide_false, not_true_eq_false, not_false_eq_true, decide_eq_true_eq, decide_eq_false_iff_not, Bool.not_eq_true', Bool.not_eq_false', Bool.not_true, Bool.not_false, Bool.false_eq_true, Bool.true_eq_false, Bool.not_eq_true, Bool.not_eq_false, beq_iff_eq, beq_eq_false_iff_ne, bne_iff_ne, bne_eq_false_iff_eq, ne_eq, Int.not_lt, Int.not_le, ge_iff_le, gt_iff_lt, Decidable.not_not, reduceCtorEq, *] at hc) <;> (try (exfalso; omega)))
    | ((with_reducible apply retF.r); (case hv => exact tRS))
    | ((with_reducible apply retF.nn); (case hv => exact tRS))
    | ((refine Call.use (hc _) ?_)))
  all_goals first | rfl | (simp; done)
theorem nmbox_call (s : L8) (h : AH) (hl : s.length ≤ 1000000000) : Call P w0 env_Good_3 [.v (.string (bs s))] h (fun v h' => v = .v (.bool (!mbS s)) ∧ h' = h) := by
  have hc := fun h => mbox_call (w0 := w0) s h hl
  refine Call.bodyF b_env_Good_3 rfl rfl ?_
  unfold c_env_Good_3
  repeat' (first
    | ((with_reducible apply opsF.op rfl); (case hs => (first | exact tHT | exact tHS)))
    | with_reducible (first | apply opsF.nil | apply seqF.nn | apply vcF.seq | apply vcF.region | apply vcF.skip | apply vcF.ret | apply seqF.r)
    | ((with_reducible apply opsF.call); (case hx => exact tAG))
    | (first | ((with_reducible apply vcF.cond); (case hx => exact tEV))) <;> ((intro hc; try simp only [Int.reduceLT, Int.reduceLE, Int.reduceEq, Int.reduceNe, Int.cast_ofNat_Int, Int.reduceNeg, decide_true, decide_false, not_true_eq_false, not_false_eq_true, decide_eq_true_eq, decide_eq_false_iff_not, Bool.not_eq_true', Bool.not_eq_false', Bool.not_true, Bool.not_false, Bool.false_eq_true, Bool.true_eq_false, Bool.not_eq_true, Bool.not_eq_false, beq_iff_eq, beq_eq_false_iff_ne, bne_iff_ne, bne_eq_false_iff_eq, ne_eq, Int.not_lt, Int.not_le, ge_iff_le, gt_iff_lt, Decidable.not_not, reduceCtorEq, *] at hc) <;> (try (exfalso; omega)))
    | ((with_reducible apply retF.r); (case hv => exact tRS))
    | ((with_reducible apply retF.nn); (case hv => exact tRS))
    | ((refine Call.use (hc _) ?_)))
  all_goals first | rfl | (simp; done)
def irows (l : List Int) : List (List AV) := l.map fun n => [.v (.int .i64 n)]
theorem irows_len (l : List Int) : (irows l).length = l.length := by simp [irows]
theorem irows_get (l : List Int) (i : Nat) : (irows l)[i]? = (l[i]?).map fun n => [.v (.int .i64 n)] := by simp [irows]
theorem idxi_call (fn : FuncId) (p : Int → Bool) (l : List Int) (tok : Tok) (hp : ∀ s, ∀ h, Call P w0 fn [.v (.int .i64 s)] h fun v h' => v = .v (.bool (p s)) ∧ h' = h) (h : AH) (hl : l.length ≤ 1000000000000) :
    Call P w0 slices_IndexFunc_int_int [.list 1 (irows l) tok, .func (.func fn) [] []] h (fun v h' => (∃ n : Int, v = .v (.int .i64 n) ∧ decide (0 ≤ n) = l.any p) ∧ h' = h) := by
  have xl := irows_len
  have xg := irows_get
  refine Call.bodyF b_slices_IndexFunc_int_int rfl rfl ?_
  unfold c_slices_IndexFunc_int_int
  repeat' (first
    | ((with_reducible apply opsF.op rfl); (case hs => (first | exact tHT | exact tHS)))
    | with_reducible (first | apply opsF.nil | apply seqF.nn | apply vcF.seq | apply vcF.region | apply vcF.skip | apply vcF.block | apply vcF.exit | apply vcF.ret | apply vcF.loop | apply seqF.e | apply seqF.r | apply blkF.nn | apply blkF.e | apply blkF.r | apply blkF.o rfl)
    | ((with_reducible apply opsF.call); (case hx => exact tAG))
    | (first | ((with_reducible apply vcF.cond); (case hx => exact tEV))) <;> ((intro hc; try simp only [Int.reduceLT, Int.reduceLE, Int.reduceEq, Int.reduceNe, Int.cast_ofNat_Int, Int.reduceNeg, decide_true, decide_false, not_true_eq_false, not_false_eq_true, decide_eq_true_eq, decide_eq_false_iff_not, Bool.not_eq_true', Bool.not_eq_false', Bool.not_true, Bool.not_false, Bool.false_eq_true, Bool.true_eq_false, Bool.not_eq_true, Bool.not_eq_false, beq_iff_eq, beq_eq_false_iff_ne, bne_iff_ne, bne_eq_false_iff_eq, ne_eq, Int.not_lt, Int.not_le, ge_iff_le, gt_iff_lt, Decidable.not_not, reduceCtorEq, *] at hc) <;> (try (exfalso; omega)))
    | ((with_reducible apply opsF.callv); (case hf => exact tEV); (case hx => exact tCV))
    | ((with_reducible apply retF.r); (case hv => exact tRS))
    | ((with_reducible apply retF.nn); (case hv => exact tRS)))
  refine LpF.ind rfl (fun i : Nat => l.length - i) (fun i σ h' => h' = h ∧ σ 0 = .list 1 (irows l) tok ∧ σ 1 = .func (.func fn) [] [] ∧ σ 7 = .v (.int .i64 (l.length : Nat)) ∧ σ 8 = .v (.int .i64 (i : Nat)) ∧ i ≤ l.length ∧ (l.take i).any p = false) ?_ (i := 0) ⟨rfl, rfl, rfl, rfl, rfl, Nat.zero_le _, rfl⟩
  rintro i σ h' ⟨rfl, h0, h1, h7, h8, hi, ha⟩
  rcases Nat.lt_or_ge i l.length with hlt | hge
  · obtain ⟨x, hx⟩ : ∃ x, l[i]? = some x := ⟨_, List.getElem?_eq_getElem hlt⟩
    have hpx := hp x
    cases hb : p x with
    | true =>
      have hf := any_get hx hb
      rw [hf]
      rw [hb] at hpx
      repeat' (first
    | ((with_reducible apply opsF.op rfl); (case hs => (first | exact tHT | exact tHS)))
    | with_reducible (first | apply opsF.nil | apply seqF.nn | apply vcF.seq | apply vcF.region | apply vcF.skip | apply vcF.block | apply vcF.exit | apply vcF.ret | apply vcF.loop | apply seqF.e | apply seqF.r | apply blkF.nn | apply blkF.e | apply blkF.r | apply blkF.o rfl)
    | ((with_reducible apply opsF.call); (case hx => exact tAG))
    | (first | ((with_reducible apply vcF.cond); (case hx => exact tEV))) <;> ((intro hc; try simp only [Int.reduceLT, Int.reduceLE, Int.reduceEq, Int.reduceNe, Int.cast_ofNat_Int, Int.reduceNeg, decide_true, decide_false, not_true_eq_false, not_false_eq_true, decide_eq_true_eq, decide_eq_false_iff_not, Bool.not_eq_true', Bool.not_eq_false', Bool.not_true, Bool.not_false, Bool.false_eq_true, Bool.true_eq_false, Bool.not_eq_true, Bool.not_eq_false, beq_iff_eq, beq_eq_false_iff_ne, bne_iff_ne, bne_eq_false_iff_eq, ne_eq, Int.not_lt, Int.not_le, ge_iff_le, gt_iff_lt, Decidable.not_not, reduceCtorEq, *] at hc) <;> (try (exfalso; omega)))
    | ((with_reducible apply opsF.callv); (case hf => exact tEV); (case hx => exact tCV))
    | ((with_reducible apply retF.r); (case hv => exact tRS))
    | ((with_reducible apply retF.nn); (case hv => exact tRS))
    | ((refine Call.use (hpx _) ?_)))
      all_goals exact ⟨⟨_, rfl, by simp⟩, rfl⟩
    | false =>
      rw [hb] at hpx
      repeat' (first
    | ((with_reducible apply opsF.op rfl); (case hs => (first | exact tHT | exact tHS)))
    | with_reducible (first | apply opsF.nil | apply seqF.nn | apply vcF.seq | apply vcF.region | apply vcF.skip | apply vcF.block | apply vcF.exit | apply vcF.ret | apply vcF.loop | apply seqF.e | apply seqF.r | apply blkF.nn | apply blkF.e | apply blkF.r | apply blkF.o rfl)
    | ((with_reducible apply opsF.call); (case hx => exact tAG))
    | (first | ((with_reducible apply vcF.cond); (case hx => exact tEV))) <;> ((intro hc; try simp only [Int.reduceLT, Int.reduceLE, Int.reduceEq, Int.reduceNe, Int.cast_ofNat_Int, Int.reduceNeg, decide_true, decide_false, not_true_eq_false, not_false_eq_true, decide_eq_true_eq, decide_eq_false_iff_not, Bool.not_eq_true', Bool.not_eq_false', Bool.not_true, Bool.not_false, Bool.false_eq_true, Bool.true_eq_false, Bool.not_eq_true, Bool.not_eq_false, beq_iff_eq, beq_eq_false_iff_ne, bne_iff_ne, bne_eq_false_iff_eq, ne_eq, Int.not_lt, Int.not_le, ge_iff_le, gt_iff_lt, Decidable.not_not, reduceCtorEq, *] at hc) <;> (try (exfalso; omega)))
    | ((with_reducible apply opsF.callv); (case hf => exact tEV); (case hx => exact tCV))
    | ((with_reducible apply retF.r); (case hv => exact tRS))
    | ((with_reducible apply retF.nn); (case hv => exact tRS))
    | ((refine Call.use (hpx _) ?_)))
      refine ⟨i + 1, by omega, rfl, h0, h1, h7, rfl, by omega, ?_⟩
      rw [List.take_add_one, hx, List.any_append, ha]
      simp [hb]
  · obtain rfl : i = l.length := by omega
    rw [List.take_length] at ha
    rw [ha]
    repeat' (first
    | ((with_reducible apply opsF.op rfl); (case hs => (first | exact tHT | exact tHS)))
    | with_reducible (first | apply opsF.nil | apply seqF.nn | apply vcF.seq | apply vcF.region | apply vcF.skip | apply vcF.block | apply vcF.exit | apply vcF.ret | apply vcF.loop | apply seqF.e | apply seqF.r | apply blkF.nn | apply blkF.e | apply blkF.r | apply blkF.o rfl)
    | ((with_reducible apply opsF.call); (case hx => exact tAG))
    | (first | ((with_reducible apply vcF.cond); (case hx => exact tEV))) <;> ((intro hc; try simp only [Int.reduceLT, Int.reduceLE, Int.reduceEq, Int.reduceNe, Int.cast_ofNat_Int, Int.reduceNeg, decide_true, decide_false, not_true_eq_false, not_false_eq_true, decide_eq_true_eq, decide_eq_false_iff_not, Bool.not_eq_true', Bool.not_eq_false', Bool.not_true, Bool.not_false, Bool.false_eq_true, Bool.true_eq_false, Bool.not_eq_true, Bool.not_eq_false, beq_iff_eq, beq_eq_false_iff_ne, bne_iff_ne, bne_eq_false_iff_eq, ne_eq, Int.not_lt, Int.not_le, ge_iff_le, gt_iff_lt, Decidable.not_not, reduceCtorEq, *] at hc) <;> (try (exfalso; omega)))
    | ((with_reducible apply opsF.callv); (case hf => exact tEV); (case hx => exact tCV))
    | ((with_reducible apply retF.r); (case hv => exact tRS))
    | ((with_reducible apply retF.nn); (case hv => exact tRS)))
    exact ⟨⟨_, rfl, by simp⟩, rfl⟩
theorem confi_call (fn : FuncId) (p : Int → Bool) (l : List Int) (tok : Tok) (hp : ∀ s, ∀ h, Call P w0 fn [.v (.int .i64 s)] h fun v h' => v = .v (.bool (p s)) ∧ h' = h) (h : AH) (hl : l.length ≤ 1000000000000) :
    Call P w0 slices_ContainsFunc_int_int [.list 1 (irows l) tok, .func (.func fn) [] []] h (fun v h' => v = .v (.bool (l.any p)) ∧ h' = h) := by
  refine Call.bodyF b_slices_ContainsFunc_int_int rfl rfl ?_
  unfold c_slices_ContainsFunc_int_int
  repeat' (first
    | ((with_reducible apply opsF.op rfl); (case hs => (first | exact tHT | exact tHS)))
    | with_reducible (first | apply opsF.nil | apply seqF.nn | apply vcF.seq | apply vcF.region | apply vcF.skip | apply vcF.ret | apply seqF.r)
    | ((with_reducible apply opsF.call); (case hx => exact tAG))
    | (first | ((with_reducible apply vcF.cond); (case hx => exact tEV))) <;> ((intro hc; try simp only [Int.reduceLT, Int.reduceLE, Int.reduceEq, Int.reduceNe, Int.cast_ofNat_Int, Int.reduceNeg, decide_true, decide_false, not_true_eq_false, not_false_eq_true, decide_eq_true_eq, decide_eq_false_iff_not, Bool.not_eq_true', Bool.not_eq_false', Bool.not_true, Bool.not_false, Bool.false_eq_true, Bool.true_eq_false, Bool.not_eq_true, Bool.not_eq_false, beq_iff_eq, beq_eq_false_iff_ne, bne_iff_ne, bne_eq_false_iff_eq, ne_eq, Int.not_lt, Int.not_le, ge_iff_le, gt_iff_lt, Decidable.not_not, reduceCtorEq, *] at hc) <;> (try (exfalso; omega)))
    | ((with_reducible apply retF.r); (case hv => exact tRS))
    | ((with_reducible apply retF.nn); (case hv => exact tRS))
    | ((refine (idxi_call fn p l tok hp _ hl).mono fun v h2 hq => ?_); obtain ⟨⟨n, rfl, hn⟩, rfl⟩ := hq))
  first | exact ⟨rfl, rfl⟩ | exact ⟨by rw [hn], rfl⟩ | rfl
def icells (l : List Int) : List AV := l.map fun n => AV.v (.int .i64 n)
theorem icells_len (l : List Int) : (icells l).length = l.length := by simp [icells]
theorem icells_get (l : List Int) (i : Nat) : (icells l)[i]? = (l[i]?).map fun n => AV.v (.int .i64 n) := by simp [icells]
theorem idxr_call (fn : FuncId) (p : Int → Bool) (l : List Int) (id : Nat) (cap : Option Nat) (hp : ∀ s, ∀ h, Call P w0 fn [.v (.int .i64 s)] h fun v h' => v = .v (.bool (p s)) ∧ h' = h) (h : AH) (ho : h.objs id = some (.cells (icells l))) (hlt : id < h.n) (hl : l.length ≤ 1000000000000) :
    Call P w0 slices_IndexFunc_int_int [.row id 0 l.length cap, .func (.func fn) [] []] h (fun v h' => (∃ n : Int, v = .v (.int .i64 n) ∧ decide (0 ≤ n) = l.any p) ∧ h' = h) := by
  have xl := icells_len
  have xg := icells_get
  refine Call.bodyF b_slices_IndexFunc_int_int rfl rfl ?_
  unfold c_slices_IndexFunc_int_int
  repeat' (first
    | ((with_reducible apply opsF.op rfl); (case hs => (first | exact tHT | exact tHS)))
    | with_reducible (first | apply opsF.nil | apply seqF.nn | apply vcF.seq | apply vcF.region | apply vcF.skip | apply vcF.block | apply vcF.exit | apply vcF.ret | apply vcF.loop | apply seqF.e | apply seqF.r | apply blkF.nn | apply blkF.e | apply blkF.r | apply blkF.o rfl)
    | ((with_reducible apply opsF.call); (case hx => exact tAG))
    | (first | ((with_reducible apply vcF.cond); (case hx => exact tEV))) <;> ((intro hc; try simp only [Int.reduceLT, Int.reduceLE, Int.reduceEq, Int.reduceNe, Int.cast_ofNat_Int, Int.reduceNeg, decide_true, decide_false, not_true_eq_false, not_false_eq_true, decide_eq_true_eq, decide_eq_false_iff_not, Bool.not_eq_true', Bool.not_eq_false', Bool.not_true, Bool.not_false, Bool.false_eq_true, Bool.true_eq_false, Bool.not_eq_true, Bool.not_eq_false, beq_iff_eq, beq_eq_false_iff_ne, bne_iff_ne, bne_eq_false_iff_eq, ne_eq, Int.not_lt, Int.not_le, ge_iff_le, gt_iff_lt, Decidable.not_not, reduceCtorEq, *] at hc) <;> (try (exfalso; omega)))
    | ((with_reducible apply opsF.callv); (case hf => exact tEV); (case hx => exact tCV))
    | ((with_reducible apply retF.r); (case hv => exact tRS))
    | ((with_reducible apply retF.nn); (case hv => exact tRS)))
  refine LpF.ind rfl (fun i : Nat => l.length - i) (fun i σ h' => h' = h ∧ σ 0 = .row id 0 l.length cap ∧ σ 1 = .func (.func fn) [] [] ∧ σ 7 = .v (.int .i64 (l.length : Nat)) ∧ σ 8 = .v (.int .i64 (i : Nat)) ∧ i ≤ l.length ∧ (l.take i).any p = false) ?_ (i := 0) ⟨rfl, rfl, rfl, rfl, rfl, Nat.zero_le _, rfl⟩
  rintro i σ h' ⟨rfl, h0, h1, h7, h8, hi, ha⟩
  rcases Nat.lt_or_ge i l.length with hlt | hge
  · obtain ⟨x, hx⟩ : ∃ x, l[i]? = some x := ⟨_, List.getElem?_eq_getElem hlt⟩
    have hpx := hp x
    have hg1 : (icells l)[i]? = some (.v (.int .i64 x)) := by rw [icells_get, hx]; rfl
    have hrd : rd (icells l) (0 + i * 1) none = some (.v (.int .i64 x)) := by
      show (icells l)[0 + i * 1]? = _
      rw [Nat.zero_add, Nat.mul_one]; exact hg1
    cases hb : p x with
    | true =>
      have hf := any_get hx hb
      rw [hf]
      rw [hb] at hpx
      repeat' (first
    | ((with_reducible apply opsF.op rfl); (case hs => (first | exact tHT | exact tHS)))
    | with_reducible (first | apply opsF.nil | apply seqF.nn | apply vcF.seq | apply vcF.region | apply vcF.skip | apply vcF.block | apply vcF.exit | apply vcF.ret | apply vcF.loop | apply seqF.e | apply seqF.r | apply blkF.nn | apply blkF.e | apply blkF.r | apply blkF.o rfl)
    | ((with_reducible apply opsF.call); (case hx => exact tAG))
    | (first | ((with_reducible apply vcF.cond); (case hx => exact tEV))) <;> ((intro hc; try simp only [Int.reduceLT, Int.reduceLE, Int.reduceEq, Int.reduceNe, Int.cast_ofNat_Int, Int.reduceNeg, decide_true, decide_false, not_true_eq_false, not_false_eq_true, decide_eq_true_eq, decide_eq_false_iff_not, Bool.not_eq_true', Bool.not_eq_false', Bool.not_true, Bool.not_false, Bool.false_eq_true, Bool.true_eq_false, Bool.not_eq_true, Bool.not_eq_false, beq_iff_eq, beq_eq_false_iff_ne, bne_iff_ne, bne_eq_false_iff_eq, ne_eq, Int.not_lt, Int.not_le, ge_iff_le, gt_iff_lt, Decidable.not_not, reduceCtorEq, *] at hc) <;> (try (exfalso; omega)))
    | ((with_reducible apply opsF.callv); (case hf => exact tEV); (case hx => exact tCV))
    | ((with_reducible apply retF.r); (case hv => exact tRS))
    | ((with_reducible apply retF.nn); (case hv => exact tRS))
    | ((refine Call.use (hpx _) ?_))
    | ((with_reducible apply opsF.op rfl); (case hs => exact is_load tEV ho hrd)))
      all_goals exact ⟨⟨_, rfl, by simp⟩, rfl⟩
    | false =>
      rw [hb] at hpx
      repeat' (first
    | ((with_reducible apply opsF.op rfl); (case hs => (first | exact tHT | exact tHS)))
    | with_reducible (first | apply opsF.nil | apply seqF.nn | apply vcF.seq | apply vcF.region | apply vcF.skip | apply vcF.block | apply vcF.exit | apply vcF.ret | apply vcF.loop | apply seqF.e | apply seqF.r | apply blkF.nn | apply blkF.e | apply blkF.r | apply blkF.o rfl)
    | ((with_reducible apply opsF.call); (case hx => exact tAG))
    | (first | ((with_reducible apply vcF.cond); (case hx => exact tEV))) <;> ((intro hc; try simp only [Int.reduceLT, Int.reduceLE, Int.reduceEq, Int.reduceNe, Int.cast_ofNat_Int, Int.reduceNeg, decide_true, decide_false, not_true_eq_false, not_false_eq_true, decide_eq_true_eq, decide_eq_false_iff_not, Bool.not_eq_true', Bool.not_eq_false', Bool.not_true, Bool.not_false, Bool.false_eq_true, Bool.true_eq_false, Bool.not_eq_true, Bool.not_eq_false, beq_iff_eq, beq_eq_false_iff_ne, bne_iff_ne, bne_eq_false_iff_eq, ne_eq, Int.not_lt, Int.not_le, ge_iff_le, gt_iff_lt, Decidable.not_not, reduceCtorEq, *] at hc) <;> (try (exfalso; omega)))
    | ((with_reducible apply opsF.callv); (case hf => exact tEV); (case hx => exact tCV))
    | ((with_reducible apply retF.r); (case hv => exact tRS))
    | ((with_reducible apply retF.nn); (case hv => exact tRS))
    | ((refine Call.use (hpx _) ?_))
    | ((with_reducible apply opsF.op rfl); (case hs => exact is_load tEV ho hrd)))
      refine ⟨i + 1, by omega, rfl, h0, h1, h7, rfl, by omega, ?_⟩
      rw [List.take_add_one, hx, List.any_append, ha]
      simp [hb]
  · obtain rfl : i = l.length := by omega
    rw [List.take_length] at ha
    rw [ha]
    repeat' (first
    | ((with_reducible apply opsF.op rfl); (case hs => (first | exact tHT | exact tHS)))
    | with_reducible (first | apply opsF.nil | apply seqF.nn | apply vcF.seq | apply vcF.region | apply vcF.skip | apply vcF.block | apply vcF.exit | apply vcF.ret | apply vcF.loop | apply seqF.e | apply seqF.r | apply blkF.nn | apply blkF.e | apply blkF.r | apply blkF.o rfl)
    | ((with_reducible apply opsF.call); (case hx => exact tAG))
    | (first | ((with_reducible apply vcF.cond); (case hx => exact tEV))) <;> ((intro hc; try simp only [Int.reduceLT, Int.reduceLE, Int.reduceEq, Int.reduceNe, Int.cast_ofNat_Int, Int.reduceNeg, decide_true, decide_false, not_true_eq_false, not_false_eq_true, decide_eq_true_eq, decide_eq_false_iff_not, Bool.not_eq_true', Bool.not_eq_false', Bool.not_true, Bool.not_false, Bool.false_eq_true, Bool.true_eq_false, Bool.not_eq_true, Bool.not_eq_false, beq_iff_eq, beq_eq_false_iff_ne, bne_iff_ne, bne_eq_false_iff_eq, ne_eq, Int.not_lt, Int.not_le, ge_iff_le, gt_iff_lt, Decidable.not_not, reduceCtorEq, *] at hc) <;> (try (exfalso; omega)))
    | ((with_reducible apply opsF.callv); (case hf => exact tEV); (case hx => exact tCV))
    | ((with_reducible apply retF.r); (case hv => exact tRS))
    | ((with_reducible apply retF.nn); (case hv => exact tRS)))
    exact ⟨⟨_, rfl, by simp⟩, rfl⟩
theorem confr_call (fn : FuncId) (p : Int → Bool) (l : List Int) (id : Nat) (cap : Option Nat) (hp : ∀ s, ∀ h, Call P w0 fn [.v (.int .i64 s)] h fun v h' => v = .v (.bool (p s)) ∧ h' = h) (h : AH) (ho : h.objs id = some (.cells (icells l))) (hlt : id < h.n) (hl : l.length ≤ 1000000000000) :
    Call P w0 slices_ContainsFunc_int_int [.row id 0 l.length cap, .func (.func fn) [] []] h (fun v h' => v = .v (.bool (l.any p)) ∧ h' = h) := by
  refine Call.bodyF b_slices_ContainsFunc_int_int rfl rfl ?_
  unfold c_slices_ContainsFunc_int_int
  repeat' (first
    | ((with_reducible apply opsF.op rfl); (case hs => (first | exact tHT | exact tHS)))
    | with_reducible (first | apply opsF.nil | apply seqF.nn | apply vcF.seq | apply vcF.region | apply vcF.skip | apply vcF.ret | apply seqF.r)
    | ((with_reducible apply opsF.call); (case hx => exact tAG))
    | (first | ((with_reducible apply vcF.cond); (case hx => exact tEV))) <;> ((intro hc; try simp only [Int.reduceLT, Int.reduceLE, Int.reduceEq, Int.reduceNe, Int.cast_ofNat_Int, Int.reduceNeg, decide_true, decide_false, not_true_eq_false, not_false_eq_true, decide_eq_true_eq, decide_eq_false_iff_not, Bool.not_eq_true', Bool.not_eq_false', Bool.not_true, Bool.not_false, Bool.false_eq_true, Bool.true_eq_false, Bool.not_eq_true, Bool.not_eq_false, beq_iff_eq, beq_eq_false_iff_ne, bne_iff_ne, bne_eq_false_iff_eq, ne_eq, Int.not_lt, Int.not_le, ge_iff_le, gt_iff_lt, Decidable.not_not, reduceCtorEq, *] at hc) <;> (try (exfalso; omega)))
    | ((with_reducible apply retF.r); (case hv => exact tRS))
    | ((with_reducible apply retF.nn); (case hv => exact tRS))
    | ((refine (idxr_call fn p l id cap hp _ ho hlt hl).mono fun v h2 hq => ?_); obtain ⟨⟨n, rfl, hn⟩, rfl⟩ := hq))
  first | exact ⟨rfl, rfl⟩ | exact ⟨by rw [hn], rfl⟩ | rfl
end Go.Abs.F
