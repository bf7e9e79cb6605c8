/- What the proof needs, part 7: Layer 11: which messages may be; Layer 11: bodies; which messages may be; The compact code of functions, printed by a program of mine; Layer 12: the writer of bytes. -/
import Derived.Test.YtnpdmkbfphcioaaGreatDoorQTurnKeeps6
/- Layer 11: which messages may be. -/
namespace Go.Abs.F
open Go Go.Abs
set_option maxRecDepth 10000
set_option maxHeartbeats 20000000
set_option linter.unusedSimpArgs false
set_option linter.unusedVariables false
variable {w0 : World}
theorem Call.pure {f : FuncId} {args : List AV} {h : AH} {x : AV} (hp : Plain x) (hc : Call P w0 f args h fun v h' => v = x ∧ Ext h h') : Call P w0 f args h fun v h' => v = x ∧ h' = h :=
  Call.gc (Q' := fun v => v = x) hc fun v h' hq => ⟨hq.1 ▸ hp, hq.2, hq.1⟩
theorem optV_plain (o : Option (List UInt8)) : Plain (optV o) := by
  cases o with
  | none => exact .tupv fun x hx => by simp at hx; rcases hx with rfl | rfl <;> exact .v _
  | some c => exact .tupv fun x hx => by simp at hx; rcases hx with rfl | rfl <;> exact .v _
theorem canon_p (s : List UInt8) (h : AH) (hl : s.length ≤ 1000000000) : Call P w0 addr_Canon [.v (.string (bs s))] h (fun v h' => v = optV (canonO s) ∧ h' = h) := Call.pure (optV_plain _) (canon_call s h hl)
theorem rcanon_p (s : List UInt8) (h : AH) (hl : s.length ≤ 1000000000) : Call P w0 ref01_Canon [.v (.string (bs s))] h (fun v h' => v = optV (canonO s) ∧ h' = h) := Call.pure (optV_plain _) (rcanon_call s h (by omega))
theorem mbox_call (s : L8) (h : AH) (hl : s.length ≤ 1000000000) : Call P w0 env_mailbox [.v (.string (bs s))] h (fun v h' => v = .v (.bool (mbS s)) ∧ h' = h) := by
  have hc := fun h => canon_p (w0 := w0) s h hl
  refine Call.bodyF b_env_mailbox rfl rfl ?_
  unfold c_env_mailbox
  rw [mbS]
  cases hq : canonO s with
  | none =>
    rw [hq] at hc
    unfold optV at hc
    repeat' (first
| ((with_reducible apply opsF.op rfl); case hs => first | exact tHT | exact tHS)
| (with_reducible first | apply opsF.nil | apply seqF.nn | apply vcF.seq | apply vcF.region | apply vcF.skip | apply vcF.ret | apply seqF.r)
| ((with_reducible apply opsF.call); case hx => exact tAG)
| ((with_reducible apply opsF.want); (case hg => exact tEV); case hb => exact tNB)
| ((with_reducible apply opsF.skip); (case hg => exact tEV); case hb => exact tNB)
| (first | ((with_reducible apply opsF.case); case hg => exact tEV) | ((with_reducible apply vcF.cond); case hx => exact tEV)) <;> ((intro hc; try simp only [Int.reduceLT, Int.reduceLE, Int.reduceEq, Int.reduceNe, Int.cast_ofNat_Int, Int.reduceNeg, reduceCtorEq, ne_eq, ge_iff_le, gt_iff_lt, beq_iff_eq, beq_eq_false_iff_ne, bne_iff_ne, bne_eq_false_iff_eq, nrm, *] at hc) <;> try (exfalso; omega))
| ((with_reducible apply opsF.und); case hg => rfl)
| ((with_reducible first | apply retF.r | apply retF.nn); case hv => exact tRS)
| ((refine Call.use (hc _) ?_)))
    all_goals first | rfl | (simp; done)
  | some c =>
    rw [hq] at hc
    unfold optV at hc
    repeat' (first
| ((with_reducible apply opsF.op rfl); case hs => first | exact tHT | exact tHS)
| (with_reducible first | apply opsF.nil | apply seqF.nn | apply vcF.seq | apply vcF.region | apply vcF.skip | apply vcF.ret | apply seqF.r)
| ((with_reducible apply opsF.call); case hx => exact tAG)
| ((with_reducible apply opsF.want); (case hg => exact tEV); case hb => exact tNB)
| ((with_reducible apply opsF.skip); (case hg => exact tEV); case hb => exact tNB)
| (first | ((with_reducible apply opsF.case); case hg => exact tEV) | ((with_reducible apply vcF.cond); case hx => exact tEV)) <;> ((intro hc; try simp only [Int.reduceLT, Int.reduceLE, Int.reduceEq, Int.reduceNe, Int.cast_ofNat_Int, Int.reduceNeg, reduceCtorEq, ne_eq, ge_iff_le, gt_iff_lt, beq_iff_eq, beq_eq_false_iff_ne, bne_iff_ne, bne_eq_false_iff_eq, nrm, *] at hc) <;> try (exfalso; omega))
| ((with_reducible apply opsF.und); case hg => rfl)
| ((with_reducible first | apply retF.r | apply retF.nn); case hv => exact tRS)
| ((refine Call.use (hc _) ?_)))
    all_goals first | rfl | (simp; done) | (simp [*]; done)
theorem rmbox_call (s : L8) (h : AH) (hl : s.length ≤ 1000000000) : Call P w0 ref08_mailbox [.v (.string (bs s))] h (fun v h' => v = .v (.bool (mbS s)) ∧ h' = h) := by
  have hc := fun h => rcanon_p (w0 := w0) s h hl
  refine Call.bodyF b_ref08_mailbox rfl rfl ?_
  unfold c_ref08_mailbox
  rw [mbS]
  cases hq : canonO s with
  | none =>
    rw [hq] at hc
    unfold optV at hc
    repeat' (first
| ((with_reducible apply opsF.op rfl); case hs => first | exact tHT | exact tHS)
| (with_reducible first | apply opsF.nil | apply seqF.nn | apply vcF.seq | apply vcF.region | apply vcF.skip | apply vcF.ret | apply seqF.r)
| ((with_reducible apply opsF.call); case hx => exact tAG)
| ((with_reducible apply opsF.want); (case hg => exact tEV); case hb => exact tNB)
| ((with_reducible apply opsF.skip); (case hg => exact tEV); case hb => exact tNB)
| (first | ((with_reducible apply opsF.case); case hg => exact tEV) | ((with_reducible apply vcF.cond); case hx => exact tEV)) <;> ((intro hc; try simp only [Int.reduceLT, Int.reduceLE, Int.reduceEq, Int.reduceNe, Int.cast_ofNat_Int, Int.reduceNeg, reduceCtorEq, ne_eq, ge_iff_le, gt_iff_lt, beq_iff_eq, beq_eq_false_iff_ne, bne_iff_ne, bne_eq_false_iff_eq, nrm, *] at hc) <;> try (exfalso; omega))
| ((with_reducible apply opsF.und); case hg => rfl)
| ((with_reducible first | apply retF.r | apply retF.nn); case hv => exact tRS)
| ((refine Call.use (hc _) ?_)))
    all_goals first | rfl | (simp; done)
  | some c =>
    rw [hq] at hc
    unfold optV at hc
    repeat' (first
| ((with_reducible apply opsF.op rfl); case hs => first | exact tHT | exact tHS)
| (with_reducible first | apply opsF.nil | apply seqF.nn | apply vcF.seq | apply vcF.region | apply vcF.skip | apply vcF.ret | apply seqF.r)
| ((with_reducible apply opsF.call); case hx => exact tAG)
| ((with_reducible apply opsF.want); (case hg => exact tEV); case hb => exact tNB)
| ((with_reducible apply opsF.skip); (case hg => exact tEV); case hb => exact tNB)
| (first | ((with_reducible apply opsF.case); case hg => exact tEV) | ((with_reducible apply vcF.cond); case hx => exact tEV)) <;> ((intro hc; try simp only [Int.reduceLT, Int.reduceLE, Int.reduceEq, Int.reduceNe, Int.cast_ofNat_Int, Int.reduceNeg, reduceCtorEq, ne_eq, ge_iff_le, gt_iff_lt, beq_iff_eq, beq_eq_false_iff_ne, bne_iff_ne, bne_eq_false_iff_eq, nrm, *] at hc) <;> try (exfalso; omega))
| ((with_reducible apply opsF.und); case hg => rfl)
| ((with_reducible first | apply retF.r | apply retF.nn); case hv => exact tRS)
| ((refine Call.use (hc _) ?_)))
    all_goals first | rfl | (simp; done) | (simp [*]; done)
theorem time_call (n : Int) (h : AH) : Call P w0 env_time [.v (.int .i64 n)] h (fun v h' => v = .v (.bool (timeS n)) ∧ h' = h) := by
  refine Call.bodyF b_env_time rfl rfl ?_
  unfold c_env_time
  repeat' (first
| ((with_reducible apply opsF.op rfl); case hs => first | exact tHT | exact tHS)
| (with_reducible first | apply opsF.nil | apply seqF.nn | apply vcF.seq | apply vcF.region | apply vcF.skip | apply vcF.ret | apply seqF.r)
| ((with_reducible apply opsF.call); case hx => exact tAG)
| ((with_reducible apply opsF.want); (case hg => exact tEV); case hb => exact tNB)
| ((with_reducible apply opsF.skip); (case hg => exact tEV); case hb => exact tNB)
| (first | ((with_reducible apply opsF.case); case hg => exact tEV) | ((with_reducible apply vcF.cond); case hx => exact tEV)) <;> ((intro hc; try simp only [Int.reduceLT, Int.reduceLE, Int.reduceEq, Int.reduceNe, Int.cast_ofNat_Int, Int.reduceNeg, reduceCtorEq, ne_eq, ge_iff_le, gt_iff_lt, beq_iff_eq, beq_eq_false_iff_ne, bne_iff_ne, bne_eq_false_iff_eq, nrm, *] at hc) <;> try (exfalso; omega))
| ((with_reducible apply opsF.und); case hg => rfl)
| ((with_reducible first | apply retF.r | apply retF.nn); case hv => exact tRS))
  all_goals (simp [timeS]; try omega)
theorem odd_call (n : Int) (h : AH) : Call P w0 env_Good_1 [.v (.int .i64 n)] h (fun v h' => v = .v (.bool (!markS n)) ∧ h' = h) := by
  refine Call.bodyF b_env_Good_1 rfl rfl ?_
  unfold c_env_Good_1
  repeat' (first
| ((with_reducible apply opsF.op rfl); case hs => first | exact tHT | exact tHS)
| (with_reducible first | apply opsF.nil | apply seqF.nn | apply vcF.seq | apply vcF.region | apply vcF.skip | apply vcF.ret | apply seqF.r)
| ((with_reducible apply opsF.call); case hx => exact tAG)
| ((with_reducible apply opsF.want); (case hg => exact tEV); case hb => exact tNB)
| ((with_reducible apply opsF.skip); (case hg => exact tEV); case hb => exact tNB)
| (first | ((with_reducible apply opsF.case); case hg => exact tEV) | ((with_reducible apply vcF.cond); case hx => exact tEV)) <;> ((intro hc; try simp only [Int.reduceLT, Int.reduceLE, Int.reduceEq, Int.reduceNe, Int.cast_ofNat_Int, Int.reduceNeg, reduceCtorEq, ne_eq, ge_iff_le, gt_iff_lt, beq_iff_eq, beq_eq_false_iff_ne, bne_iff_ne, bne_eq_false_iff_eq, nrm, *] at hc) <;> try (exfalso; omega))
| ((with_reducible apply opsF.und); case hg => rfl)
| ((with_reducible first | apply retF.r | apply retF.nn); case hv => exact tRS))
  all_goals first
    | (simp [markS]; done)
    | (simp [markS]; omega)
    | (simp only [markS, and_true]; apply bool_iff; simp only [Bool.not_eq_true', Bool.and_eq_false_iff, decide_eq_true_eq, decide_eq_false_iff_not]; omega)
theorem ntime_call (n : Int) (h : AH) : Call P w0 env_Good_2 [.v (.int .i64 n)] h (fun v h' => v = .v (.bool (!timeS n)) ∧ h' = h) := by
  have hc := fun h => time_call (w0 := w0) n h
  refine Call.bodyF b_env_Good_2 rfl rfl ?_
  unfold c_env_Good_2
  repeat' (first
| ((with_reducible apply opsF.op rfl); case hs => first | exact tHT | exact tHS)
| (with_reducible first | apply opsF.nil | apply seqF.nn | apply vcF.seq | apply vcF.region | apply vcF.skip | apply vcF.ret | apply seqF.r)
| ((with_reducible apply opsF.call); case hx => exact tAG)
| ((with_reducible apply vcF.cond); case hx => exact tEV) <;> ((intro hc; try simp only [Int.reduceLT, Int.reduceLE, Int.reduceEq, Int.reduceNe, Int.cast_ofNat_Int, Int.reduceNeg, reduceCtorEq, ne_eq, ge_iff_le, gt_iff_lt, beq_iff_eq, beq_eq_false_iff_ne, bne_iff_ne, bne_eq_false_iff_eq, nrm, *] at hc) <;> try (exfalso; omega))
| ((with_reducible first | apply retF.r | apply retF.nn); case hv => exact tRS)
| ((refine Call.use (hc _) ?_)))
  all_goals first | rfl | (simp; done)
theorem nmbox_call (s : L8) (h : AH) (hl : s.length ≤ 1000000000) : Call P w0 env_Good_3 [.v (.string (bs s))] h (fun v h' => v = .v (.bool (!mbS s)) ∧ h' = h) := by
  have hc := fun h => mbox_call (w0 := w0) s h hl
  refine Call.bodyF b_env_Good_3 rfl rfl ?_
  unfold c_env_Good_3
  repeat' (first
| ((with_reducible apply opsF.op rfl); case hs => first | exact tHT | exact tHS)
| (with_reducible first | apply opsF.nil | apply seqF.nn | apply vcF.seq | apply vcF.region | apply vcF.skip | apply vcF.ret | apply seqF.r)
| ((with_reducible apply opsF.call); case hx => exact tAG)
| ((with_reducible apply vcF.cond); case hx => exact tEV) <;> ((intro hc; try simp only [Int.reduceLT, Int.reduceLE, Int.reduceEq, Int.reduceNe, Int.cast_ofNat_Int, Int.reduceNeg, reduceCtorEq, ne_eq, ge_iff_le, gt_iff_lt, beq_iff_eq, beq_eq_false_iff_ne, bne_iff_ne, bne_eq_false_iff_eq, nrm, *] at hc) <;> try (exfalso; omega))
| ((with_reducible first | apply retF.r | apply retF.nn); case hv => exact tRS)
| ((refine Call.use (hc _) ?_)))
  all_goals first | rfl | (simp; done)
def irows (l : List Int) : List (List AV) := l.map fun n => [.v (.int .i64 n)]
theorem irows_len (l : List Int) : (irows l).length = l.length := by simp [irows]
theorem irows_get (l : List Int) (i : Nat) : (irows l)[i]? = (l[i]?).map fun n => [.v (.int .i64 n)] := by simp [irows]
theorem idxi_call (fn : FuncId) (p : Int → Bool) (l : List Int) (tok : Tok) (hp : ∀ s, ∀ h, Call P w0 fn [.v (.int .i64 s)] h fun v h' => v = .v (.bool (p s)) ∧ h' = h) (h : AH) (hl : l.length ≤ 1000000000000) :
    Call P w0 slices_IndexFunc_int_int [.list 1 (irows l) tok, .func (.func fn) [] []] h (fun v h' => (∃ n : Int, v = .v (.int .i64 n) ∧ decide (0 ≤ n) = l.any p) ∧ h' = h) := by
  have xl := irows_len
  have xg := irows_get
  refine Call.bodyF b_slices_IndexFunc_int_int rfl rfl ?_
  unfold c_slices_IndexFunc_int_int
  repeat' (first
| ((with_reducible apply opsF.op rfl); case hs => first | exact tHT | exact tHS)
| (with_reducible first | apply opsF.nil | apply seqF.nn | apply vcF.seq | apply vcF.region | apply vcF.skip | apply vcF.block | apply vcF.exit | apply vcF.ret | apply vcF.loop | apply seqF.e | apply seqF.r | apply blkF.nn | apply blkF.e | apply blkF.r | apply blkF.o rfl)
| ((with_reducible apply opsF.call); case hx => exact tAG)
| ((with_reducible apply vcF.cond); case hx => exact tEV) <;> ((intro hc; try simp only [Int.reduceLT, Int.reduceLE, Int.reduceEq, Int.reduceNe, Int.cast_ofNat_Int, Int.reduceNeg, reduceCtorEq, ne_eq, ge_iff_le, gt_iff_lt, beq_iff_eq, beq_eq_false_iff_ne, bne_iff_ne, bne_eq_false_iff_eq, nrm, *] at hc) <;> try (exfalso; omega))
| ((with_reducible apply opsF.callv); (case hf => exact tEV); case hx => exact tCV)
| ((with_reducible first | apply retF.r | apply retF.nn); case hv => exact tRS))
  refine LpF.ind rfl (fun i : Nat => l.length - i) (fun i σ h' => h' = h ∧ σ 0 = .list 1 (irows l) tok ∧ σ 1 = .func (.func fn) [] [] ∧ σ 7 = .v (.int .i64 (l.length : Nat)) ∧ σ 8 = .v (.int .i64 (i : Nat)) ∧ i ≤ l.length ∧ (l.take i).any p = false) ?_ (i := 0) ⟨rfl, rfl, rfl, rfl, rfl, Nat.zero_le _, rfl⟩
  rintro i σ h' ⟨rfl, h0, h1, h7, h8, hi, ha⟩
  rcases Nat.lt_or_ge i l.length with hlt | hge
  · obtain ⟨x, hx⟩ : ∃ x, l[i]? = some x := ⟨_, List.getElem?_eq_getElem hlt⟩
    have hpx := hp x
    cases hb : p x with
    | true =>
      have hf := any_get hx hb
      rw [hf]
      rw [hb] at hpx
      repeat' (first
| ((with_reducible apply opsF.op rfl); case hs => first | exact tHT | exact tHS)
| (with_reducible first | apply opsF.nil | apply seqF.nn | apply vcF.seq | apply vcF.region | apply vcF.skip | apply vcF.block | apply vcF.exit | apply vcF.ret | apply vcF.loop | apply seqF.e | apply seqF.r | apply blkF.nn | apply blkF.e | apply blkF.r | apply blkF.o rfl)
| ((with_reducible apply opsF.call); case hx => exact tAG)
| ((with_reducible apply vcF.cond); case hx => exact tEV) <;> ((intro hc; try simp only [Int.reduceLT, Int.reduceLE, Int.reduceEq, Int.reduceNe, Int.cast_ofNat_Int, Int.reduceNeg, reduceCtorEq, ne_eq, ge_iff_le, gt_iff_lt, beq_iff_eq, beq_eq_false_iff_ne, bne_iff_ne, bne_eq_false_iff_eq, nrm, *] at hc) <;> try (exfalso; omega))
| ((with_reducible apply opsF.callv); (case hf => exact tEV); case hx => exact tCV)
| ((with_reducible first | apply retF.r | apply retF.nn); case hv => exact tRS)
| ((refine Call.use (hpx _) ?_)))
      all_goals exact ⟨⟨_, rfl, by simp⟩, rfl⟩
    | false =>
      rw [hb] at hpx
      repeat' (first
| ((with_reducible apply opsF.op rfl); case hs => first | exact tHT | exact tHS)
| (with_reducible first | apply opsF.nil | apply seqF.nn | apply vcF.seq | apply vcF.region | apply vcF.skip | apply vcF.block | apply vcF.exit | apply vcF.ret | apply vcF.loop | apply seqF.e | apply seqF.r | apply blkF.nn | apply blkF.e | apply blkF.r | apply blkF.o rfl)
| ((with_reducible apply opsF.call); case hx => exact tAG)
| ((with_reducible apply vcF.cond); case hx => exact tEV) <;> ((intro hc; try simp only [Int.reduceLT, Int.reduceLE, Int.reduceEq, Int.reduceNe, Int.cast_ofNat_Int, Int.reduceNeg, reduceCtorEq, ne_eq, ge_iff_le, gt_iff_lt, beq_iff_eq, beq_eq_false_iff_ne, bne_iff_ne, bne_eq_false_iff_eq, nrm, *] at hc) <;> try (exfalso; omega))
| ((with_reducible apply opsF.callv); (case hf => exact tEV); case hx => exact tCV)
| ((with_reducible first | apply retF.r | apply retF.nn); case hv => exact tRS)
| ((refine Call.use (hpx _) ?_)))
      refine ⟨i + 1, by omega, rfl, h0, h1, h7, rfl, by omega, ?_⟩
      rw [List.take_add_one, hx, List.any_append, ha]
      simp [hb]
  · obtain rfl : i = l.length := by omega
    rw [List.take_length] at ha
    rw [ha]
    repeat' (first
| ((with_reducible apply opsF.op rfl); case hs => first | exact tHT | exact tHS)
| (with_reducible first | apply opsF.nil | apply seqF.nn | apply vcF.seq | apply vcF.region | apply vcF.skip | apply vcF.block | apply vcF.exit | apply vcF.ret | apply vcF.loop | apply seqF.e | apply seqF.r | apply blkF.nn | apply blkF.e | apply blkF.r | apply blkF.o rfl)
| ((with_reducible apply opsF.call); case hx => exact tAG)
| ((with_reducible apply vcF.cond); case hx => exact tEV) <;> ((intro hc; try simp only [Int.reduceLT, Int.reduceLE, Int.reduceEq, Int.reduceNe, Int.cast_ofNat_Int, Int.reduceNeg, reduceCtorEq, ne_eq, ge_iff_le, gt_iff_lt, beq_iff_eq, beq_eq_false_iff_ne, bne_iff_ne, bne_eq_false_iff_eq, nrm, *] at hc) <;> try (exfalso; omega))
| ((with_reducible apply opsF.callv); (case hf => exact tEV); case hx => exact tCV)
| ((with_reducible first | apply retF.r | apply retF.nn); case hv => exact tRS))
    exact ⟨⟨_, rfl, by simp⟩, rfl⟩
theorem confi_call (fn : FuncId) (p : Int → Bool) (l : List Int) (tok : Tok) (hp : ∀ s, ∀ h, Call P w0 fn [.v (.int .i64 s)] h fun v h' => v = .v (.bool (p s)) ∧ h' = h) (h : AH) (hl : l.length ≤ 1000000000000) :
    Call P w0 slices_ContainsFunc_int_int [.list 1 (irows l) tok, .func (.func fn) [] []] h (fun v h' => v = .v (.bool (l.any p)) ∧ h' = h) := by
  refine Call.bodyF b_slices_ContainsFunc_int_int rfl rfl ?_
  unfold c_slices_ContainsFunc_int_int
  repeat' (first
| ((with_reducible apply opsF.op rfl); case hs => first | exact tHT | exact tHS)
| (with_reducible first | apply opsF.nil | apply seqF.nn | apply vcF.seq | apply vcF.region | apply vcF.skip | apply vcF.ret | apply seqF.r)
| ((with_reducible apply opsF.call); case hx => exact tAG)
| ((with_reducible apply vcF.cond); case hx => exact tEV) <;> ((intro hc; try simp only [Int.reduceLT, Int.reduceLE, Int.reduceEq, Int.reduceNe, Int.cast_ofNat_Int, Int.reduceNeg, reduceCtorEq, ne_eq, ge_iff_le, gt_iff_lt, beq_iff_eq, beq_eq_false_iff_ne, bne_iff_ne, bne_eq_false_iff_eq, nrm, *] at hc) <;> try (exfalso; omega))
| ((with_reducible first | apply retF.r | apply retF.nn); case hv => exact tRS)
| ((refine (idxi_call fn p l tok hp _ hl).mono fun v h2 hq => ?_); obtain ⟨⟨n, rfl, hn⟩, rfl⟩ := hq))
  first | exact ⟨rfl, rfl⟩ | exact ⟨by rw [hn], rfl⟩ | rfl
def icells (l : List Int) : List AV := l.map fun n => AV.v (.int .i64 n)
theorem icells_len (l : List Int) : (icells l).length = l.length := by simp [icells]
theorem icells_get (l : List Int) (i : Nat) : (icells l)[i]? = (l[i]?).map fun n => AV.v (.int .i64 n) := by simp [icells]
theorem idxr_call (fn : FuncId) (p : Int → Bool) (l : List Int) (id : Nat) (cap : Option Nat) (hp : ∀ s, ∀ h, Call P w0 fn [.v (.int .i64 s)] h fun v h' => v = .v (.bool (p s)) ∧ h' = h) (h : AH) (ho : h.objs id = some (.cells (icells l))) (hlt : id < h.n) (hl : l.length ≤ 1000000000000) :
    Call P w0 slices_IndexFunc_int_int [.row id 0 l.length cap, .func (.func fn) [] []] h (fun v h' => (∃ n : Int, v = .v (.int .i64 n) ∧ decide (0 ≤ n) = l.any p) ∧ h' = h) := by
  have xl := icells_len
  have xg := icells_get
  refine Call.bodyF b_slices_IndexFunc_int_int rfl rfl ?_
  unfold c_slices_IndexFunc_int_int
  repeat' (first
| ((with_reducible apply opsF.op rfl); case hs => first | exact tHT | exact tHS)
| (with_reducible first | apply opsF.nil | apply seqF.nn | apply vcF.seq | apply vcF.region | apply vcF.skip | apply vcF.block | apply vcF.exit | apply vcF.ret | apply vcF.loop | apply seqF.e | apply seqF.r | apply blkF.nn | apply blkF.e | apply blkF.r | apply blkF.o rfl)
| ((with_reducible apply opsF.call); case hx => exact tAG)
| ((with_reducible apply vcF.cond); case hx => exact tEV) <;> ((intro hc; try simp only [Int.reduceLT, Int.reduceLE, Int.reduceEq, Int.reduceNe, Int.cast_ofNat_Int, Int.reduceNeg, reduceCtorEq, ne_eq, ge_iff_le, gt_iff_lt, beq_iff_eq, beq_eq_false_iff_ne, bne_iff_ne, bne_eq_false_iff_eq, nrm, *] at hc) <;> try (exfalso; omega))
| ((with_reducible apply opsF.callv); (case hf => exact tEV); case hx => exact tCV)
| ((with_reducible first | apply retF.r | apply retF.nn); case hv => exact tRS))
  refine LpF.ind rfl (fun i : Nat => l.length - i) (fun i σ h' => h' = h ∧ σ 0 = .row id 0 l.length cap ∧ σ 1 = .func (.func fn) [] [] ∧ σ 7 = .v (.int .i64 (l.length : Nat)) ∧ σ 8 = .v (.int .i64 (i : Nat)) ∧ i ≤ l.length ∧ (l.take i).any p = false) ?_ (i := 0) ⟨rfl, rfl, rfl, rfl, rfl, Nat.zero_le _, rfl⟩
  rintro i σ h' ⟨rfl, h0, h1, h7, h8, hi, ha⟩
  rcases Nat.lt_or_ge i l.length with hlt | hge
  · obtain ⟨x, hx⟩ : ∃ x, l[i]? = some x := ⟨_, List.getElem?_eq_getElem hlt⟩
    have hpx := hp x
    have hg1 : (icells l)[i]? = some (.v (.int .i64 x)) := by rw [icells_get, hx]; rfl
    have hrd : rd (icells l) (0 + i * 1) none = some (.v (.int .i64 x)) := by
      show (icells l)[0 + i * 1]? = _
      rw [Nat.zero_add, Nat.mul_one]; exact hg1
    cases hb : p x with
    | true =>
      have hf := any_get hx hb
      rw [hf]
      rw [hb] at hpx
      repeat' (first
| ((with_reducible apply opsF.op rfl); case hs => first | exact tHT | exact tHS)
| (with_reducible first | apply opsF.nil | apply seqF.nn | apply vcF.seq | apply vcF.region | apply vcF.skip | apply vcF.block | apply vcF.exit | apply vcF.ret | apply vcF.loop | apply seqF.e | apply seqF.r | apply blkF.nn | apply blkF.e | apply blkF.r | apply blkF.o rfl)
| ((with_reducible apply opsF.call); case hx => exact tAG)
| ((with_reducible apply vcF.cond); case hx => exact tEV) <;> ((intro hc; try simp only [Int.reduceLT, Int.reduceLE, Int.reduceEq, Int.reduceNe, Int.cast_ofNat_Int, Int.reduceNeg, reduceCtorEq, ne_eq, ge_iff_le, gt_iff_lt, beq_iff_eq, beq_eq_false_iff_ne, bne_iff_ne, bne_eq_false_iff_eq, nrm, *] at hc) <;> try (exfalso; omega))
| ((with_reducible apply opsF.callv); (case hf => exact tEV); case hx => exact tCV)
| ((with_reducible first | apply retF.r | apply retF.nn); case hv => exact tRS)
| ((refine Call.use (hpx _) ?_))
| ((with_reducible apply opsF.op rfl); (case hs => exact is_load tEV ho hrd)))
      all_goals exact ⟨⟨_, rfl, by simp⟩, rfl⟩
    | false =>
      rw [hb] at hpx
      repeat' (first
| ((with_reducible apply opsF.op rfl); case hs => first | exact tHT | exact tHS)
| (with_reducible first | apply opsF.nil | apply seqF.nn | apply vcF.seq | apply vcF.region | apply vcF.skip | apply vcF.block | apply vcF.exit | apply vcF.ret | apply vcF.loop | apply seqF.e | apply seqF.r | apply blkF.nn | apply blkF.e | apply blkF.r | apply blkF.o rfl)
| ((with_reducible apply opsF.call); case hx => exact tAG)
| ((with_reducible apply vcF.cond); case hx => exact tEV) <;> ((intro hc; try simp only [Int.reduceLT, Int.reduceLE, Int.reduceEq, Int.reduceNe, Int.cast_ofNat_Int, Int.reduceNeg, reduceCtorEq, ne_eq, ge_iff_le, gt_iff_lt, beq_iff_eq, beq_eq_false_iff_ne, bne_iff_ne, bne_eq_false_iff_eq, nrm, *] at hc) <;> try (exfalso; omega))
| ((with_reducible apply opsF.callv); (case hf => exact tEV); case hx => exact tCV)
| ((with_reducible first | apply retF.r | apply retF.nn); case hv => exact tRS)
| ((refine Call.use (hpx _) ?_))
| ((with_reducible apply opsF.op rfl); (case hs => exact is_load tEV ho hrd)))
      refine ⟨i + 1, by omega, rfl, h0, h1, h7, rfl, by omega, ?_⟩
      rw [List.take_add_one, hx, List.any_append, ha]
      simp [hb]
  · obtain rfl : i = l.length := by omega
    rw [List.take_length] at ha
    rw [ha]
    repeat' (first
| ((with_reducible apply opsF.op rfl); case hs => first | exact tHT | exact tHS)
| (with_reducible first | apply opsF.nil | apply seqF.nn | apply vcF.seq | apply vcF.region | apply vcF.skip | apply vcF.block | apply vcF.exit | apply vcF.ret | apply vcF.loop | apply seqF.e | apply seqF.r | apply blkF.nn | apply blkF.e | apply blkF.r | apply blkF.o rfl)
| ((with_reducible apply opsF.call); case hx => exact tAG)
| ((with_reducible apply vcF.cond); case hx => exact tEV) <;> ((intro hc; try simp only [Int.reduceLT, Int.reduceLE, Int.reduceEq, Int.reduceNe, Int.cast_ofNat_Int, Int.reduceNeg, reduceCtorEq, ne_eq, ge_iff_le, gt_iff_lt, beq_iff_eq, beq_eq_false_iff_ne, bne_iff_ne, bne_eq_false_iff_eq, nrm, *] at hc) <;> try (exfalso; omega))
| ((with_reducible apply opsF.callv); (case hf => exact tEV); case hx => exact tCV)
| ((with_reducible first | apply retF.r | apply retF.nn); case hv => exact tRS))
    exact ⟨⟨_, rfl, by simp⟩, rfl⟩
theorem confr_call (fn : FuncId) (p : Int → Bool) (l : List Int) (id : Nat) (cap : Option Nat) (hp : ∀ s, ∀ h, Call P w0 fn [.v (.int .i64 s)] h fun v h' => v = .v (.bool (p s)) ∧ h' = h) (h : AH) (ho : h.objs id = some (.cells (icells l))) (hlt : id < h.n) (hl : l.length ≤ 1000000000000) :
    Call P w0 slices_ContainsFunc_int_int [.row id 0 l.length cap, .func (.func fn) [] []] h (fun v h' => v = .v (.bool (l.any p)) ∧ h' = h) := by
  refine Call.bodyF b_slices_ContainsFunc_int_int rfl rfl ?_
  unfold c_slices_ContainsFunc_int_int
  repeat' (first
| ((with_reducible apply opsF.op rfl); case hs => first | exact tHT | exact tHS)
| (with_reducible first | apply opsF.nil | apply seqF.nn | apply vcF.seq | apply vcF.region | apply vcF.skip | apply vcF.ret | apply seqF.r)
| ((with_reducible apply opsF.call); case hx => exact tAG)
| ((with_reducible apply vcF.cond); case hx => exact tEV) <;> ((intro hc; try simp only [Int.reduceLT, Int.reduceLE, Int.reduceEq, Int.reduceNe, Int.cast_ofNat_Int, Int.reduceNeg, reduceCtorEq, ne_eq, ge_iff_le, gt_iff_lt, beq_iff_eq, beq_eq_false_iff_ne, bne_iff_ne, bne_eq_false_iff_eq, nrm, *] at hc) <;> try (exfalso; omega))
| ((with_reducible first | apply retF.r | apply retF.nn); case hv => exact tRS)
| ((refine (idxr_call fn p l id cap hp _ ho hlt hl).mono fun v h2 hq => ?_); obtain ⟨⟨n, rfl, hn⟩, rfl⟩ := hq))
  first | exact ⟨rfl, rfl⟩ | exact ⟨by rw [hn], rfl⟩ | rfl
end Go.Abs.F
/- Layer 11: bodies; which messages may be. -/
namespace Go.Abs.F
open Go Go.Abs
set_option maxRecDepth 10000
set_option maxHeartbeats 20000000
set_option linter.unusedSimpArgs false
set_option linter.unusedVariables false
variable {w0 : World}
theorem bsize_app (l m : List L8) : bsizeS (l ++ m) = bsizeS l + bsizeS m := by
  induction l with
  | nil => simp [bsizeS]
  | cons x l ih => simp only [List.cons_append, bsizeS, ih]; omega
theorem bsize_take {l : List L8} {i : Nat} {x : L8} (hx : l[i]? = some x) : bsizeS (l.take (i + 1)) = bsizeS (l.take i) + x.length + 2 := by
  rw [List.take_add_one, hx, Option.toList_some, bsize_app]
  simp only [bsizeS]
  omega
theorem bsize_bd {l : List L8} {K : Nat} (h : ∀ s ∈ l, s.length ≤ K) : bsizeS l ≤ l.length * (K + 2) := by
  induction l with
  | nil => simp [bsizeS]
  | cons x l ih =>
    have h1 := h x (by simp)
    have h2 := ih fun s hs => h s (by simp [hs])
    simp only [bsizeS, List.length_cons, Nat.add_mul]
    omega
theorem bsize_bt {l : List L8} {K : Nat} (h : ∀ s ∈ l, s.length ≤ K) (i : Nat) : bsizeS (l.take i) ≤ l.length * (K + 2) := by
  have h1 := bsize_bd (l := l.take i) fun s hs => h s (List.mem_of_mem_take hs)
  have h2 : (l.take i).length ≤ l.length := by rw [List.length_take]; omega
  exact Nat.le_trans h1 (Nat.mul_le_mul_right _ h2)
theorem dsize_call (l : List L8) (tok : Tok) (h : AH) (hl : l.length ≤ 1000000) (hs : ∀ s ∈ l, s.length ≤ 1000000) : Call P w0 dots_Size [.list 1 (srows l) tok] h (fun v h' => v = .v (.int .i64 (bsizeS l : Nat)) ∧ h' = h) := by
  have xl := srows_len
  have xg := srows_get
  have m1 := srows_len l
  refine Call.bodyF b_dots_Size rfl rfl ?_
  unfold c_dots_Size
  repeat' (first
| ((with_reducible apply opsF.op rfl); case hs => first | exact tHT | exact tHS)
| (with_reducible first | apply opsF.nil | apply seqF.nn | apply vcF.seq | apply vcF.region | apply vcF.skip | apply vcF.block | apply vcF.exit | apply vcF.ret | apply vcF.loop | apply seqF.e | apply seqF.r | apply blkF.nn | apply blkF.e | apply blkF.r | apply blkF.o rfl)
| ((with_reducible apply opsF.call); case hx => exact tAG)
| ((with_reducible apply vcF.cond); case hx => exact tEV) <;> ((intro hc; try simp only [Int.reduceLT, Int.reduceLE, Int.reduceEq, Int.reduceNe, Int.cast_ofNat_Int, Int.reduceNeg, reduceCtorEq, ne_eq, ge_iff_le, gt_iff_lt, beq_iff_eq, beq_eq_false_iff_ne, bne_iff_ne, bne_eq_false_iff_eq, nrm, *] at hc) <;> try (exfalso; omega))
| ((with_reducible first | apply retF.r | apply retF.nn); case hv => exact tRS))
  refine LpF.ind rfl (fun i : Nat => l.length - i) (fun i σ h' => h' = h ∧ σ 6 = .list 1 (srows l) tok ∧ σ 7 = .v (.int .i64 (l.length : Nat)) ∧ σ 8 = .v (.int .i64 (i : Nat)) ∧ σ 3 = .v (.int .i64 (bsizeS (l.take i) : Nat)) ∧ i ≤ l.length) ?_ (i := 0) ⟨rfl, rfl, by first | rfl | (rw [← m1]; rfl), rfl, rfl, Nat.zero_le _⟩
  rintro i σ h' ⟨rfl, h0, h1, h7, h8, hi⟩
  have hbt : bsizeS (l.take i) ≤ 1000002000000 := by
    have h1 := bsize_bt hs i
    have h2 : l.length * (1000000 + 2) ≤ 1000000 * (1000000 + 2) := Nat.mul_le_mul_right _ hl
    omega
  rcases Nat.lt_or_ge i l.length with hlt | hge
  · obtain ⟨x, hx⟩ : ∃ x, l[i]? = some x := ⟨_, List.getElem?_eq_getElem hlt⟩
    have hxl := hs x (List.mem_of_getElem? hx)
    have htk := bsize_take hx
    generalize bsizeS (l.take i) = m at *
    repeat' (first
| ((with_reducible apply opsF.op rfl); case hs => first | exact tHT | exact tHS)
| (with_reducible first | apply opsF.nil | apply seqF.nn | apply vcF.seq | apply vcF.region | apply vcF.skip | apply vcF.block | apply vcF.exit | apply vcF.ret | apply vcF.loop | apply seqF.e | apply seqF.r | apply blkF.nn | apply blkF.e | apply blkF.r | apply blkF.o rfl)
| ((with_reducible apply opsF.call); case hx => exact tAG)
| ((with_reducible apply vcF.cond); case hx => exact tEV) <;> ((intro hc; try simp only [Int.reduceLT, Int.reduceLE, Int.reduceEq, Int.reduceNe, Int.cast_ofNat_Int, Int.reduceNeg, reduceCtorEq, ne_eq, ge_iff_le, gt_iff_lt, beq_iff_eq, beq_eq_false_iff_ne, bne_iff_ne, bne_eq_false_iff_eq, nrm, *] at hc) <;> try (exfalso; omega))
| ((with_reducible first | apply retF.r | apply retF.nn); case hv => exact tRS))
    refine ⟨i + 1, by omega, rfl, h0, h1, rfl, ?_, by omega⟩
    conv => lhs; whnf
    rw [htk]
    simp
    omega
  · obtain rfl : i = l.length := by omega
    rw [List.take_length] at h8
    repeat' (first
| ((with_reducible apply opsF.op rfl); case hs => first | exact tHT | exact tHS)
| (with_reducible first | apply opsF.nil | apply seqF.nn | apply vcF.seq | apply vcF.region | apply vcF.skip | apply vcF.block | apply vcF.exit | apply vcF.ret | apply vcF.loop | apply seqF.e | apply seqF.r | apply blkF.nn | apply blkF.e | apply blkF.r | apply blkF.o rfl)
| ((with_reducible apply opsF.call); case hx => exact tAG)
| ((with_reducible apply vcF.cond); case hx => exact tEV) <;> ((intro hc; try simp only [Int.reduceLT, Int.reduceLE, Int.reduceEq, Int.reduceNe, Int.cast_ofNat_Int, Int.reduceNeg, reduceCtorEq, ne_eq, ge_iff_le, gt_iff_lt, beq_iff_eq, beq_eq_false_iff_ne, bne_iff_ne, bne_eq_false_iff_eq, nrm, *] at hc) <;> try (exfalso; omega))
| ((with_reducible first | apply retF.r | apply retF.nn); case hv => exact tRS))
    all_goals exact ⟨rfl, rfl⟩
theorem rsize_call (l : List L8) (tok : Tok) (h : AH) (hl : l.length ≤ 1000000) (hs : ∀ s ∈ l, s.length ≤ 1000000) : Call P w0 ref01_Size [.list 1 (srows l) tok] h (fun v h' => v = .v (.int .i64 (bsizeS l : Nat)) ∧ h' = h) := by
  have xl := srows_len
  have xg := srows_get
  have m1 := srows_len l
  refine Call.bodyF b_ref01_Size rfl rfl ?_
  unfold c_ref01_Size
  repeat' (first
| ((with_reducible apply opsF.op rfl); case hs => first | exact tHT | exact tHS)
| (with_reducible first | apply opsF.nil | apply seqF.nn | apply vcF.seq | apply vcF.region | apply vcF.skip | apply vcF.block | apply vcF.exit | apply vcF.ret | apply vcF.loop | apply seqF.e | apply seqF.r | apply blkF.nn | apply blkF.e | apply blkF.r | apply blkF.o rfl)
| ((with_reducible apply opsF.call); case hx => exact tAG)
| ((with_reducible apply vcF.cond); case hx => exact tEV) <;> ((intro hc; try simp only [Int.reduceLT, Int.reduceLE, Int.reduceEq, Int.reduceNe, Int.cast_ofNat_Int, Int.reduceNeg, reduceCtorEq, ne_eq, ge_iff_le, gt_iff_lt, beq_iff_eq, beq_eq_false_iff_ne, bne_iff_ne, bne_eq_false_iff_eq, nrm, *] at hc) <;> try (exfalso; omega))
| ((with_reducible first | apply retF.r | apply retF.nn); case hv => exact tRS))
  refine LpF.ind rfl (fun i : Nat => l.length - i) (fun i σ h' => h' = h ∧ σ 0 = .list 1 (srows l) tok ∧ σ 4 = .v (.int .i64 (i : Nat)) ∧ σ 3 = .v (.int .i64 (bsizeS (l.take i) : Nat)) ∧ i ≤ l.length) ?_ (i := 0) ⟨rfl, rfl, rfl, rfl, Nat.zero_le _⟩
  rintro i σ h' ⟨rfl, h0, h7, h8, hi⟩
  have hbt : bsizeS (l.take i) ≤ 1000002000000 := by
    have h1 := bsize_bt hs i
    have h2 : l.length * (1000000 + 2) ≤ 1000000 * (1000000 + 2) := Nat.mul_le_mul_right _ hl
    omega
  rcases Nat.lt_or_ge i l.length with hlt | hge
  · obtain ⟨x, hx⟩ : ∃ x, l[i]? = some x := ⟨_, List.getElem?_eq_getElem hlt⟩
    have hxl := hs x (List.mem_of_getElem? hx)
    have htk := bsize_take hx
    generalize bsizeS (l.take i) = m at *
    repeat' (first
| ((with_reducible apply opsF.op rfl); case hs => first | exact tHT | exact tHS)
| (with_reducible first | apply opsF.nil | apply seqF.nn | apply vcF.seq | apply vcF.region | apply vcF.skip | apply vcF.block | apply vcF.exit | apply vcF.ret | apply vcF.loop | apply seqF.e | apply seqF.r | apply blkF.nn | apply blkF.e | apply blkF.r | apply blkF.o rfl)
| ((with_reducible apply opsF.call); case hx => exact tAG)
| ((with_reducible apply vcF.cond); case hx => exact tEV) <;> ((intro hc; try simp only [Int.reduceLT, Int.reduceLE, Int.reduceEq, Int.reduceNe, Int.cast_ofNat_Int, Int.reduceNeg, reduceCtorEq, ne_eq, ge_iff_le, gt_iff_lt, beq_iff_eq, beq_eq_false_iff_ne, bne_iff_ne, bne_eq_false_iff_eq, nrm, *] at hc) <;> try (exfalso; omega))
| ((with_reducible first | apply retF.r | apply retF.nn); case hv => exact tRS))
    refine ⟨i + 1, by omega, rfl, h0, rfl, ?_, by omega⟩
    conv => lhs; whnf
    rw [htk]
    simp
  · obtain rfl : i = l.length := by omega
    rw [List.take_length] at h8
    repeat' (first
| ((with_reducible apply opsF.op rfl); case hs => first | exact tHT | exact tHS)
| (with_reducible first | apply opsF.nil | apply seqF.nn | apply vcF.seq | apply vcF.region | apply vcF.skip | apply vcF.block | apply vcF.exit | apply vcF.ret | apply vcF.loop | apply seqF.e | apply seqF.r | apply blkF.nn | apply blkF.e | apply blkF.r | apply blkF.o rfl)
| ((with_reducible apply opsF.call); case hx => exact tAG)
| ((with_reducible apply vcF.cond); case hx => exact tEV) <;> ((intro hc; try simp only [Int.reduceLT, Int.reduceLE, Int.reduceEq, Int.reduceNe, Int.cast_ofNat_Int, Int.reduceNeg, reduceCtorEq, ne_eq, ge_iff_le, gt_iff_lt, beq_iff_eq, beq_eq_false_iff_ne, bne_iff_ne, bne_eq_false_iff_eq, nrm, *] at hc) <;> try (exfalso; omega))
| ((with_reducible first | apply retF.r | apply retF.nn); case hv => exact tRS))
    all_goals exact ⟨rfl, rfl⟩
theorem dgood_call (l : List L8) (tok : Tok) (h : AH) (hl : l.length ≤ 1000000) (hs : ∀ s ∈ l, s.length ≤ 1000000) : Call P w0 dots_Good [.list 1 (srows l) tok] h (fun v h' => v = .v (.bool (bodyS l)) ∧ h' = h) := by
  have xl := srows_len
  have xg := srows_get
  have m1 := srows_len l
  refine Call.bodyF b_dots_Good rfl rfl ?_
  unfold c_dots_Good
  repeat' (first
| ((with_reducible apply opsF.op rfl); case hs => first | exact tHT | exact tHS)
| (with_reducible first | apply opsF.nil | apply seqF.nn | apply vcF.seq | apply vcF.region | apply vcF.skip | apply vcF.block | apply vcF.exit | apply vcF.ret | apply vcF.loop | apply seqF.e | apply seqF.r | apply blkF.nn | apply blkF.e | apply blkF.r | apply blkF.o rfl)
| ((with_reducible apply opsF.call); case hx => exact tAG)
| ((with_reducible apply opsF.want); (case hg => exact tEV); case hb => exact tNB)
| ((with_reducible apply opsF.skip); (case hg => exact tEV); case hb => exact tNB)
| (first | ((with_reducible apply opsF.case); case hg => exact tEV) | ((with_reducible apply vcF.cond); case hx => exact tEV)) <;> ((intro hc; try simp only [Int.reduceLT, Int.reduceLE, Int.reduceEq, Int.reduceNe, Int.cast_ofNat_Int, Int.reduceNeg, reduceCtorEq, ne_eq, ge_iff_le, gt_iff_lt, beq_iff_eq, beq_eq_false_iff_ne, bne_iff_ne, bne_eq_false_iff_eq, nrm, *] at hc) <;> try (exfalso; omega))
| ((with_reducible apply opsF.und); case hg => rfl)
| ((with_reducible first | apply retF.r | apply retF.nn); case hv => exact tRS))
  refine LpF.ind rfl (fun i : Nat => l.length - i) (fun i σ h' => h' = h ∧ σ 0 = .list 1 (srows l) tok ∧ σ 5 = .list 1 (srows l) tok ∧ σ 6 = .v (.int .i64 (l.length : Nat)) ∧ σ 7 = .v (.int .i64 (i : Nat)) ∧ i ≤ l.length ∧ (l.take i).all lineOkS = true) ?_ (i := 0) ⟨rfl, rfl, rfl, by first | rfl | (rw [← m1]; rfl), rfl, Nat.zero_le _, rfl⟩
  rintro i σ h' ⟨rfl, h0, h5, h6, h7, hi, ha⟩
  rcases Nat.lt_or_ge i l.length with hlt | hge
  · obtain ⟨x, hx⟩ : ∃ x, l[i]? = some x := ⟨_, List.getElem?_eq_getElem hlt⟩
    have hxl := hs x (List.mem_of_getElem? hx)
    have h1 := fun h => idxB_call (w0 := w0) x 0 h
    have h2 := fun h => idxB_call (w0 := w0) x 10 h
    have h3 := fun h => idxB_call (w0 := w0) x 13 h
    have c1 := idx_ge (c := 0) (s := x)
    have c2 := idx_ge (c := 10) (s := x)
    have c3 := idx_ge (c := 13) (s := x)
    generalize Lib.indexByte x 0 = n1 at *
    generalize Lib.indexByte x 10 = n2 at *
    generalize Lib.indexByte x 13 = n3 at *
    have hno : lineOkS x = false → bodyS l = false := fun e => by
      rw [bodyS, all_bad hx e]; rfl
    have hok : lineOkS x = (!(decide (0 ≤ n1)) && !(decide (0 ≤ n2)) && !(decide (0 ≤ n3)) && decide (x.length ≤ 997)) := by rw [lineOkS, c1, c2, c3]
    clear c1 c2 c3
    cases hb : lineOkS x with
    | false =>
      rw [hno hb]
      rw [hb] at hok
      clear hno ha hs
      have hok2 : 0 ≤ n1 ∨ 0 ≤ n2 ∨ 0 ≤ n3 ∨ 997 < x.length := by
        have := hok.symm
        simp at this
        omega
      clear hok hb
      repeat' (first
| ((with_reducible apply opsF.op rfl); case hs => first | exact tHT | exact tHS)
| (with_reducible first | apply opsF.nil | apply seqF.nn | apply vcF.seq | apply vcF.region | apply vcF.skip | apply vcF.block | apply vcF.exit | apply vcF.ret | apply vcF.loop | apply seqF.e | apply seqF.r | apply blkF.nn | apply blkF.e | apply blkF.r | apply blkF.o rfl)
| ((with_reducible apply opsF.call); case hx => exact tAG)
| ((with_reducible apply opsF.want); (case hg => exact tEV); case hb => exact tNB)
| ((with_reducible apply opsF.skip); (case hg => exact tEV); case hb => exact tNB)
| (first | ((with_reducible apply opsF.case); case hg => exact tEV) | ((with_reducible apply vcF.cond); case hx => exact tEV)) <;> ((intro hc; try simp only [Int.reduceLT, Int.reduceLE, Int.reduceEq, Int.reduceNe, Int.cast_ofNat_Int, Int.reduceNeg, reduceCtorEq, ne_eq, ge_iff_le, gt_iff_lt, beq_iff_eq, beq_eq_false_iff_ne, bne_iff_ne, bne_eq_false_iff_eq, nrm, *] at hc) <;> try (exfalso; omega))
| ((with_reducible apply opsF.und); case hg => rfl)
| ((with_reducible first | apply retF.r | apply retF.nn); case hv => exact tRS)
| ((refine Call.use (h1 _) ?_))
| ((refine Call.use (h2 _) ?_))
| ((refine Call.use (h3 _) ?_)))
      all_goals first | exact ⟨rfl, rfl⟩ | (exfalso; omega)
    | true =>
      rw [hb] at hok
      have hok2 : ¬ 0 ≤ n1 ∧ ¬ 0 ≤ n2 ∧ ¬ 0 ≤ n3 ∧ x.length ≤ 997 := by
        have := hok.symm
        simp at this
        omega
      have hnx : (l.take (i + 1)).all lineOkS = true := by rw [List.take_add_one, hx, List.all_append, ha]; simp [hb]
      obtain ⟨q1, q2, q3, q4⟩ := hok2
      clear hok hno hs ha hb
      repeat' (first
| ((with_reducible apply opsF.op rfl); case hs => first | exact tHT | exact tHS)
| (with_reducible first | apply opsF.nil | apply seqF.nn | apply vcF.seq | apply vcF.region | apply vcF.skip | apply vcF.block | apply vcF.exit | apply vcF.ret | apply vcF.loop | apply seqF.e | apply seqF.r | apply blkF.nn | apply blkF.e | apply blkF.r | apply blkF.o rfl)
| ((with_reducible apply opsF.call); case hx => exact tAG)
| ((with_reducible apply opsF.want); (case hg => exact tEV); case hb => exact tNB)
| ((with_reducible apply opsF.skip); (case hg => exact tEV); case hb => exact tNB)
| (first | ((with_reducible apply opsF.case); case hg => exact tEV) | ((with_reducible apply vcF.cond); case hx => exact tEV)) <;> ((intro hc; try simp only [Int.reduceLT, Int.reduceLE, Int.reduceEq, Int.reduceNe, Int.cast_ofNat_Int, Int.reduceNeg, reduceCtorEq, ne_eq, ge_iff_le, gt_iff_lt, beq_iff_eq, beq_eq_false_iff_ne, bne_iff_ne, bne_eq_false_iff_eq, nrm, *] at hc) <;> try (exfalso; omega))
| ((with_reducible apply opsF.und); case hg => rfl)
| ((with_reducible first | apply retF.r | apply retF.nn); case hv => exact tRS)
| ((refine Call.use (h1 _) ?_))
| ((refine Call.use (h2 _) ?_))
| ((refine Call.use (h3 _) ?_)))
      all_goals exact ⟨i + 1, by omega, rfl, h0, h5, h6, rfl, by omega, hnx⟩
  · obtain rfl : i = l.length := by omega
    rw [List.take_length] at ha
    have hsz := fun h => dsize_call (w0 := w0) l tok h hl hs
    rw [bodyS, ha]
    clear ha hs
    generalize bsizeS l = q at *
    repeat' (first
| ((with_reducible apply opsF.op rfl); case hs => first | exact tHT | exact tHS)
| (with_reducible first | apply opsF.nil | apply seqF.nn | apply vcF.seq | apply vcF.region | apply vcF.skip | apply vcF.block | apply vcF.exit | apply vcF.ret | apply vcF.loop | apply seqF.e | apply seqF.r | apply blkF.nn | apply blkF.e | apply blkF.r | apply blkF.o rfl)
| ((with_reducible apply opsF.call); case hx => exact tAG)
| ((with_reducible apply opsF.want); (case hg => exact tEV); case hb => exact tNB)
| ((with_reducible apply opsF.skip); (case hg => exact tEV); case hb => exact tNB)
| (first | ((with_reducible apply opsF.case); case hg => exact tEV) | ((with_reducible apply vcF.cond); case hx => exact tEV)) <;> ((intro hc; try simp only [Int.reduceLT, Int.reduceLE, Int.reduceEq, Int.reduceNe, Int.cast_ofNat_Int, Int.reduceNeg, reduceCtorEq, ne_eq, ge_iff_le, gt_iff_lt, beq_iff_eq, beq_eq_false_iff_ne, bne_iff_ne, bne_eq_false_iff_eq, nrm, *] at hc) <;> try (exfalso; omega))
| ((with_reducible apply opsF.und); case hg => rfl)
| ((with_reducible first | apply retF.r | apply retF.nn); case hv => exact tRS)
| ((refine Call.use (hsz _) ?_)))
    all_goals (refine ⟨?_, rfl⟩; simp; try omega)
theorem rgood_call (l : List L8) (tok : Tok) (h : AH) (hl : l.length ≤ 1000000) (hs : ∀ s ∈ l, s.length ≤ 1000000) : Call P w0 ref01_Good [.list 1 (srows l) tok] h (fun v h' => v = .v (.bool (bodyS l)) ∧ h' = h) := by
  have xl := srows_len
  have xg := srows_get
  have m1 := srows_len l
  refine Call.bodyF b_ref01_Good rfl rfl ?_
  unfold c_ref01_Good
  repeat' (first
| ((with_reducible apply opsF.op rfl); case hs => first | exact tHT | exact tHS)
| (with_reducible first | apply opsF.nil | apply seqF.nn | apply vcF.seq | apply vcF.region | apply vcF.skip | apply vcF.block | apply vcF.exit | apply vcF.ret | apply vcF.loop | apply seqF.e | apply seqF.r | apply blkF.nn | apply blkF.e | apply blkF.r | apply blkF.o rfl)
| ((with_reducible apply opsF.call); case hx => exact tAG)
| ((with_reducible apply opsF.want); (case hg => exact tEV); case hb => exact tNB)
| ((with_reducible apply opsF.skip); (case hg => exact tEV); case hb => exact tNB)
| (first | ((with_reducible apply opsF.case); case hg => exact tEV) | ((with_reducible apply vcF.cond); case hx => exact tEV)) <;> ((intro hc; try simp only [Int.reduceLT, Int.reduceLE, Int.reduceEq, Int.reduceNe, Int.cast_ofNat_Int, Int.reduceNeg, reduceCtorEq, ne_eq, ge_iff_le, gt_iff_lt, beq_iff_eq, beq_eq_false_iff_ne, bne_iff_ne, bne_eq_false_iff_eq, nrm, *] at hc) <;> try (exfalso; omega))
| ((with_reducible apply opsF.und); case hg => rfl)
| ((with_reducible first | apply retF.r | apply retF.nn); case hv => exact tRS))
  refine LpF.ind rfl (fun i : Nat => l.length - i) (fun i σ h' => h' = h ∧ σ 0 = .list 1 (srows l) tok ∧ σ 3 = .v (.int .i64 (i : Nat)) ∧ i ≤ l.length ∧ (l.take i).all lineOkS = true) ?_ (i := 0) ⟨rfl, rfl, rfl, Nat.zero_le _, rfl⟩
  rintro i σ h' ⟨rfl, h0, h7, hi, ha⟩
  rcases Nat.lt_or_ge i l.length with hlt | hge
  · obtain ⟨x, hx⟩ : ∃ x, l[i]? = some x := ⟨_, List.getElem?_eq_getElem hlt⟩
    have hxl := hs x (List.mem_of_getElem? hx)
    have h1 := fun h => rin_call (w0 := w0) x 0 h (by omega)
    have h2 := fun h => rin_call (w0 := w0) x 10 h (by omega)
    have h3 := fun h => rin_call (w0 := w0) x 13 h (by omega)
    have hno : lineOkS x = false → bodyS l = false := fun e => by
      rw [bodyS, all_bad hx e]; rfl
    have hok : lineOkS x = (!x.contains 0 && !x.contains 10 && !x.contains 13 && decide (x.length ≤ 997)) := rfl
    generalize x.contains 0 = n1 at *
    generalize x.contains 10 = n2 at *
    generalize x.contains 13 = n3 at *
    cases hb : lineOkS x with
    | false =>
      rw [hno hb]
      rw [hb] at hok
      clear hno ha hs hb
      have hok2 : n1 = true ∨ n2 = true ∨ n3 = true ∨ 997 < x.length := by
        cases n1 <;> cases n2 <;> cases n3 <;> simp at hok ⊢
        omega
      clear hok
      rcases Nat.lt_or_ge 997 x.length with hg | hg
      · repeat' (first
| ((with_reducible apply opsF.op rfl); case hs => first | exact tHT | exact tHS)
| (with_reducible first | apply opsF.nil | apply seqF.nn | apply vcF.seq | apply vcF.region | apply vcF.skip | apply vcF.block | apply vcF.exit | apply vcF.ret | apply vcF.loop | apply seqF.e | apply seqF.r | apply blkF.nn | apply blkF.e | apply blkF.r | apply blkF.o rfl)
| ((with_reducible apply opsF.call); case hx => exact tAG)
| ((with_reducible apply opsF.want); (case hg => exact tEV); case hb => exact tNB)
| ((with_reducible apply opsF.skip); (case hg => exact tEV); case hb => exact tNB)
| (first | ((with_reducible apply opsF.case); case hg => exact tEV) | ((with_reducible apply vcF.cond); case hx => exact tEV)) <;> ((intro hc; try simp only [Int.reduceLT, Int.reduceLE, Int.reduceEq, Int.reduceNe, Int.cast_ofNat_Int, Int.reduceNeg, reduceCtorEq, ne_eq, ge_iff_le, gt_iff_lt, beq_iff_eq, beq_eq_false_iff_ne, bne_iff_ne, bne_eq_false_iff_eq, nrm, *] at hc) <;> try (exfalso; omega))
| ((with_reducible apply opsF.und); case hg => rfl)
| ((with_reducible first | apply retF.r | apply retF.nn); case hv => exact tRS)
| ((refine Call.use (h1 _) ?_))
| ((refine Call.use (h2 _) ?_))
| ((refine Call.use (h3 _) ?_)))
        all_goals exact ⟨rfl, rfl⟩
      · cases n1 <;> cases n2 <;> cases n3 <;> first
          | (exfalso; simp at hok2; omega)
          | (repeat' (first
| ((with_reducible apply opsF.op rfl); case hs => first | exact tHT | exact tHS)
| (with_reducible first | apply opsF.nil | apply seqF.nn | apply vcF.seq | apply vcF.region | apply vcF.skip | apply vcF.block | apply vcF.exit | apply vcF.ret | apply vcF.loop | apply seqF.e | apply seqF.r | apply blkF.nn | apply blkF.e | apply blkF.r | apply blkF.o rfl)
| ((with_reducible apply opsF.call); case hx => exact tAG)
| ((with_reducible apply opsF.want); (case hg => exact tEV); case hb => exact tNB)
| ((with_reducible apply opsF.skip); (case hg => exact tEV); case hb => exact tNB)
| (first | ((with_reducible apply opsF.case); case hg => exact tEV) | ((with_reducible apply vcF.cond); case hx => exact tEV)) <;> ((intro hc; try simp only [Int.reduceLT, Int.reduceLE, Int.reduceEq, Int.reduceNe, Int.cast_ofNat_Int, Int.reduceNeg, reduceCtorEq, ne_eq, ge_iff_le, gt_iff_lt, beq_iff_eq, beq_eq_false_iff_ne, bne_iff_ne, bne_eq_false_iff_eq, nrm, *] at hc) <;> try (exfalso; omega))
| ((with_reducible apply opsF.und); case hg => rfl)
| ((with_reducible first | apply retF.r | apply retF.nn); case hv => exact tRS)
| ((refine Call.use (h1 _) ?_))
| ((refine Call.use (h2 _) ?_))
| ((refine Call.use (h3 _) ?_)))
             all_goals exact ⟨rfl, rfl⟩)
    | true =>
      rw [hb] at hok
      have hok2 : n1 = false ∧ n2 = false ∧ n3 = false ∧ x.length ≤ 997 := by
        cases n1 <;> cases n2 <;> cases n3 <;> simp at hok ⊢
        exact hok
      have hnx : (l.take (i + 1)).all lineOkS = true := by rw [List.take_add_one, hx, List.all_append, ha]; simp [hb]
      obtain ⟨rfl, rfl, rfl, q4⟩ := hok2
      clear hok hno hs ha hb
      repeat' (first
| ((with_reducible apply opsF.op rfl); case hs => first | exact tHT | exact tHS)
| (with_reducible first | apply opsF.nil | apply seqF.nn | apply vcF.seq | apply vcF.region | apply vcF.skip | apply vcF.block | apply vcF.exit | apply vcF.ret | apply vcF.loop | apply seqF.e | apply seqF.r | apply blkF.nn | apply blkF.e | apply blkF.r | apply blkF.o rfl)
| ((with_reducible apply opsF.call); case hx => exact tAG)
| ((with_reducible apply opsF.want); (case hg => exact tEV); case hb => exact tNB)
| ((with_reducible apply opsF.skip); (case hg => exact tEV); case hb => exact tNB)
| (first | ((with_reducible apply opsF.case); case hg => exact tEV) | ((with_reducible apply vcF.cond); case hx => exact tEV)) <;> ((intro hc; try simp only [Int.reduceLT, Int.reduceLE, Int.reduceEq, Int.reduceNe, Int.cast_ofNat_Int, Int.reduceNeg, reduceCtorEq, ne_eq, ge_iff_le, gt_iff_lt, beq_iff_eq, beq_eq_false_iff_ne, bne_iff_ne, bne_eq_false_iff_eq, nrm, *] at hc) <;> try (exfalso; omega))
| ((with_reducible apply opsF.und); case hg => rfl)
| ((with_reducible first | apply retF.r | apply retF.nn); case hv => exact tRS)
| ((refine Call.use (h1 _) ?_))
| ((refine Call.use (h2 _) ?_))
| ((refine Call.use (h3 _) ?_)))
      all_goals exact ⟨i + 1, by omega, rfl, h0, rfl, by omega, hnx⟩
  · obtain rfl : i = l.length := by omega
    rw [List.take_length] at ha
    have hsz := fun h => rsize_call (w0 := w0) l tok h hl hs
    rw [bodyS, ha]
    clear ha hs
    generalize bsizeS l = q at *
    repeat' (first
| ((with_reducible apply opsF.op rfl); case hs => first | exact tHT | exact tHS)
| (with_reducible first | apply opsF.nil | apply seqF.nn | apply vcF.seq | apply vcF.region | apply vcF.skip | apply vcF.block | apply vcF.exit | apply vcF.ret | apply vcF.loop | apply seqF.e | apply seqF.r | apply blkF.nn | apply blkF.e | apply blkF.r | apply blkF.o rfl)
| ((with_reducible apply opsF.call); case hx => exact tAG)
| ((with_reducible apply opsF.want); (case hg => exact tEV); case hb => exact tNB)
| ((with_reducible apply opsF.skip); (case hg => exact tEV); case hb => exact tNB)
| (first | ((with_reducible apply opsF.case); case hg => exact tEV) | ((with_reducible apply vcF.cond); case hx => exact tEV)) <;> ((intro hc; try simp only [Int.reduceLT, Int.reduceLE, Int.reduceEq, Int.reduceNe, Int.cast_ofNat_Int, Int.reduceNeg, reduceCtorEq, ne_eq, ge_iff_le, gt_iff_lt, beq_iff_eq, beq_eq_false_iff_ne, bne_iff_ne, bne_eq_false_iff_eq, nrm, *] at hc) <;> try (exfalso; omega))
| ((with_reducible apply opsF.und); case hg => rfl)
| ((with_reducible first | apply retF.r | apply retF.nn); case hv => exact tRS)
| ((refine Call.use (hsz _) ?_)))
    all_goals (refine ⟨?_, rfl⟩; simp; try omega)
/-! messages as values -/
def msgC (m : Msg) (t1 t2 t3 : Tok) : List AV := [.v (.int .i64 m.1), .v (.int .i64 m.2.1), .v (.int .i64 m.2.2.1), .v (.int .i64 m.2.2.2.1), .v (.int .i64 m.2.2.2.2.1), .v (.string (bs m.2.2.2.2.2.1)), .list 1 (srows m.2.2.2.2.2.2.1) t1, .list 1 (irows m.2.2.2.2.2.2.2.1) t2, .list 1 (srows m.2.2.2.2.2.2.2.2) t3]
structure MOk (m : Msg) : Prop where
  f : m.2.2.2.2.2.1.length ≤ 1000000
  rl : m.2.2.2.2.2.2.1.length ≤ 1000000
  rs : ∀ s ∈ m.2.2.2.2.2.2.1, s.length ≤ 1000000
  ml : m.2.2.2.2.2.2.2.1.length ≤ 1000000
  bl : m.2.2.2.2.2.2.2.2.length ≤ 1000000
  bs : ∀ s ∈ m.2.2.2.2.2.2.2.2, s.length ≤ 1000000
theorem conf_p (l : List L8) (tok : Tok) (h : AH) (hl : l.length ≤ 1000000) (hs : ∀ s ∈ l, s.length ≤ 1000000) : Call P w0 slices_ContainsFunc_string_string [.list 1 (srows l) tok, .func (.func env_Good_3) [] []] h (fun v h' => v = .v (.bool (l.any fun s => !mbS s)) ∧ h' = h) :=
  Call.pure (.v _) (conf_call env_Good_3 (fun s => !mbS s) l tok (fun s hm h => call_ext (nmbox_call s h (by have := hs s hm; omega))) h (by omega))
theorem any_nots {α : Type} (p : α → Bool) (l : List α) : l.any (fun x => !p x) = !l.all p := any_not p l
theorem egood_call (m : Msg) (t1 t2 t3 : Tok) (h : AH) (hm : MOk m) : Call P w0 env_Good [.agg (msgC m t1 t2 t3)] h (fun v h' => v = .v (.bool (goodM m)) ∧ h' = h) := by
  refine Call.pure (.v _) ?_
  obtain ⟨n1, n2, n3, n4, n5, f, rc, mk, bd⟩ := m
  obtain ⟨hf, hrl, hrs, hml, hbl, hbs⟩ := hm
  simp only at hf hrl hrs hml hbl hbs
  have hN := fun (id : Nat) (cap : Option Nat) h ho hlt => confr_call (w0 := w0) env_Good_2 (fun n => !timeS n) [n1, n2, n3, n4, n5] id cap (fun s h => ntime_call s h) h ho hlt (by simp)
  have hF := fun h => mbox_call (w0 := w0) f h (by omega)
  have hR := fun h => conf_p (w0 := w0) rc t1 h hrl hrs
  have hM := fun h => confi_call (w0 := w0) env_Good_1 (fun n => !markS n) mk t2 (fun s h => odd_call s h) h (by omega)
  have hB := fun h => dgood_call (w0 := w0) bd t3 h hbl hbs
  rw [any_nots] at hR hM
  have hN2 : ([n1, n2, n3, n4, n5].any fun n => !timeS n) = !(numsS (n1, n2, n3, n4, n5, f, rc, mk, bd)) := by
    simp only [List.any_cons, List.any_nil, numsS]
    cases timeS n1 <;> cases timeS n2 <;> cases timeS n3 <;> cases timeS n4 <;> cases timeS n5 <;> rfl
  rw [hN2] at hN
  clear hN2
  have xl := srows_len
  have yl := irows_len
  have e1 := srows_len rc
  have e2 := irows_len mk
  have hg : goodM (n1, n2, n3, n4, n5, f, rc, mk, bd) = (numsS (n1, n2, n3, n4, n5, f, rc, mk, bd) && (f.isEmpty || mbS f) && decide (1 ≤ rc.length) && decide (rc.length ≤ 20) && rc.all mbS && decide (mk.length ≤ 50) && mk.all markS && bodyS bd) := rfl
  rw [hg]
  have hE2 : ∀ o1 o2 o3, Ext h (((h.alloc o1).alloc o2).set (h.n + 1) o3) := fun o1 o2 o3 => ((Ext.alloc _ _).trans (Ext.alloc _ _)).set (by omega) _
  clear hg hrs hbs
  generalize numsS (n1, n2, n3, n4, n5, f, rc, mk, bd) = q1 at *
  generalize rc.all mbS = q3 at *
  generalize mk.all markS = q4 at *
  generalize bodyS bd = q5 at *
  refine Call.bodyF b_env_Good rfl rfl ?_
  unfold c_env_Good msgC
  dsimp only
  cases q1 with
  | false =>
    repeat' (first
| ((with_reducible apply opsF.op rfl); case hs => first | exact tHT | exact tHS)
| (with_reducible first | apply opsF.nil | apply seqF.nn | apply vcF.seq | apply vcF.region | apply vcF.skip | apply vcF.ret | apply seqF.r)
| ((with_reducible apply opsF.call); case hx => exact tAG)
| ((with_reducible apply opsF.want); (case hg => exact tEV); case hb => exact tNB)
| ((with_reducible apply opsF.skip); (case hg => exact tEV); case hb => exact tNB)
| (first | ((with_reducible apply opsF.case); case hg => exact tEV) | ((with_reducible apply vcF.cond); case hx => exact tEV)) <;> ((intro hc; try simp only [Int.reduceLT, Int.reduceLE, Int.reduceEq, Int.reduceNe, Int.cast_ofNat_Int, Int.reduceNeg, reduceCtorEq, ne_eq, ge_iff_le, gt_iff_lt, beq_iff_eq, beq_eq_false_iff_ne, bne_iff_ne, bne_eq_false_iff_eq, nrm, *] at hc) <;> try (exfalso; omega))
| ((with_reducible apply opsF.und); case hg => rfl)
| ((with_reducible first | apply retF.r | apply retF.nn); case hv => exact tRS)
| ((refine Call.use (hN _ _ _ (by simp [alloc_at, set_at, alloc_n, set_n, icells]) (by simp [alloc_at, set_at, alloc_n, set_n])) ?_))
| ((refine Call.use (hF _) ?_))
| ((refine Call.use (hR _) ?_))
| ((refine Call.use (hM _) ?_))
| ((refine Call.use (hB _) ?_)))
    all_goals (refine ⟨?_, hE2 _ _ _⟩; first | rfl | (simp; done) | (simp; omega))
  | true =>
    cases f with
    | nil =>
      clear hF
      rcases Nat.lt_or_ge rc.length 1 with g1 | g1
      · repeat' (first
| ((with_reducible apply opsF.op rfl); case hs => first | exact tHT | exact tHS)
| (with_reducible first | apply opsF.nil | apply seqF.nn | apply vcF.seq | apply vcF.region | apply vcF.skip | apply vcF.ret | apply seqF.r)
| ((with_reducible apply opsF.call); case hx => exact tAG)
| ((with_reducible apply opsF.want); (case hg => exact tEV); case hb => exact tNB)
| ((with_reducible apply opsF.skip); (case hg => exact tEV); case hb => exact tNB)
| (first | ((with_reducible apply opsF.case); case hg => exact tEV) | ((with_reducible apply vcF.cond); case hx => exact tEV)) <;> ((intro hc; try simp only [Int.reduceLT, Int.reduceLE, Int.reduceEq, Int.reduceNe, Int.cast_ofNat_Int, Int.reduceNeg, reduceCtorEq, ne_eq, ge_iff_le, gt_iff_lt, beq_iff_eq, beq_eq_false_iff_ne, bne_iff_ne, bne_eq_false_iff_eq, nrm, *] at hc) <;> try (exfalso; omega))
| ((with_reducible apply opsF.und); case hg => rfl)
| ((with_reducible first | apply retF.r | apply retF.nn); case hv => exact tRS)
| ((refine Call.use (hN _ _ _ (by simp [alloc_at, set_at, alloc_n, set_n, icells]) (by simp [alloc_at, set_at, alloc_n, set_n])) ?_))
| ((refine Call.use (hR _) ?_))
| ((refine Call.use (hM _) ?_))
| ((refine Call.use (hB _) ?_)))
        all_goals (refine ⟨?_, hE2 _ _ _⟩; first | rfl | (simp; done) | (simp; omega))
      rcases Nat.lt_or_ge 20 rc.length with g2 | g2
      · repeat' (first
| ((with_reducible apply opsF.op rfl); case hs => first | exact tHT | exact tHS)
| (with_reducible first | apply opsF.nil | apply seqF.nn | apply vcF.seq | apply vcF.region | apply vcF.skip | apply vcF.ret | apply seqF.r)
| ((with_reducible apply opsF.call); case hx => exact tAG)
| ((with_reducible apply opsF.want); (case hg => exact tEV); case hb => exact tNB)
| ((with_reducible apply opsF.skip); (case hg => exact tEV); case hb => exact tNB)
| (first | ((with_reducible apply opsF.case); case hg => exact tEV) | ((with_reducible apply vcF.cond); case hx => exact tEV)) <;> ((intro hc; try simp only [Int.reduceLT, Int.reduceLE, Int.reduceEq, Int.reduceNe, Int.cast_ofNat_Int, Int.reduceNeg, reduceCtorEq, ne_eq, ge_iff_le, gt_iff_lt, beq_iff_eq, beq_eq_false_iff_ne, bne_iff_ne, bne_eq_false_iff_eq, nrm, *] at hc) <;> try (exfalso; omega))
| ((with_reducible apply opsF.und); case hg => rfl)
| ((with_reducible first | apply retF.r | apply retF.nn); case hv => exact tRS)
| ((refine Call.use (hN _ _ _ (by simp [alloc_at, set_at, alloc_n, set_n, icells]) (by simp [alloc_at, set_at, alloc_n, set_n])) ?_))
| ((refine Call.use (hR _) ?_))
| ((refine Call.use (hM _) ?_))
| ((refine Call.use (hB _) ?_)))
        all_goals (refine ⟨?_, hE2 _ _ _⟩; first | rfl | (simp; done) | (simp; omega))
      cases q3 with
      | false =>
        repeat' (first
| ((with_reducible apply opsF.op rfl); case hs => first | exact tHT | exact tHS)
| (with_reducible first | apply opsF.nil | apply seqF.nn | apply vcF.seq | apply vcF.region | apply vcF.skip | apply vcF.ret | apply seqF.r)
| ((with_reducible apply opsF.call); case hx => exact tAG)
| ((with_reducible apply opsF.want); (case hg => exact tEV); case hb => exact tNB)
| ((with_reducible apply opsF.skip); (case hg => exact tEV); case hb => exact tNB)
| (first | ((with_reducible apply opsF.case); case hg => exact tEV) | ((with_reducible apply vcF.cond); case hx => exact tEV)) <;> ((intro hc; try simp only [Int.reduceLT, Int.reduceLE, Int.reduceEq, Int.reduceNe, Int.cast_ofNat_Int, Int.reduceNeg, reduceCtorEq, ne_eq, ge_iff_le, gt_iff_lt, beq_iff_eq, beq_eq_false_iff_ne, bne_iff_ne, bne_eq_false_iff_eq, nrm, *] at hc) <;> try (exfalso; omega))
| ((with_reducible apply opsF.und); case hg => rfl)
| ((with_reducible first | apply retF.r | apply retF.nn); case hv => exact tRS)
| ((refine Call.use (hN _ _ _ (by simp [alloc_at, set_at, alloc_n, set_n, icells]) (by simp [alloc_at, set_at, alloc_n, set_n])) ?_))
| ((refine Call.use (hR _) ?_))
| ((refine Call.use (hM _) ?_))
| ((refine Call.use (hB _) ?_)))
        all_goals (refine ⟨?_, hE2 _ _ _⟩; first | rfl | (simp; done) | (simp; omega))
      | true =>
        rcases Nat.lt_or_ge 50 mk.length with g3 | g3
        · repeat' (first
| ((with_reducible apply opsF.op rfl); case hs => first | exact tHT | exact tHS)
| (with_reducible first | apply opsF.nil | apply seqF.nn | apply vcF.seq | apply vcF.region | apply vcF.skip | apply vcF.ret | apply seqF.r)
| ((with_reducible apply opsF.call); case hx => exact tAG)
| ((with_reducible apply opsF.want); (case hg => exact tEV); case hb => exact tNB)
| ((with_reducible apply opsF.skip); (case hg => exact tEV); case hb => exact tNB)
| (first | ((with_reducible apply opsF.case); case hg => exact tEV) | ((with_reducible apply vcF.cond); case hx => exact tEV)) <;> ((intro hc; try simp only [Int.reduceLT, Int.reduceLE, Int.reduceEq, Int.reduceNe, Int.cast_ofNat_Int, Int.reduceNeg, reduceCtorEq, ne_eq, ge_iff_le, gt_iff_lt, beq_iff_eq, beq_eq_false_iff_ne, bne_iff_ne, bne_eq_false_iff_eq, nrm, *] at hc) <;> try (exfalso; omega))
| ((with_reducible apply opsF.und); case hg => rfl)
| ((with_reducible first | apply retF.r | apply retF.nn); case hv => exact tRS)
| ((refine Call.use (hN _ _ _ (by simp [alloc_at, set_at, alloc_n, set_n, icells]) (by simp [alloc_at, set_at, alloc_n, set_n])) ?_))
| ((refine Call.use (hR _) ?_))
| ((refine Call.use (hM _) ?_))
| ((refine Call.use (hB _) ?_)))
          all_goals (refine ⟨?_, hE2 _ _ _⟩; first | rfl | (simp; done) | (simp; omega))
        cases q4 with
        | false =>
          repeat' (first
| ((with_reducible apply opsF.op rfl); case hs => first | exact tHT | exact tHS)
| (with_reducible first | apply opsF.nil | apply seqF.nn | apply vcF.seq | apply vcF.region | apply vcF.skip | apply vcF.ret | apply seqF.r)
| ((with_reducible apply opsF.call); case hx => exact tAG)
| ((with_reducible apply opsF.want); (case hg => exact tEV); case hb => exact tNB)
| ((with_reducible apply opsF.skip); (case hg => exact tEV); case hb => exact tNB)
| (first | ((with_reducible apply opsF.case); case hg => exact tEV) | ((with_reducible apply vcF.cond); case hx => exact tEV)) <;> ((intro hc; try simp only [Int.reduceLT, Int.reduceLE, Int.reduceEq, Int.reduceNe, Int.cast_ofNat_Int, Int.reduceNeg, reduceCtorEq, ne_eq, ge_iff_le, gt_iff_lt, beq_iff_eq, beq_eq_false_iff_ne, bne_iff_ne, bne_eq_false_iff_eq, nrm, *] at hc) <;> try (exfalso; omega))
| ((with_reducible apply opsF.und); case hg => rfl)
| ((with_reducible first | apply retF.r | apply retF.nn); case hv => exact tRS)
| ((refine Call.use (hN _ _ _ (by simp [alloc_at, set_at, alloc_n, set_n, icells]) (by simp [alloc_at, set_at, alloc_n, set_n])) ?_))
| ((refine Call.use (hR _) ?_))
| ((refine Call.use (hM _) ?_))
| ((refine Call.use (hB _) ?_)))
          all_goals (refine ⟨?_, hE2 _ _ _⟩; first | rfl | (simp; done) | (simp; omega))
        | true =>
          repeat' (first
| ((with_reducible apply opsF.op rfl); case hs => first | exact tHT | exact tHS)
| (with_reducible first | apply opsF.nil | apply seqF.nn | apply vcF.seq | apply vcF.region | apply vcF.skip | apply vcF.ret | apply seqF.r)
| ((with_reducible apply opsF.call); case hx => exact tAG)
| ((with_reducible apply opsF.want); (case hg => exact tEV); case hb => exact tNB)
| ((with_reducible apply opsF.skip); (case hg => exact tEV); case hb => exact tNB)
| (first | ((with_reducible apply opsF.case); case hg => exact tEV) | ((with_reducible apply vcF.cond); case hx => exact tEV)) <;> ((intro hc; try simp only [Int.reduceLT, Int.reduceLE, Int.reduceEq, Int.reduceNe, Int.cast_ofNat_Int, Int.reduceNeg, reduceCtorEq, ne_eq, ge_iff_le, gt_iff_lt, beq_iff_eq, beq_eq_false_iff_ne, bne_iff_ne, bne_eq_false_iff_eq, nrm, *] at hc) <;> try (exfalso; omega))
| ((with_reducible apply opsF.und); case hg => rfl)
| ((with_reducible first | apply retF.r | apply retF.nn); case hv => exact tRS)
| ((refine Call.use (hN _ _ _ (by simp [alloc_at, set_at, alloc_n, set_n, icells]) (by simp [alloc_at, set_at, alloc_n, set_n])) ?_))
| ((refine Call.use (hR _) ?_))
| ((refine Call.use (hM _) ?_))
| ((refine Call.use (hB _) ?_)))
          all_goals (refine ⟨?_, hE2 _ _ _⟩; first | rfl | (simp; done) | (simp; omega))
    | cons c f =>
      have hfe : (c :: f).isEmpty = false := rfl
      have hfn : ¬ (c :: f) = [] := by simp
      rw [hfe]
      generalize mbS (c :: f) = q2 at *
      generalize c :: f = f at *
      cases q2 with
      | false =>
        repeat' (first
| ((with_reducible apply opsF.op rfl); case hs => first | exact tHT | exact tHS)
| (with_reducible first | apply opsF.nil | apply seqF.nn | apply vcF.seq | apply vcF.region | apply vcF.skip | apply vcF.ret | apply seqF.r)
| ((with_reducible apply opsF.call); case hx => exact tAG)
| ((with_reducible apply opsF.want); (case hg => exact tEV); case hb => exact tNB)
| ((with_reducible apply opsF.skip); (case hg => exact tEV); case hb => exact tNB)
| (first | ((with_reducible apply opsF.case); case hg => exact tEV) | ((with_reducible apply vcF.cond); case hx => exact tEV)) <;> ((intro hc; try simp only [Int.reduceLT, Int.reduceLE, Int.reduceEq, Int.reduceNe, Int.cast_ofNat_Int, Int.reduceNeg, reduceCtorEq, ne_eq, ge_iff_le, gt_iff_lt, beq_iff_eq, beq_eq_false_iff_ne, bne_iff_ne, bne_eq_false_iff_eq, nrm, *] at hc) <;> try (exfalso; omega))
| ((with_reducible apply opsF.und); case hg => rfl)
| ((with_reducible first | apply retF.r | apply retF.nn); case hv => exact tRS)
| ((refine Call.use (hN _ _ _ (by simp [alloc_at, set_at, alloc_n, set_n, icells]) (by simp [alloc_at, set_at, alloc_n, set_n])) ?_))
| ((refine Call.use (hF _) ?_))
| ((refine Call.use (hR _) ?_))
| ((refine Call.use (hM _) ?_))
| ((refine Call.use (hB _) ?_)))
        all_goals (refine ⟨?_, hE2 _ _ _⟩; first | rfl | (simp; done) | (simp; omega))
      | true =>
        rcases Nat.lt_or_ge rc.length 1 with g1 | g1
        · repeat' (first
| ((with_reducible apply opsF.op rfl); case hs => first | exact tHT | exact tHS)
| (with_reducible first | apply opsF.nil | apply seqF.nn | apply vcF.seq | apply vcF.region | apply vcF.skip | apply vcF.ret | apply seqF.r)
| ((with_reducible apply opsF.call); case hx => exact tAG)
| ((with_reducible apply opsF.want); (case hg => exact tEV); case hb => exact tNB)
| ((with_reducible apply opsF.skip); (case hg => exact tEV); case hb => exact tNB)
| (first | ((with_reducible apply opsF.case); case hg => exact tEV) | ((with_reducible apply vcF.cond); case hx => exact tEV)) <;> ((intro hc; try simp only [Int.reduceLT, Int.reduceLE, Int.reduceEq, Int.reduceNe, Int.cast_ofNat_Int, Int.reduceNeg, reduceCtorEq, ne_eq, ge_iff_le, gt_iff_lt, beq_iff_eq, beq_eq_false_iff_ne, bne_iff_ne, bne_eq_false_iff_eq, nrm, *] at hc) <;> try (exfalso; omega))
| ((with_reducible apply opsF.und); case hg => rfl)
| ((with_reducible first | apply retF.r | apply retF.nn); case hv => exact tRS)
| ((refine Call.use (hN _ _ _ (by simp [alloc_at, set_at, alloc_n, set_n, icells]) (by simp [alloc_at, set_at, alloc_n, set_n])) ?_))
| ((refine Call.use (hF _) ?_))
| ((refine Call.use (hR _) ?_))
| ((refine Call.use (hM _) ?_))
| ((refine Call.use (hB _) ?_)))
          all_goals (refine ⟨?_, hE2 _ _ _⟩; first | rfl | (simp; done) | (simp; omega))
        rcases Nat.lt_or_ge 20 rc.length with g2 | g2
        · repeat' (first
| ((with_reducible apply opsF.op rfl); case hs => first | exact tHT | exact tHS)
| (with_reducible first | apply opsF.nil | apply seqF.nn | apply vcF.seq | apply vcF.region | apply vcF.skip | apply vcF.ret | apply seqF.r)
| ((with_reducible apply opsF.call); case hx => exact tAG)
| ((with_reducible apply opsF.want); (case hg => exact tEV); case hb => exact tNB)
| ((with_reducible apply opsF.skip); (case hg => exact tEV); case hb => exact tNB)
| (first | ((with_reducible apply opsF.case); case hg => exact tEV) | ((with_reducible apply vcF.cond); case hx => exact tEV)) <;> ((intro hc; try simp only [Int.reduceLT, Int.reduceLE, Int.reduceEq, Int.reduceNe, Int.cast_ofNat_Int, Int.reduceNeg, reduceCtorEq, ne_eq, ge_iff_le, gt_iff_lt, beq_iff_eq, beq_eq_false_iff_ne, bne_iff_ne, bne_eq_false_iff_eq, nrm, *] at hc) <;> try (exfalso; omega))
| ((with_reducible apply opsF.und); case hg => rfl)
| ((with_reducible first | apply retF.r | apply retF.nn); case hv => exact tRS)
| ((refine Call.use (hN _ _ _ (by simp [alloc_at, set_at, alloc_n, set_n, icells]) (by simp [alloc_at, set_at, alloc_n, set_n])) ?_))
| ((refine Call.use (hF _) ?_))
| ((refine Call.use (hR _) ?_))
| ((refine Call.use (hM _) ?_))
| ((refine Call.use (hB _) ?_)))
          all_goals (refine ⟨?_, hE2 _ _ _⟩; first | rfl | (simp; done) | (simp; omega))
        cases q3 with
        | false =>
          repeat' (first
| ((with_reducible apply opsF.op rfl); case hs => first | exact tHT | exact tHS)
| (with_reducible first | apply opsF.nil | apply seqF.nn | apply vcF.seq | apply vcF.region | apply vcF.skip | apply vcF.ret | apply seqF.r)
| ((with_reducible apply opsF.call); case hx => exact tAG)
| ((with_reducible apply opsF.want); (case hg => exact tEV); case hb => exact tNB)
| ((with_reducible apply opsF.skip); (case hg => exact tEV); case hb => exact tNB)
| (first | ((with_reducible apply opsF.case); case hg => exact tEV) | ((with_reducible apply vcF.cond); case hx => exact tEV)) <;> ((intro hc; try simp only [Int.reduceLT, Int.reduceLE, Int.reduceEq, Int.reduceNe, Int.cast_ofNat_Int, Int.reduceNeg, reduceCtorEq, ne_eq, ge_iff_le, gt_iff_lt, beq_iff_eq, beq_eq_false_iff_ne, bne_iff_ne, bne_eq_false_iff_eq, nrm, *] at hc) <;> try (exfalso; omega))
| ((with_reducible apply opsF.und); case hg => rfl)
| ((with_reducible first | apply retF.r | apply retF.nn); case hv => exact tRS)
| ((refine Call.use (hN _ _ _ (by simp [alloc_at, set_at, alloc_n, set_n, icells]) (by simp [alloc_at, set_at, alloc_n, set_n])) ?_))
| ((refine Call.use (hF _) ?_))
| ((refine Call.use (hR _) ?_))
| ((refine Call.use (hM _) ?_))
| ((refine Call.use (hB _) ?_)))
          all_goals (refine ⟨?_, hE2 _ _ _⟩; first | rfl | (simp; done) | (simp; omega))
        | true =>
          rcases Nat.lt_or_ge 50 mk.length with g3 | g3
          · repeat' (first
| ((with_reducible apply opsF.op rfl); case hs => first | exact tHT | exact tHS)
| (with_reducible first | apply opsF.nil | apply seqF.nn | apply vcF.seq | apply vcF.region | apply vcF.skip | apply vcF.ret | apply seqF.r)
| ((with_reducible apply opsF.call); case hx => exact tAG)
| ((with_reducible apply opsF.want); (case hg => exact tEV); case hb => exact tNB)
| ((with_reducible apply opsF.skip); (case hg => exact tEV); case hb => exact tNB)
| (first | ((with_reducible apply opsF.case); case hg => exact tEV) | ((with_reducible apply vcF.cond); case hx => exact tEV)) <;> ((intro hc; try simp only [Int.reduceLT, Int.reduceLE, Int.reduceEq, Int.reduceNe, Int.cast_ofNat_Int, Int.reduceNeg, reduceCtorEq, ne_eq, ge_iff_le, gt_iff_lt, beq_iff_eq, beq_eq_false_iff_ne, bne_iff_ne, bne_eq_false_iff_eq, nrm, *] at hc) <;> try (exfalso; omega))
| ((with_reducible apply opsF.und); case hg => rfl)
| ((with_reducible first | apply retF.r | apply retF.nn); case hv => exact tRS)
| ((refine Call.use (hN _ _ _ (by simp [alloc_at, set_at, alloc_n, set_n, icells]) (by simp [alloc_at, set_at, alloc_n, set_n])) ?_))
| ((refine Call.use (hF _) ?_))
| ((refine Call.use (hR _) ?_))
| ((refine Call.use (hM _) ?_))
| ((refine Call.use (hB _) ?_)))
            all_goals (refine ⟨?_, hE2 _ _ _⟩; first | rfl | (simp; done) | (simp; omega))
          cases q4 with
          | false =>
            repeat' (first
| ((with_reducible apply opsF.op rfl); case hs => first | exact tHT | exact tHS)
| (with_reducible first | apply opsF.nil | apply seqF.nn | apply vcF.seq | apply vcF.region | apply vcF.skip | apply vcF.ret | apply seqF.r)
| ((with_reducible apply opsF.call); case hx => exact tAG)
| ((with_reducible apply opsF.want); (case hg => exact tEV); case hb => exact tNB)
| ((with_reducible apply opsF.skip); (case hg => exact tEV); case hb => exact tNB)
| (first | ((with_reducible apply opsF.case); case hg => exact tEV) | ((with_reducible apply vcF.cond); case hx => exact tEV)) <;> ((intro hc; try simp only [Int.reduceLT, Int.reduceLE, Int.reduceEq, Int.reduceNe, Int.cast_ofNat_Int, Int.reduceNeg, reduceCtorEq, ne_eq, ge_iff_le, gt_iff_lt, beq_iff_eq, beq_eq_false_iff_ne, bne_iff_ne, bne_eq_false_iff_eq, nrm, *] at hc) <;> try (exfalso; omega))
| ((with_reducible apply opsF.und); case hg => rfl)
| ((with_reducible first | apply retF.r | apply retF.nn); case hv => exact tRS)
| ((refine Call.use (hN _ _ _ (by simp [alloc_at, set_at, alloc_n, set_n, icells]) (by simp [alloc_at, set_at, alloc_n, set_n])) ?_))
| ((refine Call.use (hF _) ?_))
| ((refine Call.use (hR _) ?_))
| ((refine Call.use (hM _) ?_))
| ((refine Call.use (hB _) ?_)))
            all_goals (refine ⟨?_, hE2 _ _ _⟩; first | rfl | (simp; done) | (simp; omega))
          | true =>
            repeat' (first
| ((with_reducible apply opsF.op rfl); case hs => first | exact tHT | exact tHS)
| (with_reducible first | apply opsF.nil | apply seqF.nn | apply vcF.seq | apply vcF.region | apply vcF.skip | apply vcF.ret | apply seqF.r)
| ((with_reducible apply opsF.call); case hx => exact tAG)
| ((with_reducible apply opsF.want); (case hg => exact tEV); case hb => exact tNB)
| ((with_reducible apply opsF.skip); (case hg => exact tEV); case hb => exact tNB)
| (first | ((with_reducible apply opsF.case); case hg => exact tEV) | ((with_reducible apply vcF.cond); case hx => exact tEV)) <;> ((intro hc; try simp only [Int.reduceLT, Int.reduceLE, Int.reduceEq, Int.reduceNe, Int.cast_ofNat_Int, Int.reduceNeg, reduceCtorEq, ne_eq, ge_iff_le, gt_iff_lt, beq_iff_eq, beq_eq_false_iff_ne, bne_iff_ne, bne_eq_false_iff_eq, nrm, *] at hc) <;> try (exfalso; omega))
| ((with_reducible apply opsF.und); case hg => rfl)
| ((with_reducible first | apply retF.r | apply retF.nn); case hv => exact tRS)
| ((refine Call.use (hN _ _ _ (by simp [alloc_at, set_at, alloc_n, set_n, icells]) (by simp [alloc_at, set_at, alloc_n, set_n])) ?_))
| ((refine Call.use (hF _) ?_))
| ((refine Call.use (hR _) ?_))
| ((refine Call.use (hM _) ?_))
| ((refine Call.use (hB _) ?_)))
            all_goals (refine ⟨?_, hE2 _ _ _⟩; first | rfl | (simp; done) | (simp; omega))
end Go.Abs.F
/- The compact code of functions, printed by a program of mine. -/
namespace Go.Abs.F
open Go Go.Abs
set_option maxRecDepth 100000
noncomputable def c_law13_TurnKeeps : IC := .seq (.region [⟨some 2, .box (.tmp 0), none⟩, ⟨some 4, .mv (.cst (.v (.bool .false))), none⟩]) (.seq (.seq (.region [⟨some 11, .load (.tmp 2) (some 9), none⟩, ⟨some 12, .call law13_small [.tmp 11], none⟩, ⟨some 13, .un .not (.tmp 12), none⟩, ⟨some 14, .mv (.tmp 13), none⟩, ⟨some 15, .load (.tmp 2) (some 9), some (14, .false)⟩, ⟨some 16, .call ref08_Good [.tmp 15], some (14, .false)⟩, ⟨some 17, .un .not (.tmp 16), some (14, .false)⟩, ⟨some 18, .pick (.tmp 14) (.cst (.v (.bool .true))) (.tmp 17), none⟩, ⟨some 19, .mv (.tmp 18), none⟩, ⟨some 20, .mv (.tmp 1), some (19, .false)⟩, ⟨some 21, .len .sl (.tmp 20), some (19, .false)⟩, ⟨some 22, .bin .gtr .other (.tmp 21) (.cst (.v (.int .i64 20))), some (19, .false)⟩, ⟨some 23, .pick (.tmp 19) (.cst (.v (.bool .true))) (.tmp 22), none⟩]) (.cond (.tmp 23) (.seq (.region [⟨some 24, .call law13_answers [], none⟩, ⟨some 4, .mv (.tmp 24), none⟩]) .ret) .skip)) (.seq (.region [⟨some 25, .load (.tmp 2) (some 9), none⟩, ⟨some 26, .call ref08_Bytes [.tmp 25], none⟩, ⟨some 5, .mv (.tmp 26), none⟩]) (.seq (.seq (.region [⟨some 6, .mv (.cst (.v (.int .i64 0))), none⟩]) (.block 0 (.loop (.seq (.seq (.region [⟨some 27, .mv (.tmp 6), none⟩, ⟨some 28, .mv (.tmp 1), none⟩, ⟨some 29, .len .sl (.tmp 28), none⟩, ⟨some 30, .bin .lss .other (.tmp 27) (.tmp 29), none⟩]) (.cond (.tmp 30) .skip (.exit 0))) (.seq (.block 1 (.seq (.region [⟨some 34, .mv (.tmp 5), none⟩, ⟨some 35, .mv (.tmp 1), none⟩, ⟨some 36, .mv (.tmp 6), none⟩, ⟨some 37, .iaL 1 (.tmp 35) (.tmp 36), none⟩, ⟨some 38, .load (.tmp 37) none, none⟩, ⟨some 39, .bin .rem .other (.tmp 38) (.cst (.v (.int .u8 2))), none⟩, ⟨some 40, .convI .i64 (.tmp 39), none⟩, ⟨some 41, .bin .add .other (.cst (.v (.int .i64 1))) (.tmp 40), none⟩, ⟨some 42, .call turn_Turn [.tmp 34, .tmp 41], none⟩, ⟨some 33, .mv (.tmp 42), none⟩, ⟨some 43, .ext (.tmp 33) 0, none⟩, ⟨some 44, .ext (.tmp 33) 1, none⟩, ⟨some 7, .mv (.tmp 43), none⟩, ⟨some 8, .mv (.tmp 44), none⟩]) (.seq (.seq (.dregion [(⟨some 45, .mv (.tmp 8), none⟩, []), (⟨some 46, .bin .neq .other (.tmp 45) (.cst (.v (.int .i64 0))), none⟩, []), (⟨some 47, .mv (.tmp 46), none⟩, []), (⟨some 48, .mv (.tmp 7), some (47, .false)⟩, []), (⟨some 50, .mv (.tmp 1), some (47, .false)⟩, []), (⟨some 51, .mv (.tmp 6), some (47, .false)⟩, []), (⟨some 52, .iaL 1 (.tmp 50) (.tmp 51), some (47, .false)⟩, []), (⟨some 53, .load (.tmp 52) none, some (47, .false)⟩, []), (⟨some 54, .bin .rem .other (.tmp 53) (.cst (.v (.int .u8 2))), some (47, .false)⟩, []), (⟨some 55, .convI .i64 (.tmp 54), some (47, .false)⟩, []), (⟨some 56, .bin .add .other (.cst (.v (.int .i64 1))) (.tmp 55), some (47, .false)⟩, []), (⟨some 49, .call turn_Sniff [.tmp 48], some (47, .false)⟩, [⟨some 53, .load (.tmp 52) none, some (47, .false)⟩]), (⟨some 57, .bin .neq .other (.tmp 49) (.tmp 56), some (47, .false)⟩, []), (⟨some 58, .pick (.tmp 47) (.cst (.v (.bool .true))) (.tmp 57), none⟩, [])]) (.cond (.tmp 58) (.seq (.region [⟨some 4, .mv (.cst (.v (.bool .false))), none⟩]) .ret) .skip)) (.region [⟨some 59, .mv (.tmp 7), none⟩, ⟨some 5, .mv (.tmp 59), none⟩])))) (.region [⟨some 31, .mv (.tmp 6), none⟩, ⟨some 32, .bin .add .other (.tmp 31) (.cst (.v (.int .i64 1))), none⟩, ⟨some 6, .mv (.tmp 32), none⟩])))))) (.seq (.region [⟨some 61, .mv (.tmp 5), none⟩, ⟨some 62, .call turn_Decode [.tmp 61], none⟩, ⟨some 60, .mv (.tmp 62), none⟩, ⟨some 63, .ext (.tmp 60) 0, none⟩, ⟨some 64, .ext (.tmp 60) 1, none⟩, ⟨some 9, .new [.v (.int .i64 0), .v (.int .i64 0), .v (.int .i64 0), .v (.int .i64 0), .v (.int .i64 0), .v (.string (bs [])), .list 1 [] .full, .list 1 [] .full, .list 1 [] .full], none⟩, ⟨none, .store (.tmp 9) (.tmp 63) 9, none⟩, ⟨some 10, .mv (.tmp 64), none⟩]) (.seq (.region [⟨some 65, .call law13_answers [], none⟩, ⟨some 66, .mv (.tmp 65), none⟩, ⟨some 67, .mv (.tmp 10), some (66, .true)⟩, ⟨some 68, .bin .eql .other (.tmp 67) (.cst (.v (.int .i64 0))), some (66, .true)⟩, ⟨some 69, .pick (.tmp 66) (.tmp 68) (.cst (.v (.bool .false))), none⟩, ⟨some 70, .mv (.tmp 69), none⟩, ⟨some 71, .load (.tmp 9) (some 9), some (70, .true)⟩, ⟨some 72, .load (.tmp 2) (some 9), some (70, .true)⟩, ⟨some 73, .call ref08_SameMessages [.tmp 71, .tmp 72], some (70, .true)⟩, ⟨some 74, .pick (.tmp 70) (.tmp 73) (.cst (.v (.bool .false))), none⟩, ⟨some 4, .mv (.tmp 74), none⟩]) .ret)))))
theorem b_law13_TurnKeeps : HasBody P law13_TurnKeeps 75 c_law13_TurnKeeps [.tmp 4] := .of [] (by kernel_rfl)
noncomputable def c_law13_small : IC := .seq (.region [⟨some 1, .box (.tmp 0), none⟩, ⟨some 2, .mv (.cst (.v (.bool .false))), none⟩]) (.seq (.region [⟨some 6, .fad (.tmp 1) 5, none⟩, ⟨some 7, .load (.tmp 6) none, none⟩, ⟨some 8, .len .str (.tmp 7), none⟩, ⟨some 9, .fad (.tmp 1) 6, none⟩, ⟨some 10, .load (.tmp 9) none, none⟩, ⟨some 11, .len .sl (.tmp 10), none⟩, ⟨some 12, .bin .add .other (.tmp 8) (.tmp 11), none⟩, ⟨some 13, .fad (.tmp 1) 7, none⟩, ⟨some 14, .load (.tmp 13) none, none⟩, ⟨some 15, .len .sl (.tmp 14), none⟩, ⟨some 16, .bin .add .other (.tmp 12) (.tmp 15), none⟩, ⟨some 17, .fad (.tmp 1) 8, none⟩, ⟨some 18, .load (.tmp 17) none, none⟩, ⟨some 19, .len .sl (.tmp 18), none⟩, ⟨some 20, .bin .add .other (.tmp 16) (.tmp 19), none⟩, ⟨some 3, .mv (.tmp 20), none⟩]) (.seq (.seq (.region [⟨some 4, .mv (.cst (.v (.int .i64 0))), none⟩]) (.block 0 (.loop (.seq (.seq (.region [⟨some 21, .mv (.tmp 4), none⟩, ⟨some 22, .fad (.tmp 1) 8, none⟩, ⟨some 23, .load (.tmp 22) none, none⟩, ⟨some 24, .len .sl (.tmp 23), none⟩, ⟨some 25, .bin .lss .other (.tmp 21) (.tmp 24), none⟩, ⟨some 26, .mv (.tmp 25), none⟩, ⟨some 27, .mv (.tmp 3), some (26, .true)⟩, ⟨some 28, .bin .lss .other (.tmp 27) (.cst (.v (.int .i64 5000))), some (26, .true)⟩, ⟨some 29, .pick (.tmp 26) (.tmp 28) (.cst (.v (.bool .false))), none⟩]) (.cond (.tmp 29) .skip (.exit 0))) (.seq (.block 1 (.region [⟨some 32, .mv (.tmp 3), none⟩, ⟨some 33, .fad (.tmp 1) 8, none⟩, ⟨some 34, .load (.tmp 33) none, none⟩, ⟨some 35, .mv (.tmp 4), none⟩, ⟨some 36, .iaL 1 (.tmp 34) (.tmp 35), none⟩, ⟨some 37, .load (.tmp 36) none, none⟩, ⟨some 38, .len .str (.tmp 37), none⟩, ⟨some 39, .bin .add .other (.tmp 32) (.tmp 38), none⟩, ⟨some 3, .mv (.tmp 39), none⟩])) (.region [⟨some 30, .mv (.tmp 4), none⟩, ⟨some 31, .bin .add .other (.tmp 30) (.cst (.v (.int .i64 1))), none⟩, ⟨some 4, .mv (.tmp 31), none⟩])))))) (.seq (.seq (.region [⟨some 5, .mv (.cst (.v (.int .i64 0))), none⟩]) (.block 2 (.loop (.seq (.seq (.region [⟨some 40, .mv (.tmp 5), none⟩, ⟨some 41, .fad (.tmp 1) 6, none⟩, ⟨some 42, .load (.tmp 41) none, none⟩, ⟨some 43, .len .sl (.tmp 42), none⟩, ⟨some 44, .bin .lss .other (.tmp 40) (.tmp 43), none⟩, ⟨some 45, .mv (.tmp 44), none⟩, ⟨some 46, .mv (.tmp 3), some (45, .true)⟩, ⟨some 47, .bin .lss .other (.tmp 46) (.cst (.v (.int .i64 5000))), some (45, .true)⟩, ⟨some 48, .pick (.tmp 45) (.tmp 47) (.cst (.v (.bool .false))), none⟩]) (.cond (.tmp 48) .skip (.exit 2))) (.seq (.block 3 (.region [⟨some 51, .mv (.tmp 3), none⟩, ⟨some 52, .fad (.tmp 1) 6, none⟩, ⟨some 53, .load (.tmp 52) none, none⟩, ⟨some 54, .mv (.tmp 5), none⟩, ⟨some 55, .iaL 1 (.tmp 53) (.tmp 54), none⟩, ⟨some 56, .load (.tmp 55) none, none⟩, ⟨some 57, .len .str (.tmp 56), none⟩, ⟨some 58, .bin .add .other (.tmp 51) (.tmp 57), none⟩, ⟨some 3, .mv (.tmp 58), none⟩])) (.region [⟨some 49, .mv (.tmp 5), none⟩, ⟨some 50, .bin .add .other (.tmp 49) (.cst (.v (.int .i64 1))), none⟩, ⟨some 5, .mv (.tmp 50), none⟩])))))) (.seq (.region [⟨some 59, .mv (.tmp 3), none⟩, ⟨some 60, .bin .lss .other (.tmp 59) (.cst (.v (.int .i64 5000))), none⟩, ⟨some 2, .mv (.tmp 60), none⟩]) .ret))))
theorem b_law13_small : HasBody P law13_small 61 c_law13_small [.tmp 2] := .of [] (by kernel_rfl)
noncomputable def c_law13_answers : IC := .seq (.region [⟨some 0, .mv (.cst (.v (.bool .false))), none⟩]) (.seq (.region [⟨some 4, .lit 1 1 [.v (.string (bs []))] [(0, .cst (.v (.string (bs [97, 64, 98]))))], none⟩, ⟨some 5, .build [.v (.int .i64 0), .v (.int .i64 0), .v (.int .i64 0), .v (.int .i64 0), .v (.int .i64 0), .v (.string (bs [])), .list 1 [] .full, .list 1 [] .full, .list 1 [] .full] [(0, (1, .cst (.v (.int .i64 1)))), (6, (1, .tmp 4))], none⟩, ⟨some 6, .call turn_Encode [.tmp 5, .cst (.v (.int .i64 1))], none⟩, ⟨some 3, .mv (.tmp 6), none⟩, ⟨some 7, .ext (.tmp 3) 0, none⟩, ⟨some 8, .ext (.tmp 3) 1, none⟩, ⟨some 1, .mv (.tmp 7), none⟩, ⟨some 2, .mv (.tmp 8), none⟩]) (.seq (.region [⟨some 9, .mv (.tmp 2), none⟩, ⟨some 10, .bin .eql .other (.tmp 9) (.cst (.v (.int .i64 0))), none⟩, ⟨some 11, .mv (.tmp 10), none⟩, ⟨some 12, .mv (.tmp 1), some (11, .true)⟩, ⟨some 13, .call turn_Sniff [.tmp 12], some (11, .true)⟩, ⟨some 14, .bin .eql .other (.tmp 13) (.cst (.v (.int .i64 1))), some (11, .true)⟩, ⟨some 15, .pick (.tmp 11) (.tmp 14) (.cst (.v (.bool .false))), none⟩, ⟨some 16, .mv (.tmp 15), none⟩, ⟨some 17, .lit 1 1 [.v (.int .u8 0)] [(0, .cst (.v (.int .u8 2)))], some (16, .true)⟩, ⟨some 18, .call turn_Sniff [.tmp 17], some (16, .true)⟩, ⟨some 19, .bin .eql .other (.tmp 18) (.cst (.v (.int .i64 2))), some (16, .true)⟩, ⟨some 20, .pick (.tmp 16) (.tmp 19) (.cst (.v (.bool .false))), none⟩, ⟨some 0, .mv (.tmp 20), none⟩]) .ret))
theorem b_law13_answers : HasBody P law13_answers 21 c_law13_answers [.tmp 0] := .of [] (by kernel_rfl)
noncomputable def c_turn_Encode : IC := .seq (.region [⟨some 2, .box (.tmp 0), none⟩, ⟨some 4, .mv (.cst (.list 1 [] .full)), none⟩, ⟨some 5, .mv (.cst (.v (.int .i64 0))), none⟩]) (.seq (.seq (.region [⟨some 6, .mv (.tmp 1), none⟩]) (.block 0 (.seq (.region [⟨some 8, .bin .eql .other (.tmp 6) (.cst (.v (.int .i64 1))), none⟩, ⟨some 7, .mv (.tmp 8), none⟩]) (.cond (.tmp 7) (.seq (.region [⟨some 9, .load (.tmp 2) (some 9), none⟩, ⟨some 10, .call env_Encode [.tmp 9], none⟩, ⟨some 11, .ext (.tmp 10) 0, none⟩, ⟨some 12, .ext (.tmp 10) 1, none⟩, ⟨some 4, .mv (.tmp 11), none⟩, ⟨some 5, .mv (.tmp 12), none⟩]) .ret) (.seq (.region [⟨some 14, .bin .eql .other (.tmp 6) (.cst (.v (.int .i64 2))), none⟩, ⟨some 13, .mv (.tmp 14), none⟩]) (.cond (.tmp 13) (.seq (.region [⟨some 15, .load (.tmp 2) (some 9), none⟩, ⟨some 16, .call bin_Encode [.tmp 15], none⟩, ⟨some 17, .ext (.tmp 16) 0, none⟩, ⟨some 18, .ext (.tmp 16) 1, none⟩, ⟨some 4, .mv (.tmp 17), none⟩, ⟨some 5, .mv (.tmp 18), none⟩]) .ret) .skip)))))) (.seq (.region [⟨some 4, .mv (.cst (.list 1 [] .full)), none⟩, ⟨some 5, .mv (.cst (.v (.int .i64 1))), none⟩]) .ret))
theorem b_turn_Encode : HasBody P turn_Encode 19 c_turn_Encode [.tmp 4, .tmp 5] := .of [] (by kernel_rfl)
noncomputable def c_turn_Decode : IC := .seq (.region [⟨some 2, .new [.v (.int .i64 0), .v (.int .i64 0), .v (.int .i64 0), .v (.int .i64 0), .v (.int .i64 0), .v (.string (bs [])), .list 1 [] .full, .list 1 [] .full, .list 1 [] .full], none⟩, ⟨some 3, .mv (.cst (.v (.int .i64 0))), none⟩]) (.seq (.seq (.region [⟨some 4, .mv (.tmp 0), none⟩, ⟨some 5, .call turn_Sniff [.tmp 4], none⟩]) (.block 0 (.seq (.region [⟨some 7, .bin .eql .other (.tmp 5) (.cst (.v (.int .i64 1))), none⟩, ⟨some 6, .mv (.tmp 7), none⟩]) (.cond (.tmp 6) (.seq (.region [⟨some 8, .mv (.tmp 0), none⟩, ⟨some 9, .call env_Decode [.tmp 8], none⟩, ⟨some 10, .ext (.tmp 9) 0, none⟩, ⟨some 11, .ext (.tmp 9) 1, none⟩, ⟨none, .store (.tmp 2) (.tmp 10) 9, none⟩, ⟨some 3, .mv (.tmp 11), none⟩]) .ret) (.seq (.region [⟨some 13, .bin .eql .other (.tmp 5) (.cst (.v (.int .i64 2))), none⟩, ⟨some 12, .mv (.tmp 13), none⟩]) (.cond (.tmp 12) (.seq (.region [⟨some 14, .mv (.tmp 0), none⟩, ⟨some 15, .call bin_Decode [.tmp 14], none⟩, ⟨some 16, .ext (.tmp 15) 0, none⟩, ⟨some 17, .ext (.tmp 15) 1, none⟩, ⟨none, .store (.tmp 2) (.tmp 16) 9, none⟩, ⟨some 3, .mv (.tmp 17), none⟩]) .ret) .skip)))))) (.seq (.region [⟨some 18, .build [.v (.int .i64 0), .v (.int .i64 0), .v (.int .i64 0), .v (.int .i64 0), .v (.int .i64 0), .v (.string (bs [])), .list 1 [] .full, .list 1 [] .full, .list 1 [] .full] [], none⟩, ⟨none, .store (.tmp 2) (.tmp 18) 9, none⟩, ⟨some 3, .mv (.cst (.v (.int .i64 2))), none⟩]) .ret))
theorem b_turn_Decode : HasBody P turn_Decode 19 c_turn_Decode [.cell 2 (some 9), .tmp 3] := .of [] (by kernel_rfl)
noncomputable def c_turn_Turn : IC := .seq (.region [⟨some 4, .mv (.cst (.list 1 [] .full)), none⟩, ⟨some 5, .mv (.cst (.v (.int .i64 0))), none⟩]) (.seq (.seq (.region [⟨some 8, .mv (.tmp 1), none⟩, ⟨some 9, .bin .neq .other (.tmp 8) (.cst (.v (.int .i64 1))), none⟩, ⟨some 10, .mv (.tmp 9), none⟩, ⟨some 11, .mv (.tmp 1), some (10, .true)⟩, ⟨some 12, .bin .neq .other (.tmp 11) (.cst (.v (.int .i64 2))), some (10, .true)⟩, ⟨some 13, .pick (.tmp 10) (.tmp 12) (.cst (.v (.bool .false))), none⟩]) (.cond (.tmp 13) (.seq (.region [⟨some 4, .mv (.cst (.list 1 [] .full)), none⟩, ⟨some 5, .mv (.cst (.v (.int .i64 1))), none⟩]) .ret) .skip)) (.seq (.region [⟨some 15, .mv (.tmp 0), none⟩, ⟨some 16, .call turn_Decode [.tmp 15], none⟩, ⟨some 14, .mv (.tmp 16), none⟩, ⟨some 17, .ext (.tmp 14) 0, none⟩, ⟨some 18, .ext (.tmp 14) 1, none⟩, ⟨some 6, .new [.v (.int .i64 0), .v (.int .i64 0), .v (.int .i64 0), .v (.int .i64 0), .v (.int .i64 0), .v (.string (bs [])), .list 1 [] .full, .list 1 [] .full, .list 1 [] .full], none⟩, ⟨none, .store (.tmp 6) (.tmp 17) 9, none⟩, ⟨some 7, .mv (.tmp 18), none⟩]) (.seq (.seq (.region [⟨some 19, .mv (.tmp 7), none⟩, ⟨some 20, .bin .neq .other (.tmp 19) (.cst (.v (.int .i64 0))), none⟩]) (.cond (.tmp 20) (.seq (.region [⟨some 21, .mv (.tmp 7), none⟩, ⟨some 4, .mv (.cst (.list 1 [] .full)), none⟩, ⟨some 5, .mv (.tmp 21), none⟩]) .ret) .skip)) (.seq (.region [⟨some 22, .load (.tmp 6) (some 9), none⟩, ⟨some 23, .mv (.tmp 1), none⟩, ⟨some 24, .call turn_Encode [.tmp 22, .tmp 23], none⟩, ⟨some 25, .ext (.tmp 24) 0, none⟩, ⟨some 26, .ext (.tmp 24) 1, none⟩, ⟨some 4, .mv (.tmp 25), none⟩, ⟨some 5, .mv (.tmp 26), none⟩]) .ret))))
theorem b_turn_Turn : HasBody P turn_Turn 27 c_turn_Turn [.tmp 4, .tmp 5] := .of [] (by kernel_rfl)
noncomputable def c_turn_Sniff : IC := .seq (.region [⟨some 2, .mv (.cst (.v (.int .i64 0))), none⟩]) (.seq (.block 0 (.seq (.region [⟨some 4, .mv (.tmp 0), none⟩, ⟨some 5, .len .sl (.tmp 4), none⟩, ⟨some 6, .bin .eql .other (.tmp 5) (.cst (.v (.int .i64 0))), none⟩, ⟨some 3, .mv (.tmp 6), none⟩]) (.cond (.tmp 3) (.seq (.region [⟨some 2, .mv (.cst (.v (.int .i64 0))), none⟩]) .ret) (.seq (.region [⟨some 8, .mv (.tmp 0), none⟩, ⟨some 9, .iaL 1 (.tmp 8) (.cst (.v (.int .i64 0))), none⟩, ⟨some 10, .load (.tmp 9) none, none⟩, ⟨some 11, .bin .eql .other (.tmp 10) (.cst (.v (.int .u8 2))), none⟩, ⟨some 7, .mv (.tmp 11), none⟩]) (.cond (.tmp 7) (.seq (.region [⟨some 2, .mv (.cst (.v (.int .i64 2))), none⟩]) .ret) (.seq (.region [⟨some 13, .mv (.tmp 0), none⟩, ⟨some 14, .iaL 1 (.tmp 13) (.cst (.v (.int .i64 0))), none⟩, ⟨some 15, .load (.tmp 14) none, none⟩, ⟨some 16, .bin .eql .other (.tmp 15) (.cst (.v (.int .u8 105))), none⟩, ⟨some 12, .mv (.tmp 16), none⟩]) (.cond (.tmp 12) (.seq (.region [⟨some 2, .mv (.cst (.v (.int .i64 1))), none⟩]) .ret) .skip))))))) (.seq (.region [⟨some 2, .mv (.cst (.v (.int .i64 0))), none⟩]) .ret))
theorem b_turn_Sniff : HasBody P turn_Sniff 17 c_turn_Sniff [.tmp 2] := .of [] (by kernel_rfl)
noncomputable def c_bin_Encode : IC := .seq (.region [⟨some 1, .box (.tmp 0), none⟩, ⟨some 2, .mv (.cst (.list 1 [] .full)), none⟩, ⟨some 3, .mv (.cst (.v (.int .i64 0))), none⟩]) (.seq (.seq (.region [⟨some 13, .load (.tmp 1) (some 9), none⟩, ⟨some 14, .call env_Good [.tmp 13], none⟩, ⟨some 15, .un .not (.tmp 14), none⟩]) (.cond (.tmp 15) (.seq (.region [⟨some 2, .mv (.cst (.list 1 [] .full)), none⟩, ⟨some 3, .mv (.cst (.v (.int .i64 2))), none⟩]) .ret) .skip)) (.seq (.region [⟨some 16, .lit 1 1 [.v (.int .u8 0)] [(0, .cst (.v (.int .u8 2)))], none⟩, ⟨some 17, .build [.list 1 [] .full] [(0, (1, .tmp 16))], none⟩, ⟨some 18, .box (.tmp 17), none⟩, ⟨some 4, .mv (.tmp 18), none⟩]) (.seq (.seq (.region [⟨some 19, .fad (.tmp 1) 0, none⟩, ⟨some 20, .load (.tmp 19) none, none⟩, ⟨some 21, .fad (.tmp 1) 1, none⟩, ⟨some 22, .load (.tmp 21) none, none⟩, ⟨some 23, .fad (.tmp 1) 2, none⟩, ⟨some 24, .load (.tmp 23) none, none⟩, ⟨some 25, .fad (.tmp 1) 3, none⟩, ⟨some 26, .load (.tmp 25) none, none⟩, ⟨some 27, .fad (.tmp 1) 4, none⟩, ⟨some 28, .load (.tmp 27) none, none⟩, ⟨some 29, .build [.v (.int .i64 0), .v (.int .i64 0), .v (.int .i64 0), .v (.int .i64 0), .v (.int .i64 0)] [(0, (1, .tmp 20)), (1, (1, .tmp 22)), (2, (1, .tmp 24)), (3, (1, .tmp 26)), (4, (1, .tmp 28))], none⟩, ⟨some 30, .mv (.cst (.v (.int .i64 0))), none⟩]) (.block 0 (.loop (.seq (.region [⟨some 31, .bin .lss .other (.tmp 30) (.cst (.v (.int .i64 5))), none⟩]) (.seq (.cond (.tmp 31) .skip (.exit 0)) (.seq (.block 1 (.seq (.region [⟨some 32, .ixA 5 1 .false (.tmp 29) (.tmp 30), none⟩, ⟨some 6, .mv (.tmp 32), none⟩]) (.region [⟨some 33, .mv (.tmp 4), none⟩, ⟨some 34, .mv (.tmp 6), none⟩, ⟨some 35, .call bin_writer_num [.tmp 33, .tmp 34, .cst (.v (.int .i64 6))], none⟩]))) (.region [⟨some 36, .bin .add .other (.tmp 30) (.cst (.v (.int .i64 1))), none⟩, ⟨some 30, .mv (.tmp 36), none⟩]))))))) (.seq (.region [⟨some 37, .mv (.tmp 4), none⟩, ⟨some 38, .fad (.tmp 1) 5, none⟩, ⟨some 39, .load (.tmp 38) none, none⟩, ⟨some 40, .call bin_writer_text [.tmp 37, .tmp 39], none⟩]) (.seq (.region [⟨some 41, .mv (.tmp 4), none⟩, ⟨some 42, .fad (.tmp 1) 6, none⟩, ⟨some 43, .load (.tmp 42) none, none⟩, ⟨some 44, .len .sl (.tmp 43), none⟩, ⟨some 45, .call bin_writer_num [.tmp 41, .tmp 44, .cst (.v (.int .i64 2))], none⟩]) (.seq (.seq (.region [⟨some 46, .fad (.tmp 1) 6, none⟩, ⟨some 47, .load (.tmp 46) none, none⟩, ⟨some 48, .len .sl (.tmp 47), none⟩, ⟨some 49, .mv (.cst (.v (.int .i64 0))), none⟩]) (.block 2 (.loop (.seq (.region [⟨some 50, .bin .lss .other (.tmp 49) (.tmp 48), none⟩]) (.seq (.cond (.tmp 50) .skip (.exit 2)) (.seq (.block 3 (.seq (.region [⟨some 51, .iaL 1 (.tmp 47) (.tmp 49), none⟩, ⟨some 52, .load (.tmp 51) none, none⟩, ⟨some 8, .mv (.tmp 52), none⟩]) (.region [⟨some 53, .mv (.tmp 4), none⟩, ⟨some 54, .mv (.tmp 8), none⟩, ⟨some 55, .call bin_writer_text [.tmp 53, .tmp 54], none⟩]))) (.region [⟨some 56, .bin .add .other (.tmp 49) (.cst (.v (.int .i64 1))), none⟩, ⟨some 49, .mv (.tmp 56), none⟩]))))))) (.seq (.region [⟨some 57, .mv (.tmp 4), none⟩, ⟨some 58, .fad (.tmp 1) 7, none⟩, ⟨some 59, .load (.tmp 58) none, none⟩, ⟨some 60, .len .sl (.tmp 59), none⟩, ⟨some 61, .call bin_writer_num [.tmp 57, .tmp 60, .cst (.v (.int .i64 2))], none⟩]) (.seq (.seq (.region [⟨some 62, .fad (.tmp 1) 7, none⟩, ⟨some 63, .load (.tmp 62) none, none⟩, ⟨some 64, .len .sl (.tmp 63), none⟩, ⟨some 65, .mv (.cst (.v (.int .i64 0))), none⟩]) (.block 4 (.loop (.seq (.region [⟨some 66, .bin .lss .other (.tmp 65) (.tmp 64), none⟩]) (.seq (.cond (.tmp 66) .skip (.exit 4)) (.seq (.block 5 (.seq (.region [⟨some 67, .iaL 1 (.tmp 63) (.tmp 65), none⟩, ⟨some 68, .load (.tmp 67) none, none⟩, ⟨some 10, .mv (.tmp 68), none⟩]) (.region [⟨some 69, .mv (.tmp 4), none⟩, ⟨some 70, .mv (.tmp 10), none⟩, ⟨some 71, .call bin_writer_num [.tmp 69, .tmp 70, .cst (.v (.int .i64 1))], none⟩]))) (.region [⟨some 72, .bin .add .other (.tmp 65) (.cst (.v (.int .i64 1))), none⟩, ⟨some 65, .mv (.tmp 72), none⟩]))))))) (.seq (.region [⟨some 73, .mv (.tmp 4), none⟩, ⟨some 74, .fad (.tmp 1) 8, none⟩, ⟨some 75, .load (.tmp 74) none, none⟩, ⟨some 76, .len .sl (.tmp 75), none⟩, ⟨some 77, .call bin_writer_num [.tmp 73, .tmp 76, .cst (.v (.int .i64 4))], none⟩]) (.seq (.seq (.region [⟨some 78, .fad (.tmp 1) 8, none⟩, ⟨some 79, .load (.tmp 78) none, none⟩, ⟨some 80, .len .sl (.tmp 79), none⟩, ⟨some 81, .mv (.cst (.v (.int .i64 0))), none⟩]) (.block 6 (.loop (.seq (.region [⟨some 82, .bin .lss .other (.tmp 81) (.tmp 80), none⟩]) (.seq (.cond (.tmp 82) .skip (.exit 6)) (.seq (.block 7 (.seq (.region [⟨some 83, .iaL 1 (.tmp 79) (.tmp 81), none⟩, ⟨some 84, .load (.tmp 83) none, none⟩, ⟨some 12, .mv (.tmp 84), none⟩]) (.region [⟨some 85, .mv (.tmp 4), none⟩, ⟨some 86, .mv (.tmp 12), none⟩, ⟨some 87, .call bin_writer_text [.tmp 85, .tmp 86], none⟩]))) (.region [⟨some 88, .bin .add .other (.tmp 81) (.cst (.v (.int .i64 1))), none⟩, ⟨some 81, .mv (.tmp 88), none⟩]))))))) (.seq (.region [⟨some 89, .mv (.tmp 4), none⟩, ⟨some 90, .nilc (.tmp 89), none⟩, ⟨some 91, .fad (.tmp 90) 0, none⟩, ⟨some 92, .load (.tmp 91) none, none⟩, ⟨some 2, .mv (.tmp 92), none⟩, ⟨some 3, .mv (.cst (.v (.int .i64 0))), none⟩]) .ret)))))))))))
theorem b_bin_Encode : HasBody P bin_Encode 93 c_bin_Encode [.tmp 2, .tmp 3] := .of [] (by kernel_rfl)
noncomputable def c_bin_Decode : IC := .seq (.region [⟨some 2, .new [.v (.int .i64 0), .v (.int .i64 0), .v (.int .i64 0), .v (.int .i64 0), .v (.int .i64 0), .v (.string (bs [])), .list 1 [] .full, .list 1 [] .full, .list 1 [] .full], none⟩, ⟨some 3, .mv (.cst (.v (.int .i64 0))), none⟩]) (.seq (.region [⟨some 7, .mv (.tmp 0), none⟩, ⟨some 8, .build [.list 1 [] .full, .v (.bool .false)] [(0, (1, .tmp 7))], none⟩, ⟨some 9, .box (.tmp 8), none⟩, ⟨some 4, .new [.v (.pointer none)], none⟩, ⟨none, .store (.tmp 4) (.tmp 9) 1, none⟩]) (.seq (.region [⟨some 10, .load (.tmp 4) none, none⟩, ⟨some 11, .call bin_reader_num [.tmp 10, .cst (.v (.int .i64 1))], none⟩, ⟨some 5, .mv (.tmp 11), none⟩]) (.seq (.dalts [[(⟨some 12, .load (.tmp 4) none, none⟩, []), (⟨some 14, .load (.tmp 4) none, none⟩, []), (⟨some 16, .load (.tmp 4) none, none⟩, []), (⟨some 18, .load (.tmp 4) none, none⟩, []), (⟨some 20, .load (.tmp 4) none, none⟩, []), (⟨some 22, .load (.tmp 4) none, none⟩, []), (⟨some 6, .new [.v (.int .i64 0), .v (.int .i64 0), .v (.int .i64 0), .v (.int .i64 0), .v (.int .i64 0), .v (.string (bs [])), .list 1 [] .full, .list 1 [] .full, .list 1 [] .full], none⟩, [⟨some 22, .load (.tmp 4) none, none⟩, ⟨some 20, .load (.tmp 4) none, none⟩, ⟨some 18, .load (.tmp 4) none, none⟩, ⟨some 16, .load (.tmp 4) none, none⟩, ⟨some 14, .load (.tmp 4) none, none⟩, ⟨some 12, .load (.tmp 4) none, none⟩]), (⟨some 13, .call bin_reader_num [.tmp 12, .cst (.v (.int .i64 6))], none⟩, [⟨some 22, .load (.tmp 4) none, none⟩, ⟨some 20, .load (.tmp 4) none, none⟩, ⟨some 18, .load (.tmp 4) none, none⟩, ⟨some 16, .load (.tmp 4) none, none⟩, ⟨some 14, .load (.tmp 4) none, none⟩]), (⟨some 15, .call bin_reader_num [.tmp 14, .cst (.v (.int .i64 6))], none⟩, [⟨some 22, .load (.tmp 4) none, none⟩, ⟨some 20, .load (.tmp 4) none, none⟩, ⟨some 18, .load (.tmp 4) none, none⟩, ⟨some 16, .load (.tmp 4) none, none⟩]), (⟨some 17, .call bin_reader_num [.tmp 16, .cst (.v (.int .i64 6))], none⟩, [⟨some 22, .load (.tmp 4) none, none⟩, ⟨some 20, .load (.tmp 4) none, none⟩, ⟨some 18, .load (.tmp 4) none, none⟩]), (⟨some 19, .call bin_reader_num [.tmp 18, .cst (.v (.int .i64 6))], none⟩, [⟨some 22, .load (.tmp 4) none, none⟩, ⟨some 20, .load (.tmp 4) none, none⟩]), (⟨some 21, .call bin_reader_num [.tmp 20, .cst (.v (.int .i64 6))], none⟩, [⟨some 22, .load (.tmp 4) none, none⟩]), (⟨some 23, .call bin_reader_text [.tmp 22], none⟩, []), (⟨some 24, .build [.v (.int .i64 0), .v (.int .i64 0), .v (.int .i64 0), .v (.int .i64 0), .v (.int .i64 0), .v (.string (bs [])), .list 1 [] .full, .list 1 [] .full, .list 1 [] .full] [(0, (1, .tmp 13)), (1, (1, .tmp 15)), (2, (1, .tmp 17)), (3, (1, .tmp 19)), (4, (1, .tmp 21)), (5, (1, .tmp 23))], none⟩, []), (⟨none, .store (.tmp 6) (.tmp 24) 9, none⟩, [])], [(⟨some 12, .load (.tmp 4) none, none⟩, []), (⟨some 14, .load (.tmp 4) none, none⟩, []), (⟨some 16, .load (.tmp 4) none, none⟩, []), (⟨some 18, .load (.tmp 4) none, none⟩, []), (⟨some 20, .load (.tmp 4) none, none⟩, []), (⟨some 22, .load (.tmp 4) none, none⟩, []), (⟨some 13, .call bin_reader_num [.tmp 12, .cst (.v (.int .i64 6))], none⟩, [⟨some 22, .load (.tmp 4) none, none⟩, ⟨some 20, .load (.tmp 4) none, none⟩, ⟨some 18, .load (.tmp 4) none, none⟩, ⟨some 16, .load (.tmp 4) none, none⟩, ⟨some 14, .load (.tmp 4) none, none⟩]), (⟨some 6, .new [.v (.int .i64 0), .v (.int .i64 0), .v (.int .i64 0), .v (.int .i64 0), .v (.int .i64 0), .v (.string (bs [])), .list 1 [] .full, .list 1 [] .full, .list 1 [] .full], none⟩, [⟨some 22, .load (.tmp 4) none, none⟩, ⟨some 20, .load (.tmp 4) none, none⟩, ⟨some 18, .load (.tmp 4) none, none⟩, ⟨some 16, .load (.tmp 4) none, none⟩, ⟨some 14, .load (.tmp 4) none, none⟩, ⟨some 12, .load (.tmp 4) none, none⟩]), (⟨some 15, .call bin_reader_num [.tmp 14, .cst (.v (.int .i64 6))], none⟩, [⟨some 22, .load (.tmp 4) none, none⟩, ⟨some 20, .load (.tmp 4) none, none⟩, ⟨some 18, .load (.tmp 4) none, none⟩, ⟨some 16, .load (.tmp 4) none, none⟩]), (⟨some 17, .call bin_reader_num [.tmp 16, .cst (.v (.int .i64 6))], none⟩, [⟨some 22, .load (.tmp 4) none, none⟩, ⟨some 20, .load (.tmp 4) none, none⟩, ⟨some 18, .load (.tmp 4) none, none⟩]), (⟨some 19, .call bin_reader_num [.tmp 18, .cst (.v (.int .i64 6))], none⟩, [⟨some 22, .load (.tmp 4) none, none⟩, ⟨some 20, .load (.tmp 4) none, none⟩]), (⟨some 21, .call bin_reader_num [.tmp 20, .cst (.v (.int .i64 6))], none⟩, [⟨some 22, .load (.tmp 4) none, none⟩]), (⟨some 23, .call bin_reader_text [.tmp 22], none⟩, []), (⟨some 24, .build [.v (.int .i64 0), .v (.int .i64 0), .v (.int .i64 0), .v (.int .i64 0), .v (.int .i64 0), .v (.string (bs [])), .list 1 [] .full, .list 1 [] .full, .list 1 [] .full] [(0, (1, .tmp 13)), (1, (1, .tmp 15)), (2, (1, .tmp 17)), (3, (1, .tmp 19)), (4, (1, .tmp 21)), (5, (1, .tmp 23))], none⟩, []), (⟨none, .store (.tmp 6) (.tmp 24) 9, none⟩, [])], [(⟨some 12, .load (.tmp 4) none, none⟩, []), (⟨some 14, .load (.tmp 4) none, none⟩, []), (⟨some 16, .load (.tmp 4) none, none⟩, []), (⟨some 18, .load (.tmp 4) none, none⟩, []), (⟨some 20, .load (.tmp 4) none, none⟩, []), (⟨some 22, .load (.tmp 4) none, none⟩, []), (⟨some 13, .call bin_reader_num [.tmp 12, .cst (.v (.int .i64 6))], none⟩, [⟨some 22, .load (.tmp 4) none, none⟩, ⟨some 20, .load (.tmp 4) none, none⟩, ⟨some 18, .load (.tmp 4) none, none⟩, ⟨some 16, .load (.tmp 4) none, none⟩, ⟨some 14, .load (.tmp 4) none, none⟩]), (⟨some 15, .call bin_reader_num [.tmp 14, .cst (.v (.int .i64 6))], none⟩, [⟨some 22, .load (.tmp 4) none, none⟩, ⟨some 20, .load (.tmp 4) none, none⟩, ⟨some 18, .load (.tmp 4) none, none⟩, ⟨some 16, .load (.tmp 4) none, none⟩]), (⟨some 6, .new [.v (.int .i64 0), .v (.int .i64 0), .v (.int .i64 0), .v (.int .i64 0), .v (.int .i64 0), .v (.string (bs [])), .list 1 [] .full, .list 1 [] .full, .list 1 [] .full], none⟩, [⟨some 22, .load (.tmp 4) none, none⟩, ⟨some 20, .load (.tmp 4) none, none⟩, ⟨some 18, .load (.tmp 4) none, none⟩, ⟨some 16, .load (.tmp 4) none, none⟩, ⟨some 14, .load (.tmp 4) none, none⟩, ⟨some 12, .load (.tmp 4) none, none⟩]), (⟨some 17, .call bin_reader_num [.tmp 16, .cst (.v (.int .i64 6))], none⟩, [⟨some 22, .load (.tmp 4) none, none⟩, ⟨some 20, .load (.tmp 4) none, none⟩, ⟨some 18, .load (.tmp 4) none, none⟩]), (⟨some 19, .call bin_reader_num [.tmp 18, .cst (.v (.int .i64 6))], none⟩, [⟨some 22, .load (.tmp 4) none, none⟩, ⟨some 20, .load (.tmp 4) none, none⟩]), (⟨some 21, .call bin_reader_num [.tmp 20, .cst (.v (.int .i64 6))], none⟩, [⟨some 22, .load (.tmp 4) none, none⟩]), (⟨some 23, .call bin_reader_text [.tmp 22], none⟩, []), (⟨some 24, .build [.v (.int .i64 0), .v (.int .i64 0), .v (.int .i64 0), .v (.int .i64 0), .v (.int .i64 0), .v (.string (bs [])), .list 1 [] .full, .list 1 [] .full, .list 1 [] .full] [(0, (1, .tmp 13)), (1, (1, .tmp 15)), (2, (1, .tmp 17)), (3, (1, .tmp 19)), (4, (1, .tmp 21)), (5, (1, .tmp 23))], none⟩, []), (⟨none, .store (.tmp 6) (.tmp 24) 9, none⟩, [])], [(⟨some 12, .load (.tmp 4) none, none⟩, []), (⟨some 14, .load (.tmp 4) none, none⟩, []), (⟨some 16, .load (.tmp 4) none, none⟩, []), (⟨some 18, .load (.tmp 4) none, none⟩, []), (⟨some 20, .load (.tmp 4) none, none⟩, []), (⟨some 22, .load (.tmp 4) none, none⟩, []), (⟨some 13, .call bin_reader_num [.tmp 12, .cst (.v (.int .i64 6))], none⟩, [⟨some 22, .load (.tmp 4) none, none⟩, ⟨some 20, .load (.tmp 4) none, none⟩, ⟨some 18, .load (.tmp 4) none, none⟩, ⟨some 16, .load (.tmp 4) none, none⟩, ⟨some 14, .load (.tmp 4) none, none⟩]), (⟨some 15, .call bin_reader_num [.tmp 14, .cst (.v (.int .i64 6))], none⟩, [⟨some 22, .load (.tmp 4) none, none⟩, ⟨some 20, .load (.tmp 4) none, none⟩, ⟨some 18, .load (.tmp 4) none, none⟩, ⟨some 16, .load (.tmp 4) none, none⟩]), (⟨some 17, .call bin_reader_num [.tmp 16, .cst (.v (.int .i64 6))], none⟩, [⟨some 22, .load (.tmp 4) none, none⟩, ⟨some 20, .load (.tmp 4) none, none⟩, ⟨some 18, .load (.tmp 4) none, none⟩]), (⟨some 6, .new [.v (.int .i64 0), .v (.int .i64 0), .v (.int .i64 0), .v (.int .i64 0), .v (.int .i64 0), .v (.string (bs [])), .list 1 [] .full, .list 1 [] .full, .list 1 [] .full], none⟩, [⟨some 22, .load (.tmp 4) none, none⟩, ⟨some 20, .load (.tmp 4) none, none⟩, ⟨some 18, .load (.tmp 4) none, none⟩, ⟨some 16, .load (.tmp 4) none, none⟩, ⟨some 14, .load (.tmp 4) none, none⟩, ⟨some 12, .load (.tmp 4) none, none⟩]), (⟨some 19, .call bin_reader_num [.tmp 18, .cst (.v (.int .i64 6))], none⟩, [⟨some 22, .load (.tmp 4) none, none⟩, ⟨some 20, .load (.tmp 4) none, none⟩]), (⟨some 21, .call bin_reader_num [.tmp 20, .cst (.v (.int .i64 6))], none⟩, [⟨some 22, .load (.tmp 4) none, none⟩]), (⟨some 23, .call bin_reader_text [.tmp 22], none⟩, []), (⟨some 24, .build [.v (.int .i64 0), .v (.int .i64 0), .v (.int .i64 0), .v (.int .i64 0), .v (.int .i64 0), .v (.string (bs [])), .list 1 [] .full, .list 1 [] .full, .list 1 [] .full] [(0, (1, .tmp 13)), (1, (1, .tmp 15)), (2, (1, .tmp 17)), (3, (1, .tmp 19)), (4, (1, .tmp 21)), (5, (1, .tmp 23))], none⟩, []), (⟨none, .store (.tmp 6) (.tmp 24) 9, none⟩, [])], [(⟨some 12, .load (.tmp 4) none, none⟩, []), (⟨some 14, .load (.tmp 4) none, none⟩, []), (⟨some 16, .load (.tmp 4) none, none⟩, []), (⟨some 18, .load (.tmp 4) none, none⟩, []), (⟨some 20, .load (.tmp 4) none, none⟩, []), (⟨some 22, .load (.tmp 4) none, none⟩, []), (⟨some 13, .call bin_reader_num [.tmp 12, .cst (.v (.int .i64 6))], none⟩, [⟨some 22, .load (.tmp 4) none, none⟩, ⟨some 20, .load (.tmp 4) none, none⟩, ⟨some 18, .load (.tmp 4) none, none⟩, ⟨some 16, .load (.tmp 4) none, none⟩, ⟨some 14, .load (.tmp 4) none, none⟩]), (⟨some 15, .call bin_reader_num [.tmp 14, .cst (.v (.int .i64 6))], none⟩, [⟨some 22, .load (.tmp 4) none, none⟩, ⟨some 20, .load (.tmp 4) none, none⟩, ⟨some 18, .load (.tmp 4) none, none⟩, ⟨some 16, .load (.tmp 4) none, none⟩]), (⟨some 17, .call bin_reader_num [.tmp 16, .cst (.v (.int .i64 6))], none⟩, [⟨some 22, .load (.tmp 4) none, none⟩, ⟨some 20, .load (.tmp 4) none, none⟩, ⟨some 18, .load (.tmp 4) none, none⟩]), (⟨some 19, .call bin_reader_num [.tmp 18, .cst (.v (.int .i64 6))], none⟩, [⟨some 22, .load (.tmp 4) none, none⟩, ⟨some 20, .load (.tmp 4) none, none⟩]), (⟨some 6, .new [.v (.int .i64 0), .v (.int .i64 0), .v (.int .i64 0), .v (.int .i64 0), .v (.int .i64 0), .v (.string (bs [])), .list 1 [] .full, .list 1 [] .full, .list 1 [] .full], none⟩, [⟨some 22, .load (.tmp 4) none, none⟩, ⟨some 20, .load (.tmp 4) none, none⟩, ⟨some 18, .load (.tmp 4) none, none⟩, ⟨some 16, .load (.tmp 4) none, none⟩, ⟨some 14, .load (.tmp 4) none, none⟩, ⟨some 12, .load (.tmp 4) none, none⟩]), (⟨some 21, .call bin_reader_num [.tmp 20, .cst (.v (.int .i64 6))], none⟩, [⟨some 22, .load (.tmp 4) none, none⟩]), (⟨some 23, .call bin_reader_text [.tmp 22], none⟩, []), (⟨some 24, .build [.v (.int .i64 0), .v (.int .i64 0), .v (.int .i64 0), .v (.int .i64 0), .v (.int .i64 0), .v (.string (bs [])), .list 1 [] .full, .list 1 [] .full, .list 1 [] .full] [(0, (1, .tmp 13)), (1, (1, .tmp 15)), (2, (1, .tmp 17)), (3, (1, .tmp 19)), (4, (1, .tmp 21)), (5, (1, .tmp 23))], none⟩, []), (⟨none, .store (.tmp 6) (.tmp 24) 9, none⟩, [])], [(⟨some 12, .load (.tmp 4) none, none⟩, []), (⟨some 14, .load (.tmp 4) none, none⟩, []), (⟨some 16, .load (.tmp 4) none, none⟩, []), (⟨some 18, .load (.tmp 4) none, none⟩, []), (⟨some 20, .load (.tmp 4) none, none⟩, []), (⟨some 22, .load (.tmp 4) none, none⟩, []), (⟨some 13, .call bin_reader_num [.tmp 12, .cst (.v (.int .i64 6))], none⟩, [⟨some 22, .load (.tmp 4) none, none⟩, ⟨some 20, .load (.tmp 4) none, none⟩, ⟨some 18, .load (.tmp 4) none, none⟩, ⟨some 16, .load (.tmp 4) none, none⟩, ⟨some 14, .load (.tmp 4) none, none⟩]), (⟨some 15, .call bin_reader_num [.tmp 14, .cst (.v (.int .i64 6))], none⟩, [⟨some 22, .load (.tmp 4) none, none⟩, ⟨some 20, .load (.tmp 4) none, none⟩, ⟨some 18, .load (.tmp 4) none, none⟩, ⟨some 16, .load (.tmp 4) none, none⟩]), (⟨some 17, .call bin_reader_num [.tmp 16, .cst (.v (.int .i64 6))], none⟩, [⟨some 22, .load (.tmp 4) none, none⟩, ⟨some 20, .load (.tmp 4) none, none⟩, ⟨some 18, .load (.tmp 4) none, none⟩]), (⟨some 19, .call bin_reader_num [.tmp 18, .cst (.v (.int .i64 6))], none⟩, [⟨some 22, .load (.tmp 4) none, none⟩, ⟨some 20, .load (.tmp 4) none, none⟩]), (⟨some 21, .call bin_reader_num [.tmp 20, .cst (.v (.int .i64 6))], none⟩, [⟨some 22, .load (.tmp 4) none, none⟩]), (⟨some 6, .new [.v (.int .i64 0), .v (.int .i64 0), .v (.int .i64 0), .v (.int .i64 0), .v (.int .i64 0), .v (.string (bs [])), .list 1 [] .full, .list 1 [] .full, .list 1 [] .full], none⟩, [⟨some 22, .load (.tmp 4) none, none⟩, ⟨some 20, .load (.tmp 4) none, none⟩, ⟨some 18, .load (.tmp 4) none, none⟩, ⟨some 16, .load (.tmp 4) none, none⟩, ⟨some 14, .load (.tmp 4) none, none⟩, ⟨some 12, .load (.tmp 4) none, none⟩]), (⟨some 23, .call bin_reader_text [.tmp 22], none⟩, []), (⟨some 24, .build [.v (.int .i64 0), .v (.int .i64 0), .v (.int .i64 0), .v (.int .i64 0), .v (.int .i64 0), .v (.string (bs [])), .list 1 [] .full, .list 1 [] .full, .list 1 [] .full] [(0, (1, .tmp 13)), (1, (1, .tmp 15)), (2, (1, .tmp 17)), (3, (1, .tmp 19)), (4, (1, .tmp 21)), (5, (1, .tmp 23))], none⟩, []), (⟨none, .store (.tmp 6) (.tmp 24) 9, none⟩, [])], [(⟨some 12, .load (.tmp 4) none, none⟩, []), (⟨some 14, .load (.tmp 4) none, none⟩, []), (⟨some 16, .load (.tmp 4) none, none⟩, []), (⟨some 18, .load (.tmp 4) none, none⟩, []), (⟨some 20, .load (.tmp 4) none, none⟩, []), (⟨some 22, .load (.tmp 4) none, none⟩, []), (⟨some 13, .call bin_reader_num [.tmp 12, .cst (.v (.int .i64 6))], none⟩, [⟨some 22, .load (.tmp 4) none, none⟩, ⟨some 20, .load (.tmp 4) none, none⟩, ⟨some 18, .load (.tmp 4) none, none⟩, ⟨some 16, .load (.tmp 4) none, none⟩, ⟨some 14, .load (.tmp 4) none, none⟩]), (⟨some 15, .call bin_reader_num [.tmp 14, .cst (.v (.int .i64 6))], none⟩, [⟨some 22, .load (.tmp 4) none, none⟩, ⟨some 20, .load (.tmp 4) none, none⟩, ⟨some 18, .load (.tmp 4) none, none⟩, ⟨some 16, .load (.tmp 4) none, none⟩]), (⟨some 17, .call bin_reader_num [.tmp 16, .cst (.v (.int .i64 6))], none⟩, [⟨some 22, .load (.tmp 4) none, none⟩, ⟨some 20, .load (.tmp 4) none, none⟩, ⟨some 18, .load (.tmp 4) none, none⟩]), (⟨some 19, .call bin_reader_num [.tmp 18, .cst (.v (.int .i64 6))], none⟩, [⟨some 22, .load (.tmp 4) none, none⟩, ⟨some 20, .load (.tmp 4) none, none⟩]), (⟨some 21, .call bin_reader_num [.tmp 20, .cst (.v (.int .i64 6))], none⟩, [⟨some 22, .load (.tmp 4) none, none⟩]), (⟨some 23, .call bin_reader_text [.tmp 22], none⟩, []), (⟨some 24, .build [.v (.int .i64 0), .v (.int .i64 0), .v (.int .i64 0), .v (.int .i64 0), .v (.int .i64 0), .v (.string (bs [])), .list 1 [] .full, .list 1 [] .full, .list 1 [] .full] [(0, (1, .tmp 13)), (1, (1, .tmp 15)), (2, (1, .tmp 17)), (3, (1, .tmp 19)), (4, (1, .tmp 21)), (5, (1, .tmp 23))], none⟩, []), (⟨some 6, .new [.v (.int .i64 0), .v (.int .i64 0), .v (.int .i64 0), .v (.int .i64 0), .v (.int .i64 0), .v (.string (bs [])), .list 1 [] .full, .list 1 [] .full, .list 1 [] .full], none⟩, [⟨some 22, .load (.tmp 4) none, none⟩, ⟨some 20, .load (.tmp 4) none, none⟩, ⟨some 18, .load (.tmp 4) none, none⟩, ⟨some 16, .load (.tmp 4) none, none⟩, ⟨some 14, .load (.tmp 4) none, none⟩, ⟨some 12, .load (.tmp 4) none, none⟩]), (⟨none, .store (.tmp 6) (.tmp 24) 9, none⟩, [])]]) (.seq (.region [⟨some 25, .load (.tmp 4) none, none⟩, ⟨some 26, .load (.tmp 4) none, none⟩, ⟨some 27, .mkf (.func bin_reader_text) [.tmp 26] [], none⟩, ⟨some 28, .call bin_list_string [.tmp 25, .cst (.v (.int .i64 2)), .tmp 27], none⟩, ⟨some 29, .fad (.tmp 6) 6, none⟩, ⟨none, .store (.tmp 29) (.tmp 28) 1, none⟩]) (.seq (.region [⟨some 30, .load (.tmp 4) none, none⟩, ⟨some 31, .mkf (.func bin_Decode_1) [] [.tmp 4], none⟩, ⟨some 32, .call bin_list_int [.tmp 30, .cst (.v (.int .i64 2)), .tmp 31], none⟩, ⟨some 33, .fad (.tmp 6) 7, none⟩, ⟨none, .store (.tmp 33) (.tmp 32) 1, none⟩]) (.seq (.region [⟨some 34, .load (.tmp 4) none, none⟩, ⟨some 35, .load (.tmp 4) none, none⟩, ⟨some 36, .mkf (.func bin_reader_text) [.tmp 35] [], none⟩, ⟨some 37, .call bin_list_string [.tmp 34, .cst (.v (.int .i64 4)), .tmp 36], none⟩, ⟨some 38, .fad (.tmp 6) 8, none⟩, ⟨none, .store (.tmp 38) (.tmp 37) 1, none⟩]) (.seq (.seq (.region [⟨some 39, .load (.tmp 4) none, none⟩, ⟨some 40, .nilc (.tmp 39), none⟩, ⟨some 41, .fad (.tmp 40) 1, none⟩, ⟨some 42, .load (.tmp 41) none, none⟩, ⟨some 43, .mv (.tmp 42), none⟩, ⟨some 44, .mv (.tmp 5), some (43, .false)⟩, ⟨some 45, .bin .neq .other (.tmp 44) (.cst (.v (.int .i64 2))), some (43, .false)⟩, ⟨some 46, .pick (.tmp 43) (.cst (.v (.bool .true))) (.tmp 45), none⟩, ⟨some 47, .mv (.tmp 46), none⟩, ⟨some 48, .load (.tmp 4) none, some (47, .false)⟩, ⟨some 49, .nilc (.tmp 48), some (47, .false)⟩, ⟨some 50, .fad (.tmp 49) 0, some (47, .false)⟩, ⟨some 51, .load (.tmp 50) none, some (47, .false)⟩, ⟨some 52, .len .sl (.tmp 51), some (47, .false)⟩, ⟨some 53, .bin .gtr .other (.tmp 52) (.cst (.v (.int .i64 0))), some (47, .false)⟩, ⟨some 54, .pick (.tmp 47) (.cst (.v (.bool .true))) (.tmp 53), none⟩, ⟨some 55, .mv (.tmp 54), none⟩, ⟨some 56, .load (.tmp 6) (some 9), some (55, .false)⟩, ⟨some 57, .call env_Good [.tmp 56], some (55, .false)⟩, ⟨some 58, .un .not (.tmp 57), some (55, .false)⟩, ⟨some 59, .pick (.tmp 55) (.cst (.v (.bool .true))) (.tmp 58), none⟩]) (.cond (.tmp 59) (.seq (.region [⟨some 60, .build [.v (.int .i64 0), .v (.int .i64 0), .v (.int .i64 0), .v (.int .i64 0), .v (.int .i64 0), .v (.string (bs [])), .list 1 [] .full, .list 1 [] .full, .list 1 [] .full] [], none⟩, ⟨none, .store (.tmp 2) (.tmp 60) 9, none⟩, ⟨some 3, .mv (.cst (.v (.int .i64 2))), none⟩]) .ret) .skip)) (.seq (.region [⟨some 61, .load (.tmp 6) (some 9), none⟩, ⟨none, .store (.tmp 2) (.tmp 61) 9, none⟩, ⟨some 3, .mv (.cst (.v (.int .i64 0))), none⟩]) .ret))))))))
theorem b_bin_Decode : HasBody P bin_Decode 62 c_bin_Decode [.cell 2 (some 9), .tmp 3] := .of [] (by kernel_rfl)
noncomputable def c_bin_writer_num : IC := .seq (.region [⟨some 7, .mv (.tmp 2), none⟩, ⟨some 8, .bin .sub .other (.tmp 7) (.cst (.v (.int .i64 1))), none⟩, ⟨some 6, .mv (.tmp 8), none⟩]) (.block 0 (.loop (.seq (.seq (.region [⟨some 9, .mv (.tmp 6), none⟩, ⟨some 10, .bin .geq .other (.tmp 9) (.cst (.v (.int .i64 0))), none⟩]) (.cond (.tmp 10) .skip (.exit 0))) (.seq (.block 1 (.region [⟨some 13, .mv (.tmp 0), none⟩, ⟨some 14, .mv (.tmp 0), none⟩, ⟨some 15, .nilc (.tmp 14), none⟩, ⟨some 16, .fad (.tmp 15) 0, none⟩, ⟨some 17, .load (.tmp 16) none, none⟩, ⟨some 18, .mv (.tmp 1), none⟩, ⟨some 19, .mv (.tmp 6), none⟩, ⟨some 20, .bin .mul .other (.cst (.v (.int .i64 8))) (.tmp 19), none⟩, ⟨some 21, .bin .shr .other (.tmp 18) (.tmp 20), none⟩, ⟨some 22, .convI .u8 (.tmp 21), none⟩, ⟨some 23, .lit 1 1 [.v (.int .u8 0)] [(0, .tmp 22)], none⟩, ⟨some 24, .app 1 1 (.tmp 17) (.tmp 23), none⟩, ⟨some 25, .nilc (.tmp 13), none⟩, ⟨some 26, .fad (.tmp 25) 0, none⟩, ⟨none, .store (.tmp 26) (.tmp 24) 1, none⟩])) (.region [⟨some 11, .mv (.tmp 6), none⟩, ⟨some 12, .bin .sub .other (.tmp 11) (.cst (.v (.int .i64 1))), none⟩, ⟨some 6, .mv (.tmp 12), none⟩])))))
theorem b_bin_writer_num : HasBody P bin_writer_num 27 c_bin_writer_num [] := .of [] (by kernel_rfl)
noncomputable def c_bin_writer_text : IC := .seq (.region [⟨some 4, .mv (.tmp 0), none⟩, ⟨some 5, .mv (.tmp 1), none⟩, ⟨some 6, .len .str (.tmp 5), none⟩, ⟨some 7, .call bin_writer_num [.tmp 4, .tmp 6, .cst (.v (.int .i64 2))], none⟩]) (.region [⟨some 8, .mv (.tmp 0), none⟩, ⟨some 9, .mv (.tmp 0), none⟩, ⟨some 10, .nilc (.tmp 9), none⟩, ⟨some 11, .fad (.tmp 10) 0, none⟩, ⟨some 12, .load (.tmp 11) none, none⟩, ⟨some 13, .mv (.tmp 1), none⟩, ⟨some 14, .app 1 1 (.tmp 12) (.tmp 13), none⟩, ⟨some 15, .nilc (.tmp 8), none⟩, ⟨some 16, .fad (.tmp 15) 0, none⟩, ⟨none, .store (.tmp 16) (.tmp 14) 1, none⟩])
theorem b_bin_writer_text : HasBody P bin_writer_text 17 c_bin_writer_text [] := .of [] (by kernel_rfl)
noncomputable def c_bin_reader_num : IC := .seq (.region [⟨some 4, .mv (.cst (.v (.int .i64 0))), none⟩]) (.seq (.region [⟨some 5, .mv (.cst (.v (.int .i64 0))), none⟩]) (.seq (.seq (.region [⟨some 8, .mv (.tmp 0), none⟩, ⟨some 9, .mv (.tmp 1), none⟩, ⟨some 10, .call bin_reader_take [.tmp 8, .tmp 9], none⟩, ⟨some 11, .len .sl (.tmp 10), none⟩, ⟨some 12, .mv (.cst (.v (.int .i64 0))), none⟩]) (.block 0 (.loop (.seq (.region [⟨some 13, .bin .lss .other (.tmp 12) (.tmp 11), none⟩]) (.seq (.cond (.tmp 13) .skip (.exit 0)) (.seq (.block 1 (.seq (.region [⟨some 14, .iaL 1 (.tmp 10) (.tmp 12), none⟩, ⟨some 15, .load (.tmp 14) none, none⟩, ⟨some 7, .mv (.tmp 15), none⟩]) (.region [⟨some 16, .mv (.tmp 5), none⟩, ⟨some 17, .bin .shl .other (.tmp 16) (.cst (.v (.int .u64 8))), none⟩, ⟨some 18, .mv (.tmp 7), none⟩, ⟨some 19, .convI .i64 (.tmp 18), none⟩, ⟨some 20, .bin .or .other (.tmp 17) (.tmp 19), none⟩, ⟨some 5, .mv (.tmp 20), none⟩]))) (.region [⟨some 21, .bin .add .other (.tmp 12) (.cst (.v (.int .i64 1))), none⟩, ⟨some 12, .mv (.tmp 21), none⟩]))))))) (.seq (.region [⟨some 22, .mv (.tmp 5), none⟩, ⟨some 4, .mv (.tmp 22), none⟩]) .ret)))
theorem b_bin_reader_num : HasBody P bin_reader_num 23 c_bin_reader_num [.tmp 4] := .of [] (by kernel_rfl)
noncomputable def c_bin_reader_text : IC := .seq (.region [⟨some 2, .mv (.cst (.v (.string (bs [])))), none⟩]) (.seq (.region [⟨some 3, .mv (.tmp 0), none⟩, ⟨some 4, .mv (.tmp 0), none⟩, ⟨some 5, .call bin_reader_num [.tmp 4, .cst (.v (.int .i64 2))], none⟩, ⟨some 6, .call bin_reader_take [.tmp 3, .tmp 5], none⟩, ⟨some 7, .b2s (.tmp 6), none⟩, ⟨some 2, .mv (.tmp 7), none⟩]) .ret)
theorem b_bin_reader_text : HasBody P bin_reader_text 8 c_bin_reader_text [.tmp 2] := .of [] (by kernel_rfl)
noncomputable def c_bin_list_string : IC := .seq (.region [⟨some 6, .mv (.cst (.list 1 [] .full)), none⟩]) (.seq (.region [⟨some 7, .mv (.cst (.list 1 [] .full)), none⟩]) (.seq (.seq (.region [⟨some 9, .mv (.tmp 0), none⟩, ⟨some 10, .mv (.tmp 1), none⟩, ⟨some 11, .call bin_reader_num [.tmp 9, .tmp 10], none⟩, ⟨some 8, .mv (.tmp 11), none⟩]) (.block 0 (.loop (.seq (.seq (.region [⟨some 12, .mv (.tmp 8), none⟩, ⟨some 13, .bin .gtr .other (.tmp 12) (.cst (.v (.int .i64 0))), none⟩, ⟨some 14, .mv (.tmp 13), none⟩, ⟨some 15, .mv (.tmp 0), some (14, .true)⟩, ⟨some 16, .nilc (.tmp 15), some (14, .true)⟩, ⟨some 17, .fad (.tmp 16) 1, some (14, .true)⟩, ⟨some 18, .load (.tmp 17) none, some (14, .true)⟩, ⟨some 19, .un .not (.tmp 18), some (14, .true)⟩, ⟨some 20, .pick (.tmp 14) (.tmp 19) (.cst (.v (.bool .false))), none⟩]) (.cond (.tmp 20) .skip (.exit 0))) (.seq (.block 1 (.region [⟨some 23, .mv (.tmp 7), none⟩, ⟨some 24, .mv (.tmp 2), none⟩, ⟨some 25, .callv (.tmp 24) [], none⟩, ⟨some 26, .lit 1 1 [.v (.string (bs []))] [(0, .tmp 25)], none⟩, ⟨some 27, .app 1 16 (.tmp 23) (.tmp 26), none⟩, ⟨some 7, .mv (.tmp 27), none⟩])) (.region [⟨some 21, .mv (.tmp 8), none⟩, ⟨some 22, .bin .sub .other (.tmp 21) (.cst (.v (.int .i64 1))), none⟩, ⟨some 8, .mv (.tmp 22), none⟩])))))) (.seq (.region [⟨some 28, .mv (.tmp 7), none⟩, ⟨some 6, .mv (.tmp 28), none⟩]) .ret)))
theorem b_bin_list_string : HasBody P bin_list_string 29 c_bin_list_string [.tmp 6] := .of [] (by kernel_rfl)
noncomputable def c_bin_list_int : IC := .seq (.region [⟨some 6, .mv (.cst (.list 1 [] .full)), none⟩]) (.seq (.region [⟨some 7, .mv (.cst (.list 1 [] .full)), none⟩]) (.seq (.seq (.region [⟨some 9, .mv (.tmp 0), none⟩, ⟨some 10, .mv (.tmp 1), none⟩, ⟨some 11, .call bin_reader_num [.tmp 9, .tmp 10], none⟩, ⟨some 8, .mv (.tmp 11), none⟩]) (.block 0 (.loop (.seq (.seq (.region [⟨some 12, .mv (.tmp 8), none⟩, ⟨some 13, .bin .gtr .other (.tmp 12) (.cst (.v (.int .i64 0))), none⟩, ⟨some 14, .mv (.tmp 13), none⟩, ⟨some 15, .mv (.tmp 0), some (14, .true)⟩, ⟨some 16, .nilc (.tmp 15), some (14, .true)⟩, ⟨some 17, .fad (.tmp 16) 1, some (14, .true)⟩, ⟨some 18, .load (.tmp 17) none, some (14, .true)⟩, ⟨some 19, .un .not (.tmp 18), some (14, .true)⟩, ⟨some 20, .pick (.tmp 14) (.tmp 19) (.cst (.v (.bool .false))), none⟩]) (.cond (.tmp 20) .skip (.exit 0))) (.seq (.block 1 (.region [⟨some 23, .mv (.tmp 7), none⟩, ⟨some 24, .mv (.tmp 2), none⟩, ⟨some 25, .callv (.tmp 24) [], none⟩, ⟨some 26, .lit 1 1 [.v (.int .i64 0)] [(0, .tmp 25)], none⟩, ⟨some 27, .app 1 8 (.tmp 23) (.tmp 26), none⟩, ⟨some 7, .mv (.tmp 27), none⟩])) (.region [⟨some 21, .mv (.tmp 8), none⟩, ⟨some 22, .bin .sub .other (.tmp 21) (.cst (.v (.int .i64 1))), none⟩, ⟨some 8, .mv (.tmp 22), none⟩])))))) (.seq (.region [⟨some 28, .mv (.tmp 7), none⟩, ⟨some 6, .mv (.tmp 28), none⟩]) .ret)))
theorem b_bin_list_int : HasBody P bin_list_int 29 c_bin_list_int [.tmp 6] := .of [] (by kernel_rfl)
noncomputable def c_bin_Decode_1 : IC := .seq (.region [⟨some 1, .mv (.cst (.v (.int .i64 0))), none⟩]) (.seq (.region [⟨some 2, .load (.tmp 0) none, none⟩, ⟨some 3, .call bin_reader_num [.tmp 2, .cst (.v (.int .i64 1))], none⟩, ⟨some 1, .mv (.tmp 3), none⟩]) .ret)
theorem b_bin_Decode_1 : HasBody P bin_Decode_1 4 c_bin_Decode_1 [.tmp 1] := .of [] (by kernel_rfl)
noncomputable def c_bin_reader_take : IC := .seq (.region [⟨some 4, .mv (.cst (.list 1 [] .full)), none⟩]) (.seq (.seq (.region [⟨some 6, .mv (.tmp 0), none⟩, ⟨some 7, .nilc (.tmp 6), none⟩, ⟨some 8, .fad (.tmp 7) 1, none⟩, ⟨some 9, .load (.tmp 8) none, none⟩, ⟨some 10, .mv (.tmp 9), none⟩, ⟨some 11, .mv (.tmp 1), some (10, .false)⟩, ⟨some 12, .mv (.tmp 0), some (10, .false)⟩, ⟨some 13, .nilc (.tmp 12), some (10, .false)⟩, ⟨some 14, .fad (.tmp 13) 0, some (10, .false)⟩, ⟨some 15, .load (.tmp 14) none, some (10, .false)⟩, ⟨some 16, .len .sl (.tmp 15), some (10, .false)⟩, ⟨some 17, .bin .gtr .other (.tmp 11) (.tmp 16), some (10, .false)⟩, ⟨some 18, .pick (.tmp 10) (.cst (.v (.bool .true))) (.tmp 17), none⟩]) (.cond (.tmp 18) (.seq (.region [⟨some 19, .mv (.tmp 0), none⟩, ⟨some 20, .nilc (.tmp 19), none⟩, ⟨some 21, .fad (.tmp 20) 1, none⟩, ⟨none, .store (.tmp 21) (.cst (.v (.bool .true))) 1, none⟩]) (.seq (.region [⟨some 4, .mv (.cst (.list 1 [] .full)), none⟩]) .ret)) .skip)) (.seq (.region [⟨some 22, .mv (.tmp 0), none⟩, ⟨some 23, .nilc (.tmp 22), none⟩, ⟨some 24, .fad (.tmp 23) 0, none⟩, ⟨some 25, .load (.tmp 24) none, none⟩, ⟨some 26, .mv (.tmp 1), none⟩, ⟨some 27, .mv (.tmp 1), none⟩, ⟨some 28, .slL 1 (.tmp 25) none (some (.tmp 26)) (some (.tmp 27)), none⟩, ⟨some 5, .mv (.tmp 28), none⟩]) (.seq (.region [⟨some 29, .mv (.tmp 0), none⟩, ⟨some 30, .mv (.tmp 0), none⟩, ⟨some 31, .nilc (.tmp 30), none⟩, ⟨some 32, .fad (.tmp 31) 0, none⟩, ⟨some 33, .load (.tmp 32) none, none⟩, ⟨some 34, .mv (.tmp 1), none⟩, ⟨some 35, .slL 1 (.tmp 33) (some (.tmp 34)) none none, none⟩, ⟨some 36, .nilc (.tmp 29), none⟩, ⟨some 37, .fad (.tmp 36) 0, none⟩, ⟨none, .store (.tmp 37) (.tmp 35) 1, none⟩]) (.seq (.region [⟨some 38, .mv (.tmp 5), none⟩, ⟨some 4, .mv (.tmp 38), none⟩]) .ret))))
theorem b_bin_reader_take : HasBody P bin_reader_take 39 c_bin_reader_take [.tmp 4] := .of [] (by kernel_rfl)
end Go.Abs.F
/- Layer 12: the writer of bytes. -/
namespace Go.Abs.F
open Go Go.Abs
set_option maxRecDepth 10000
set_option maxHeartbeats 20000000
set_option linter.unusedSimpArgs false
set_option linter.unusedVariables false
variable {w0 : World}
/-- The object is a writer of these bytes; its row is its own or new since h0. -/
structure Wr (h0 h : AH) (id : Nat) (l : L8) : Prop where
  lt : id < h.n
  ge : h0.n ≤ id
  ext : Ext h0 h
  ob : ∃ tk, h.objs id = some (.cells [.list 1 (brows l) tk]) ∧ TokU h tk ∧ ∀ t, tk.owner = some t → h0.nt ≤ t
theorem Wr.app {h0 h h2 : AH} {id : Nat} {l l2 : L8} {tk tk1 : Tok} (hw : Wr h0 h id l) (hF : ∀ t, tk.owner = some t → h0.nt ≤ t) (hT2 : TokU h2 tk1) (hT3 : TokN h tk tk1) (hT4 : h2.objs = h.objs) (hT5 : h2.n = h.n) (hT6 : ExtX (fun _ => False) (fun t => tk.owner = some t) h h2) :
    Wr h0 (h2.set id (.cells [.list 1 (brows l2) tk1])) id l2 := by
  refine ⟨by simp only [set_n, hT5]; exact hw.lt, hw.ge, (Ext.transX hw.ext hT6 (fun _ x => x.elim) hF).set hw.ge _, tk1, by rw [set_at, if_pos rfl], hT2.set, fun t ht => ?_⟩
  rcases hT3 t ht with hz | hz
  · exact hF t hz
  · exact Nat.le_trans hw.ext.nt hz
theorem take_num {k n j : Nat} (h : j < k) : (numW k n).take (j + 1) = (numW k n).take j ++ [UInt8.ofNat (n / 256 ^ (k - 1 - j) % 256)] := by
  rw [List.take_add_one, numW_get k n j h]
  rfl
theorem pow8 (k : Nat) : (2 : Int) ^ (8 * k) = ((256 ^ k : Nat) : Int) := by
  rw [Int.natCast_pow, Int.pow_mul]
  rfl
theorem wnum_call (id : Nat) (h0 : AH) (pre : L8) (n size : Nat) (h : AH) (hw : Wr h0 h id pre) (hn : n ≤ 1099511627776) (hs : size ≤ 6) (hp : pre.length ≤ 1000000000) :
    Call P w0 bin_writer_num [.ptr id 0, .v (.int .i64 (n : Nat)), .v (.int .i64 (size : Nat))] h (fun v h' => Wr h0 h' id (pre ++ numW size n)) := by
  have bl := brows_len
  have hlen := numW_len size n
  refine Call.bodyF b_bin_writer_num rfl rfl ?_
  unfold c_bin_writer_num
  repeat' (first
| ((with_reducible apply opsF.op rfl); case hs => first | exact tHT | exact tHS)
| (with_reducible first | apply opsF.nil | apply seqF.nn | apply vcF.seq | apply vcF.region | apply vcF.skip | apply vcF.block | apply vcF.exit | apply vcF.ret | apply vcF.loop | apply seqF.e | apply seqF.r | apply blkF.nn | apply blkF.e | apply blkF.r | apply blkF.o rfl)
| ((with_reducible apply opsF.call); case hx => exact tAG)
| ((with_reducible apply vcF.cond); case hx => exact tEV) <;> ((intro hc; try simp only [Int.reduceLT, Int.reduceLE, Int.reduceEq, Int.reduceNe, Int.cast_ofNat_Int, Int.reduceNeg, reduceCtorEq, ne_eq, ge_iff_le, gt_iff_lt, beq_iff_eq, beq_eq_false_iff_ne, bne_iff_ne, bne_eq_false_iff_eq, nrm, *] at hc) <;> try (exfalso; omega))
| ((with_reducible first | apply retF.r | apply retF.nn); case hv => exact tRS))
  refine LpF.ind rfl (fun j : Nat => size - j) (fun j σ hh => Wr h0 hh id (pre ++ (numW size n).take j) ∧ σ 0 = .ptr id 0 ∧ σ 1 = .v (.int .i64 (n : Nat)) ∧ σ 6 = .v (.int .i64 ((size : Int) - 1 - j)) ∧ j ≤ size) ?_ (i := 0)
    ⟨by simpa using hw, rfl, rfl, by conv => lhs; whnf
                                     simp, Nat.zero_le _⟩
  rintro j σ hh ⟨hw, g0, g1, g6, hj⟩
  rcases Nat.lt_or_ge j size with hlt | hge
  · obtain ⟨k, hk⟩ : ∃ k : Nat, k = size - 1 - j := ⟨_, rfl⟩
    have hk2 : (size : Int) - 1 - j = (k : Int) := by omega
    have hk6 : k ≤ 5 := by omega
    rw [hk2] at g6
    obtain ⟨tk, ho, hT, hF⟩ := hw.ob
    have hwlt := hw.lt
    obtain ⟨tk1, h2, hap, hT2, hT3, hT4, hT5, hT6⟩ := hT.app
    have hpl : (pre ++ (numW size n).take j).length ≤ 1000000006 := by simp only [List.length_append, List.length_take, hlen]; omega
    have htk := take_num (n := n) hlt
    rw [← hk] at htk
    generalize hL : pre ++ (numW size n).take j = L at *
    have hsh : ((n : Int) / 2 ^ ((8 : Int) * (k : Int)).toNat) = ((n / 256 ^ k : Nat) : Int) := by
      rw [show ((8 : Int) * (k : Int)).toNat = 8 * k by omega, pow8]
      norm_cast
    have h8k : (0 : Int) ≤ 8 * (k : Int) ∧ 8 * (k : Int) ≤ (IntKind.i64.bits : Int) := by
      rw [show (IntKind.i64.bits : Int) = 64 from rfl]; omega
    have hcv : IntKind.u8.wrap ((n / 256 ^ k : Nat) : Int) = (((UInt8.ofNat (n / 256 ^ k % 256)).toNat : Nat) : Int) := by
      rw [wrap8, UInt8.toNat_ofNat']
      omega
    clear hk
    generalize hq : n / 256 ^ k = q at *
    repeat' (first
| ((with_reducible apply opsF.op rfl); case hs => first | exact tHT | exact tHS)
| (with_reducible first | apply opsF.nil | apply seqF.nn | apply vcF.seq | apply vcF.region | apply vcF.skip | apply vcF.block | apply vcF.exit | apply vcF.ret | apply vcF.loop | apply seqF.e | apply seqF.r | apply blkF.nn | apply blkF.e | apply blkF.r | apply blkF.o rfl)
| ((with_reducible apply opsF.call); case hx => exact tAG)
| ((with_reducible apply vcF.cond); case hx => exact tEV) <;> ((intro hc; try simp only [Int.reduceLT, Int.reduceLE, Int.reduceEq, Int.reduceNe, Int.cast_ofNat_Int, Int.reduceNeg, reduceCtorEq, ne_eq, ge_iff_le, gt_iff_lt, beq_iff_eq, beq_eq_false_iff_ne, bne_iff_ne, bne_eq_false_iff_eq, nrm, *] at hc) <;> try (exfalso; omega))
| ((with_reducible first | apply retF.r | apply retF.nn); case hv => exact tRS)
| ((with_reducible apply opsF.op rfl); (case hs => exact is_shr tEV tEV h8k hsh))
| ((with_reducible apply opsF.op rfl); (case hs => exact is_convI tEV hcv)))
    refine ⟨j + 1, by omega, ?_, g0, g1, ?_, by omega⟩
    · have e : pre ++ (numW size n).take (j + 1) = L ++ [UInt8.ofNat (q % 256)] := by rw [htk, ← List.append_assoc, hL]
      rw [e]
      have := Wr.app (l2 := L ++ [UInt8.ofNat (q % 256)]) hw hF hT2 hT3 hT4 hT5 hT6
      rw [brows_app] at this
      exact this
    · show AV.v (.int .i64 _) = AV.v (.int .i64 ((size : Int) - 1 - ((j + 1 : Nat) : Int)))
      congr 2
      omega
  · obtain rfl : j = size := by omega
    rw [List.take_of_length_le (by omega)] at hw
    repeat' (first
| ((with_reducible apply opsF.op rfl); case hs => first | exact tHT | exact tHS)
| (with_reducible first | apply opsF.nil | apply seqF.nn | apply vcF.seq | apply vcF.region | apply vcF.skip | apply vcF.block | apply vcF.exit | apply vcF.ret | apply vcF.loop | apply seqF.e | apply seqF.r | apply blkF.nn | apply blkF.e | apply blkF.r | apply blkF.o rfl)
| ((with_reducible apply opsF.call); case hx => exact tAG)
| ((with_reducible apply vcF.cond); case hx => exact tEV) <;> ((intro hc; try simp only [Int.reduceLT, Int.reduceLE, Int.reduceEq, Int.reduceNe, Int.cast_ofNat_Int, Int.reduceNeg, reduceCtorEq, ne_eq, ge_iff_le, gt_iff_lt, beq_iff_eq, beq_eq_false_iff_ne, bne_iff_ne, bne_eq_false_iff_eq, nrm, *] at hc) <;> try (exfalso; omega))
| ((with_reducible first | apply retF.r | apply retF.nn); case hv => exact tRS))
    all_goals exact hw
theorem app_str (L s : L8) (tk : Tok) (h : AH) (hT : TokU h tk) (hl : L.length + s.length ≤ 100000000000) : ∃ tk1 h2, (∀ (σ : Fm) (x y : Opd), evF σ x = .list 1 (brows L) tk → evF σ y = .v (.string (bs s)) → istep (.app 1 1 x y) (evF σ) h = some (.list 1 (brows (L ++ s)) tk1, h2)) ∧ TokU h2 tk1 ∧ TokN h tk tk1 ∧ h2.objs = h.objs ∧ h2.n = h.n ∧ ExtX (fun _ => False) (fun t => tk.owner = some t) h h2 := by
  have hsr : srcRows 1 h (.v (.string (bs s))) = some (brows s) := by simp [srcRows, byteRows_brows]
  cases s with
  | nil =>
    refine ⟨tk, h, fun σ x y hx hy => ?_, hT, fun t ht => .inl ht, rfl, rfl, ⟨Nat.le_refl _, Nat.le_refl _, fun _ _ _ => rfl, fun _ _ _ => rfl⟩⟩
    rw [List.append_nil]
    exact is_app0 hx hy hsr
  | cons c r =>
    obtain ⟨tk1, h2, hap, hT2, hT3, hT4, hT5, hT6⟩ := hT.app
    refine ⟨tk1, h2, fun σ x y hx hy => ?_, hT2, hT3, hT4, hT5, hT6⟩
    refine is_app (r := [.v (.int .u8 (c.toNat : Int))]) (new := brows r) hx hy hsr hap ?_ ?_
    · rw [brows_len, brows_len]
      simp at hl
      omega
    · rw [brows_app]; rfl
theorem wtext_call (id : Nat) (h0 : AH) (pre s : L8) (h : AH) (hw : Wr h0 h id pre) (hs : s.length ≤ 1000000) (hp : pre.length ≤ 900000000) :
    Call P w0 bin_writer_text [.ptr id 0, .v (.string (bs s))] h (fun v h' => Wr h0 h' id (pre ++ textB s)) := by
  have bl := brows_len
  have h2n : (2 : Int) = ((2 : Nat) : Int) := rfl
  have hn := wnum_call (w0 := w0) id h0 pre s.length 2 h hw (by omega) (by omega) (by omega)
  rw [← h2n] at hn
  refine Call.bodyF b_bin_writer_text rfl rfl ?_
  unfold c_bin_writer_text
  repeat' (first
| ((with_reducible apply opsF.op rfl); case hs => first | exact tHT | exact tHS)
| (with_reducible first | apply opsF.nil | apply seqF.nn | apply vcF.seq | apply vcF.region | apply vcF.skip | apply vcF.ret | apply seqF.r)
| ((with_reducible apply opsF.call); case hx => exact tAG)
| ((with_reducible apply vcF.cond); case hx => exact tEV) <;> ((intro hc; try simp only [Int.reduceLT, Int.reduceLE, Int.reduceEq, Int.reduceNe, Int.cast_ofNat_Int, Int.reduceNeg, reduceCtorEq, ne_eq, ge_iff_le, gt_iff_lt, beq_iff_eq, beq_eq_false_iff_ne, bne_iff_ne, bne_eq_false_iff_eq, nrm, *] at hc) <;> try (exfalso; omega))
| ((with_reducible first | apply retF.r | apply retF.nn); case hv => exact tRS)
| ((refine hn.mono fun v h1 hw1 => ?_); obtain ⟨tk, ho, hT, hF⟩ := hw1.ob; have hwlt := hw1.lt; obtain ⟨tk1, h2, happ, hT2, hT3, hT4, hT5, hT6⟩ := app_str (pre ++ numW 2 s.length) s tk h1 hT (by simp only [List.length_append, numW_len]; omega))
| ((with_reducible apply opsF.op rfl); (case hs => exact happ _ _ _ tEV tEV)))
  all_goals first
    | exact (Wr.app hw1 hF hT2 hT3 hT4 hT5 hT6)
    | (have e : pre ++ textB s = (pre ++ numW 2 s.length) ++ s := by simp [textB]
       rw [e]; exact (Wr.app hw1 hF hT2 hT3 hT4 hT5 hT6))
    | trace_state
end Go.Abs.F
