/- Layer 11: bodies; which messages may be. -/
import Derived.Test.YtnpdmkbfphcioaaGreatDoorEvC
namespace Go.Abs.F
open Go Go.Abs
set_option maxRecDepth 10000
set_option maxHeartbeats 20000000
set_option linter.unusedSimpArgs false
set_option linter.unusedVariables false
variable {w0 : World}
theorem bsize_app (l m : List L8) : bsizeS (l ++ m) = bsizeS l + bsizeS m := by
  induction l with
  | nil => simp [bsizeS]
  | cons x l ih => simp only [List.cons_append, bsizeS, ih]; omega
theorem bsize_take {l : List L8} {i : Nat} {x : L8} (hx : l[i]? = some x) : bsizeS (l.take (i + 1)) = bsizeS (l.take i) + x.length + 2 := by
  rw [List.take_add_one, hx, Option.toList_some, bsize_app]
  simp only [bsizeS]
  omega
theorem bsize_bd {l : List L8} {K : Nat} (h : ∀ s ∈ l, s.length ≤ K) : bsizeS l ≤ l.length * (K + 2) := by
  induction l with
  | nil => simp [bsizeS]
  | cons x l ih =>
    have h1 := h x (by simp)
    have h2 := ih fun s hs => h s (by simp [hs])
    simp only [bsizeS, List.length_cons, Nat.add_mul]
    omega
theorem bsize_bt {l : List L8} {K : Nat} (h : ∀ s ∈ l, s.length ≤ K) (i : Nat) : bsizeS (l.take i) ≤ l.length * (K + 2) := by
  have h1 := bsize_bd (l := l.take i) fun s hs => h s (List.mem_of_mem_take hs)
  have h2 : (l.take i).length ≤ l.length := by rw [List.length_take]; omega
  exact Nat.le_trans h1 (Nat.mul_le_mul_right _ h2)
theorem dsize_call (l : List L8) (tok : Tok) (h : AH) (hl : l.length ≤ 1000000) (hs : ∀ s ∈ l, s.length ≤ 1000000) : Call P w0 dots_Size [.list 1 (srows l) tok] h (fun v h' => v = .v (.int .i64 (bsizeS l : Nat)) ∧ h' = h) := by
  have xl := srows_len
  have xg := srows_get
  have m1 := srows_len l
  refine Call.bodyF b_dots_Size rfl rfl ?_
  unfold c_dots_Size
  repeat' (first
    | ((with_reducible apply opsF.op rfl); (case hs => (first | exact tHT | exact tHS)))
    | with_reducible (first | apply opsF.nil | apply seqF.nn | apply vcF.seq | apply vcF.region | apply vcF.skip | apply vcF.block | apply vcF.exit | apply vcF.ret | apply vcF.loop | apply seqF.e | apply seqF.r | apply blkF.nn | apply blkF.e | apply blkF.r | apply blkF.o rfl)
    | ((with_reducible apply opsF.call); (case hx => exact tAG))
    | (first | ((with_reducible apply vcF.cond); (case hx => exact tEV))) <;> ((intro hc; try simp only [Int.reduceLT, Int.reduceLE, Int.reduceEq, Int.reduceNe, Int.cast_ofNat_Int, Int.reduceNeg, decide_true, decide_false, not_true_eq_false, not_false_eq_true, decide_eq_true_eq, decide_eq_false_iff_not, Bool.not_eq_true', Bool.not_eq_false', Bool.not_true, Bool.not_false, Bool.false_eq_true, Bool.true_eq_false, Bool.not_eq_true, Bool.not_eq_false, beq_iff_eq, beq_eq_false_iff_ne, bne_iff_ne, bne_eq_false_iff_eq, ne_eq, Int.not_lt, Int.not_le, ge_iff_le, gt_iff_lt, Decidable.not_not, reduceCtorEq, *] at hc) <;> (try (exfalso; omega)))
    | ((with_reducible apply retF.r); (case hv => exact tRS))
    | ((with_reducible apply retF.nn); (case hv => exact tRS)))
  refine LpF.ind rfl (fun i : Nat => l.length - i) (fun i σ h' => h' = h ∧ σ 6 = .list 1 (srows l) tok ∧ σ 7 = .v (.int .i64 (l.length : Nat)) ∧ σ 8 = .v (.int .i64 (i : Nat)) ∧ σ 3 = .v (.int .i64 (bsizeS (l.take i) : Nat)) ∧ i ≤ l.length) ?_ (i := 0) ⟨rfl, rfl, by first | rfl | (rw [← m1]; rfl), rfl, rfl, Nat.zero_le _⟩
  rintro i σ h' ⟨rfl, h0, h1, h7, h8, hi⟩
  have hbt : bsizeS (l.take i) ≤ 1000002000000 := by
    have h1 := bsize_bt hs i
    have h2 : l.length * (1000000 + 2) ≤ 1000000 * (1000000 + 2) := Nat.mul_le_mul_right _ hl
    omega
  rcases Nat.lt_or_ge i l.length with hlt | hge
  · obtain ⟨x, hx⟩ : ∃ x, l[i]? = some x := ⟨_, List.getElem?_eq_getElem hlt⟩
    have hxl := hs x (List.mem_of_getElem? hx)
    have htk := bsize_take hx
    generalize bsizeS (l.take i) = m at *
    repeat' (first
    | ((with_reducible apply opsF.op rfl); (case hs => (first | exact tHT | exact tHS)))
    | with_reducible (first | apply opsF.nil | apply seqF.nn | apply vcF.seq | apply vcF.region | apply vcF.skip | apply vcF.block | apply vcF.exit | apply vcF.ret | apply vcF.loop | apply seqF.e | apply seqF.r | apply blkF.nn | apply blkF.e | apply blkF.r | apply blkF.o rfl)
    | ((with_reducible apply opsF.call); (case hx => exact tAG))
    | (first | ((with_reducible apply vcF.cond); (case hx => exact tEV))) <;> ((intro hc; try simp only [Int.reduceLT, Int.reduceLE, Int.reduceEq, Int.reduceNe, Int.cast_ofNat_Int, Int.reduceNeg, decide_true, decide_false, not_true_eq_false, not_false_eq_true, decide_eq_true_eq, decide_eq_false_iff_not, Bool.not_eq_true', Bool.not_eq_false', Bool.not_true, Bool.not_false, Bool.false_eq_true, Bool.true_eq_false, Bool.not_eq_true, Bool.not_eq_false, beq_iff_eq, beq_eq_false_iff_ne, bne_iff_ne, bne_eq_false_iff_eq, ne_eq, Int.not_lt, Int.not_le, ge_iff_le, gt_iff_lt, Decidable.not_not, reduceCtorEq, *] at hc) <;> (try (exfalso; omega)))
    | ((with_reducible apply retF.r); (case hv => exact tRS))
    | ((with_reducible apply retF.nn); (case hv => exact tRS)))
    refine ⟨i + 1, by omega, rfl, h0, h1, rfl, ?_, by omega⟩
    conv => lhs; whnf
    rw [htk]
    simp
    omega
  · obtain rfl : i = l.length := by omega
    rw [List.take_length] at h8
    repeat' (first
    | ((with_reducible apply opsF.op rfl); (case hs => (first | exact tHT | exact tHS)))
    | with_reducible (first | apply opsF.nil | apply seqF.nn | apply vcF.seq | apply vcF.region | apply vcF.skip | apply vcF.block | apply vcF.exit | apply vcF.ret | apply vcF.loop | apply seqF.e | apply seqF.r | apply blkF.nn | apply blkF.e | apply blkF.r | apply blkF.o rfl)
    | ((with_reducible apply opsF.call); (case hx => exact tAG))
    | (first | ((with_reducible apply vcF.cond); (case hx => exact tEV))) <;> ((intro hc; try simp only [Int.reduceLT, Int.reduceLE, Int.reduceEq, Int.reduceNe, Int.cast_ofNat_Int, Int.reduceNeg, decide_true, decide_false, not_true_eq_false, not_false_eq_true, decide_eq_true_eq, decide_eq_false_iff_not, Bool.not_eq_true', Bool.not_eq_false', Bool.not_true, Bool.not_false, Bool.false_eq_true, Bool.true_eq_false, Bool.not_eq_true, Bool.not_eq_false, beq_iff_eq, beq_eq_false_iff_ne, bne_iff_ne, bne_eq_false_iff_eq, ne_eq, Int.not_lt, Int.not_le, ge_iff_le, gt_iff_lt, Decidable.not_not, reduceCtorEq, *] at hc) <;> (try (exfalso; omega)))
    | ((with_reducible apply retF.r); (case hv => exact tRS))
    | ((with_reducible apply retF.nn); (case hv => exact tRS)))
    all_goals exact ⟨rfl, rfl⟩
theorem rsize_call (l : List L8) (tok : Tok) (h : AH) (hl : l.length ≤ 1000000) (hs : ∀ s ∈ l, s.length ≤ 1000000) : Call P w0 ref01_Size [.list 1 (srows l) tok] h (fun v h' => v = .v (.int .i64 (bsizeS l : Nat)) ∧ h' = h) := by
  have xl := srows_len
  have xg := srows_get
  have m1 := srows_len l
  refine Call.bodyF b_ref01_Size rfl rfl ?_
  unfold c_ref01_Size
  repeat' (first
    | ((with_reducible apply opsF.op rfl); (case hs => (first | exact tHT | exact tHS)))
    | with_reducible (first | apply opsF.nil | apply seqF.nn | apply vcF.seq | apply vcF.region | apply vcF.skip | apply vcF.block | apply vcF.exit | apply vcF.ret | apply vcF.loop | apply seqF.e | apply seqF.r | apply blkF.nn | apply blkF.e | apply blkF.r | apply blkF.o rfl)
    | ((with_reducible apply opsF.call); (case hx => exact tAG))
    | (first | ((with_reducible apply vcF.cond); (case hx => exact tEV))) <;> ((intro hc; try simp only [Int.reduceLT, Int.reduceLE, Int.reduceEq, Int.reduceNe, Int.cast_ofNat_Int, Int.reduceNeg, decide_true, decide_false, not_true_eq_false, not_false_eq_true, decide_eq_true_eq, decide_eq_false_iff_not, Bool.not_eq_true', Bool.not_eq_false', Bool.not_true, Bool.not_false, Bool.false_eq_true, Bool.true_eq_false, Bool.not_eq_true, Bool.not_eq_false, beq_iff_eq, beq_eq_false_iff_ne, bne_iff_ne, bne_eq_false_iff_eq, ne_eq, Int.not_lt, Int.not_le, ge_iff_le, gt_iff_lt, Decidable.not_not, reduceCtorEq, *] at hc) <;> (try (exfalso; omega)))
    | ((with_reducible apply retF.r); (case hv => exact tRS))
    | ((with_reducible apply retF.nn); (case hv => exact tRS)))
  refine LpF.ind rfl (fun i : Nat => l.length - i) (fun i σ h' => h' = h ∧ σ 0 = .list 1 (srows l) tok ∧ σ 4 = .v (.int .i64 (i : Nat)) ∧ σ 3 = .v (.int .i64 (bsizeS (l.take i) : Nat)) ∧ i ≤ l.length) ?_ (i := 0) ⟨rfl, rfl, rfl, rfl, Nat.zero_le _⟩
  rintro i σ h' ⟨rfl, h0, h7, h8, hi⟩
  have hbt : bsizeS (l.take i) ≤ 1000002000000 := by
    have h1 := bsize_bt hs i
    have h2 : l.length * (1000000 + 2) ≤ 1000000 * (1000000 + 2) := Nat.mul_le_mul_right _ hl
    omega
  rcases Nat.lt_or_ge i l.length with hlt | hge
  · obtain ⟨x, hx⟩ : ∃ x, l[i]? = some x := ⟨_, List.getElem?_eq_getElem hlt⟩
    have hxl := hs x (List.mem_of_getElem? hx)
    have htk := bsize_take hx
    generalize bsizeS (l.take i) = m at *
    repeat' (first
    | ((with_reducible apply opsF.op rfl); (case hs => (first | exact tHT | exact tHS)))
    | with_reducible (first | apply opsF.nil | apply seqF.nn | apply vcF.seq | apply vcF.region | apply vcF.skip | apply vcF.block | apply vcF.exit | apply vcF.ret | apply vcF.loop | apply seqF.e | apply seqF.r | apply blkF.nn | apply blkF.e | apply blkF.r | apply blkF.o rfl)
    | ((with_reducible apply opsF.call); (case hx => exact tAG))
    | (first | ((with_reducible apply vcF.cond); (case hx => exact tEV))) <;> ((intro hc; try simp only [Int.reduceLT, Int.reduceLE, Int.reduceEq, Int.reduceNe, Int.cast_ofNat_Int, Int.reduceNeg, decide_true, decide_false, not_true_eq_false, not_false_eq_true, decide_eq_true_eq, decide_eq_false_iff_not, Bool.not_eq_true', Bool.not_eq_false', Bool.not_true, Bool.not_false, Bool.false_eq_true, Bool.true_eq_false, Bool.not_eq_true, Bool.not_eq_false, beq_iff_eq, beq_eq_false_iff_ne, bne_iff_ne, bne_eq_false_iff_eq, ne_eq, Int.not_lt, Int.not_le, ge_iff_le, gt_iff_lt, Decidable.not_not, reduceCtorEq, *] at hc) <;> (try (exfalso; omega)))
    | ((with_reducible apply retF.r); (case hv => exact tRS))
    | ((with_reducible apply retF.nn); (case hv => exact tRS)))
    refine ⟨i + 1, by omega, rfl, h0, rfl, ?_, by omega⟩
    conv => lhs; whnf
    rw [htk]
    simp
  · obtain rfl : i = l.length := by omega
    rw [List.take_length] at h8
    repeat' (first
    | ((with_reducible apply opsF.op rfl); (case hs => (first | exact tHT | exact tHS)))
    | with_reducible (first | apply opsF.nil | apply seqF.nn | apply vcF.seq | apply vcF.region | apply vcF.skip | apply vcF.block | apply vcF.exit | apply vcF.ret | apply vcF.loop | apply seqF.e | apply seqF.r | apply blkF.nn | apply blkF.e | apply blkF.r | apply blkF.o rfl)
    | ((with_reducible apply opsF.call); (case hx => exact tAG))
    | (first | ((with_reducible apply vcF.cond); (case hx => exact tEV))) <;> ((intro hc; try simp only [Int.reduceLT, Int.reduceLE, Int.reduceEq, Int.reduceNe, Int.cast_ofNat_Int, Int.reduceNeg, decide_true, decide_false, not_true_eq_false, not_false_eq_true, decide_eq_true_eq, decide_eq_false_iff_not, Bool.not_eq_true', Bool.not_eq_false', Bool.not_true, Bool.not_false, Bool.false_eq_true, Bool.true_eq_false, Bool.not_eq_true, Bool.not_eq_false, beq_iff_eq, beq_eq_false_iff_ne, bne_iff_ne, bne_eq_false_iff_eq, ne_eq, Int.not_lt, Int.not_le, ge_iff_le, gt_iff_lt, Decidable.not_not, reduceCtorEq, *] at hc) <;> (try (exfalso; omega)))
    | ((with_reducible apply retF.r); (case hv => exact tRS))
    | ((with_reducible apply retF.nn); (case hv => exact tRS)))
    all_goals exact ⟨rfl, rfl⟩
theorem idx_lt {c : UInt8} {s : L8} : ¬ 0 ≤ Lib.indexByte s c ↔ s.contains c = false := by
  rw [← idx_ge]; simp
theorem dgood_call (l : List L8) (tok : Tok) (h : AH) (hl : l.length ≤ 1000000) (hs : ∀ s ∈ l, s.length ≤ 1000000) : Call P w0 dots_Good [.list 1 (srows l) tok] h (fun v h' => v = .v (.bool (bodyS l)) ∧ h' = h) := by
  have xl := srows_len
  have xg := srows_get
  have m1 := srows_len l
  refine Call.bodyF b_dots_Good rfl rfl ?_
  unfold c_dots_Good
  repeat' (first
    | ((with_reducible apply opsF.op rfl); (case hs => (first | exact tHT | exact tHS)))
    | with_reducible (first | apply opsF.nil | apply seqF.nn | apply vcF.seq | apply vcF.region | apply vcF.skip | apply vcF.block | apply vcF.exit | apply vcF.ret | apply vcF.loop | apply seqF.e | apply seqF.r | apply blkF.nn | apply blkF.e | apply blkF.r | apply blkF.o rfl)
    | ((with_reducible apply opsF.call); (case hx => exact tAG))
    | ((with_reducible apply opsF.want); (case hg => exact tEV); (case hb => exact tNB))
    | ((with_reducible apply opsF.skip); (case hg => exact tEV); (case hb => exact tNB))
    | (first | ((with_reducible apply opsF.case); (case hg => exact tEV)) | ((with_reducible apply vcF.cond); (case hx => exact tEV))) <;> ((intro hc; try simp only [Int.reduceLT, Int.reduceLE, Int.reduceEq, Int.reduceNe, Int.cast_ofNat_Int, Int.reduceNeg, decide_true, decide_false, not_true_eq_false, not_false_eq_true, decide_eq_true_eq, decide_eq_false_iff_not, Bool.not_eq_true', Bool.not_eq_false', Bool.not_true, Bool.not_false, Bool.false_eq_true, Bool.true_eq_false, Bool.not_eq_true, Bool.not_eq_false, beq_iff_eq, beq_eq_false_iff_ne, bne_iff_ne, bne_eq_false_iff_eq, ne_eq, Int.not_lt, Int.not_le, ge_iff_le, gt_iff_lt, Decidable.not_not, reduceCtorEq, *] at hc) <;> (try (exfalso; omega)))
    | ((with_reducible apply opsF.und); (case hg => rfl))
    | ((with_reducible apply retF.r); (case hv => exact tRS))
    | ((with_reducible apply retF.nn); (case hv => exact tRS)))
  refine LpF.ind rfl (fun i : Nat => l.length - i) (fun i σ h' => h' = h ∧ σ 0 = .list 1 (srows l) tok ∧ σ 5 = .list 1 (srows l) tok ∧ σ 6 = .v (.int .i64 (l.length : Nat)) ∧ σ 7 = .v (.int .i64 (i : Nat)) ∧ i ≤ l.length ∧ (l.take i).all lineOkS = true) ?_ (i := 0) ⟨rfl, rfl, rfl, by first | rfl | (rw [← m1]; rfl), rfl, Nat.zero_le _, rfl⟩
  rintro i σ h' ⟨rfl, h0, h5, h6, h7, hi, ha⟩
  rcases Nat.lt_or_ge i l.length with hlt | hge
  · obtain ⟨x, hx⟩ : ∃ x, l[i]? = some x := ⟨_, List.getElem?_eq_getElem hlt⟩
    have hxl := hs x (List.mem_of_getElem? hx)
    have h1 := fun h => idxB_call (w0 := w0) x 0 h
    have h2 := fun h => idxB_call (w0 := w0) x 10 h
    have h3 := fun h => idxB_call (w0 := w0) x 13 h
    have c1 := idx_ge (c := 0) (s := x)
    have c2 := idx_ge (c := 10) (s := x)
    have c3 := idx_ge (c := 13) (s := x)
    generalize Lib.indexByte x 0 = n1 at *
    generalize Lib.indexByte x 10 = n2 at *
    generalize Lib.indexByte x 13 = n3 at *
    have hno : lineOkS x = false → bodyS l = false := fun e => by
      rw [bodyS, all_bad hx e]; rfl
    have hok : lineOkS x = (!(decide (0 ≤ n1)) && !(decide (0 ≤ n2)) && !(decide (0 ≤ n3)) && decide (x.length ≤ 997)) := by rw [lineOkS, c1, c2, c3]
    clear c1 c2 c3
    cases hb : lineOkS x with
    | false =>
      rw [hno hb]
      rw [hb] at hok
      clear hno ha hs
      have hok2 : 0 ≤ n1 ∨ 0 ≤ n2 ∨ 0 ≤ n3 ∨ 997 < x.length := by
        have := hok.symm
        simp at this
        omega
      clear hok hb
      repeat' (first
    | ((with_reducible apply opsF.op rfl); (case hs => (first | exact tHT | exact tHS)))
    | with_reducible (first | apply opsF.nil | apply seqF.nn | apply vcF.seq | apply vcF.region | apply vcF.skip | apply vcF.block | apply vcF.exit | apply vcF.ret | apply vcF.loop | apply seqF.e | apply seqF.r | apply blkF.nn | apply blkF.e | apply blkF.r | apply blkF.o rfl)
    | ((with_reducible apply opsF.call); (case hx => exact tAG))
    | ((with_reducible apply opsF.want); (case hg => exact tEV); (case hb => exact tNB))
    | ((with_reducible apply opsF.skip); (case hg => exact tEV); (case hb => exact tNB))
    | (first | ((with_reducible apply opsF.case); (case hg => exact tEV)) | ((with_reducible apply vcF.cond); (case hx => exact tEV))) <;> ((intro hc; try simp only [Int.reduceLT, Int.reduceLE, Int.reduceEq, Int.reduceNe, Int.cast_ofNat_Int, Int.reduceNeg, decide_true, decide_false, not_true_eq_false, not_false_eq_true, decide_eq_true_eq, decide_eq_false_iff_not, Bool.not_eq_true', Bool.not_eq_false', Bool.not_true, Bool.not_false, Bool.false_eq_true, Bool.true_eq_false, Bool.not_eq_true, Bool.not_eq_false, beq_iff_eq, beq_eq_false_iff_ne, bne_iff_ne, bne_eq_false_iff_eq, ne_eq, Int.not_lt, Int.not_le, ge_iff_le, gt_iff_lt, Decidable.not_not, reduceCtorEq, *] at hc) <;> (try (exfalso; omega)))
    | ((with_reducible apply opsF.und); (case hg => rfl))
    | ((with_reducible apply retF.r); (case hv => exact tRS))
    | ((with_reducible apply retF.nn); (case hv => exact tRS))
    | ((refine Call.use (h1 _) ?_))
    | ((refine Call.use (h2 _) ?_))
    | ((refine Call.use (h3 _) ?_)))
      all_goals first | exact ⟨rfl, rfl⟩ | (exfalso; omega)
    | true =>
      rw [hb] at hok
      have hok2 : ¬ 0 ≤ n1 ∧ ¬ 0 ≤ n2 ∧ ¬ 0 ≤ n3 ∧ x.length ≤ 997 := by
        have := hok.symm
        simp at this
        omega
      have hnx : (l.take (i + 1)).all lineOkS = true := by rw [List.take_add_one, hx, List.all_append, ha]; simp [hb]
      obtain ⟨q1, q2, q3, q4⟩ := hok2
      clear hok hno hs ha hb
      repeat' (first
    | ((with_reducible apply opsF.op rfl); (case hs => (first | exact tHT | exact tHS)))
    | with_reducible (first | apply opsF.nil | apply seqF.nn | apply vcF.seq | apply vcF.region | apply vcF.skip | apply vcF.block | apply vcF.exit | apply vcF.ret | apply vcF.loop | apply seqF.e | apply seqF.r | apply blkF.nn | apply blkF.e | apply blkF.r | apply blkF.o rfl)
    | ((with_reducible apply opsF.call); (case hx => exact tAG))
    | ((with_reducible apply opsF.want); (case hg => exact tEV); (case hb => exact tNB))
    | ((with_reducible apply opsF.skip); (case hg => exact tEV); (case hb => exact tNB))
    | (first | ((with_reducible apply opsF.case); (case hg => exact tEV)) | ((with_reducible apply vcF.cond); (case hx => exact tEV))) <;> ((intro hc; try simp only [Int.reduceLT, Int.reduceLE, Int.reduceEq, Int.reduceNe, Int.cast_ofNat_Int, Int.reduceNeg, decide_true, decide_false, not_true_eq_false, not_false_eq_true, decide_eq_true_eq, decide_eq_false_iff_not, Bool.not_eq_true', Bool.not_eq_false', Bool.not_true, Bool.not_false, Bool.false_eq_true, Bool.true_eq_false, Bool.not_eq_true, Bool.not_eq_false, beq_iff_eq, beq_eq_false_iff_ne, bne_iff_ne, bne_eq_false_iff_eq, ne_eq, Int.not_lt, Int.not_le, ge_iff_le, gt_iff_lt, Decidable.not_not, reduceCtorEq, *] at hc) <;> (try (exfalso; omega)))
    | ((with_reducible apply opsF.und); (case hg => rfl))
    | ((with_reducible apply retF.r); (case hv => exact tRS))
    | ((with_reducible apply retF.nn); (case hv => exact tRS))
    | ((refine Call.use (h1 _) ?_))
    | ((refine Call.use (h2 _) ?_))
    | ((refine Call.use (h3 _) ?_)))
      all_goals exact ⟨i + 1, by omega, rfl, h0, h5, h6, rfl, by omega, hnx⟩
  · obtain rfl : i = l.length := by omega
    rw [List.take_length] at ha
    have hsz := fun h => dsize_call (w0 := w0) l tok h hl hs
    rw [bodyS, ha]
    clear ha hs
    generalize bsizeS l = q at *
    repeat' (first
    | ((with_reducible apply opsF.op rfl); (case hs => (first | exact tHT | exact tHS)))
    | with_reducible (first | apply opsF.nil | apply seqF.nn | apply vcF.seq | apply vcF.region | apply vcF.skip | apply vcF.block | apply vcF.exit | apply vcF.ret | apply vcF.loop | apply seqF.e | apply seqF.r | apply blkF.nn | apply blkF.e | apply blkF.r | apply blkF.o rfl)
    | ((with_reducible apply opsF.call); (case hx => exact tAG))
    | ((with_reducible apply opsF.want); (case hg => exact tEV); (case hb => exact tNB))
    | ((with_reducible apply opsF.skip); (case hg => exact tEV); (case hb => exact tNB))
    | (first | ((with_reducible apply opsF.case); (case hg => exact tEV)) | ((with_reducible apply vcF.cond); (case hx => exact tEV))) <;> ((intro hc; try simp only [Int.reduceLT, Int.reduceLE, Int.reduceEq, Int.reduceNe, Int.cast_ofNat_Int, Int.reduceNeg, decide_true, decide_false, not_true_eq_false, not_false_eq_true, decide_eq_true_eq, decide_eq_false_iff_not, Bool.not_eq_true', Bool.not_eq_false', Bool.not_true, Bool.not_false, Bool.false_eq_true, Bool.true_eq_false, Bool.not_eq_true, Bool.not_eq_false, beq_iff_eq, beq_eq_false_iff_ne, bne_iff_ne, bne_eq_false_iff_eq, ne_eq, Int.not_lt, Int.not_le, ge_iff_le, gt_iff_lt, Decidable.not_not, reduceCtorEq, *] at hc) <;> (try (exfalso; omega)))
    | ((with_reducible apply opsF.und); (case hg => rfl))
    | ((with_reducible apply retF.r); (case hv => exact tRS))
    | ((with_reducible apply retF.nn); (case hv => exact tRS))
    | ((refine Call.use (hsz _) ?_)))
    all_goals (refine ⟨?_, rfl⟩; simp; try omega)
theorem rgood_call (l : List L8) (tok : Tok) (h : AH) (hl : l.length ≤ 1000000) (hs : ∀ s ∈ l, s.length ≤ 1000000) : Call P w0 ref01_Good [.list 1 (srows l) tok] h (fun v h' => v = .v (.bool (bodyS l)) ∧ h' = h) := by
  have xl := srows_len
  have xg := srows_get
  have m1 := srows_len l
  refine Call.bodyF b_ref01_Good rfl rfl ?_
  unfold c_ref01_Good
  repeat' (first
    | ((with_reducible apply opsF.op rfl); (case hs => (first | exact tHT | exact tHS)))
    | with_reducible (first | apply opsF.nil | apply seqF.nn | apply vcF.seq | apply vcF.region | apply vcF.skip | apply vcF.block | apply vcF.exit | apply vcF.ret | apply vcF.loop | apply seqF.e | apply seqF.r | apply blkF.nn | apply blkF.e | apply blkF.r | apply blkF.o rfl)
    | ((with_reducible apply opsF.call); (case hx => exact tAG))
    | ((with_reducible apply opsF.want); (case hg => exact tEV); (case hb => exact tNB))
    | ((with_reducible apply opsF.skip); (case hg => exact tEV); (case hb => exact tNB))
    | (first | ((with_reducible apply opsF.case); (case hg => exact tEV)) | ((with_reducible apply vcF.cond); (case hx => exact tEV))) <;> ((intro hc; try simp only [Int.reduceLT, Int.reduceLE, Int.reduceEq, Int.reduceNe, Int.cast_ofNat_Int, Int.reduceNeg, decide_true, decide_false, not_true_eq_false, not_false_eq_true, decide_eq_true_eq, decide_eq_false_iff_not, Bool.not_eq_true', Bool.not_eq_false', Bool.not_true, Bool.not_false, Bool.false_eq_true, Bool.true_eq_false, Bool.not_eq_true, Bool.not_eq_false, beq_iff_eq, beq_eq_false_iff_ne, bne_iff_ne, bne_eq_false_iff_eq, ne_eq, Int.not_lt, Int.not_le, ge_iff_le, gt_iff_lt, Decidable.not_not, reduceCtorEq, *] at hc) <;> (try (exfalso; omega)))
    | ((with_reducible apply opsF.und); (case hg => rfl))
    | ((with_reducible apply retF.r); (case hv => exact tRS))
    | ((with_reducible apply retF.nn); (case hv => exact tRS)))
  refine LpF.ind rfl (fun i : Nat => l.length - i) (fun i σ h' => h' = h ∧ σ 0 = .list 1 (srows l) tok ∧ σ 3 = .v (.int .i64 (i : Nat)) ∧ i ≤ l.length ∧ (l.take i).all lineOkS = true) ?_ (i := 0) ⟨rfl, rfl, rfl, Nat.zero_le _, rfl⟩
  rintro i σ h' ⟨rfl, h0, h7, hi, ha⟩
  rcases Nat.lt_or_ge i l.length with hlt | hge
  · obtain ⟨x, hx⟩ : ∃ x, l[i]? = some x := ⟨_, List.getElem?_eq_getElem hlt⟩
    have hxl := hs x (List.mem_of_getElem? hx)
    have h1 := fun h => rin_call (w0 := w0) x 0 h (by omega)
    have h2 := fun h => rin_call (w0 := w0) x 10 h (by omega)
    have h3 := fun h => rin_call (w0 := w0) x 13 h (by omega)
    have hno : lineOkS x = false → bodyS l = false := fun e => by
      rw [bodyS, all_bad hx e]; rfl
    have hok : lineOkS x = (!x.contains 0 && !x.contains 10 && !x.contains 13 && decide (x.length ≤ 997)) := rfl
    generalize x.contains 0 = n1 at *
    generalize x.contains 10 = n2 at *
    generalize x.contains 13 = n3 at *
    cases hb : lineOkS x with
    | false =>
      rw [hno hb]
      rw [hb] at hok
      clear hno ha hs hb
      have hok2 : n1 = true ∨ n2 = true ∨ n3 = true ∨ 997 < x.length := by
        cases n1 <;> cases n2 <;> cases n3 <;> simp at hok ⊢
        omega
      clear hok
      rcases Nat.lt_or_ge 997 x.length with hg | hg
      · repeat' (first
    | ((with_reducible apply opsF.op rfl); (case hs => (first | exact tHT | exact tHS)))
    | with_reducible (first | apply opsF.nil | apply seqF.nn | apply vcF.seq | apply vcF.region | apply vcF.skip | apply vcF.block | apply vcF.exit | apply vcF.ret | apply vcF.loop | apply seqF.e | apply seqF.r | apply blkF.nn | apply blkF.e | apply blkF.r | apply blkF.o rfl)
    | ((with_reducible apply opsF.call); (case hx => exact tAG))
    | ((with_reducible apply opsF.want); (case hg => exact tEV); (case hb => exact tNB))
    | ((with_reducible apply opsF.skip); (case hg => exact tEV); (case hb => exact tNB))
    | (first | ((with_reducible apply opsF.case); (case hg => exact tEV)) | ((with_reducible apply vcF.cond); (case hx => exact tEV))) <;> ((intro hc; try simp only [Int.reduceLT, Int.reduceLE, Int.reduceEq, Int.reduceNe, Int.cast_ofNat_Int, Int.reduceNeg, decide_true, decide_false, not_true_eq_false, not_false_eq_true, decide_eq_true_eq, decide_eq_false_iff_not, Bool.not_eq_true', Bool.not_eq_false', Bool.not_true, Bool.not_false, Bool.false_eq_true, Bool.true_eq_false, Bool.not_eq_true, Bool.not_eq_false, beq_iff_eq, beq_eq_false_iff_ne, bne_iff_ne, bne_eq_false_iff_eq, ne_eq, Int.not_lt, Int.not_le, ge_iff_le, gt_iff_lt, Decidable.not_not, reduceCtorEq, *] at hc) <;> (try (exfalso; omega)))
    | ((with_reducible apply opsF.und); (case hg => rfl))
    | ((with_reducible apply retF.r); (case hv => exact tRS))
    | ((with_reducible apply retF.nn); (case hv => exact tRS))
    | ((refine Call.use (h1 _) ?_))
    | ((refine Call.use (h2 _) ?_))
    | ((refine Call.use (h3 _) ?_)))
        all_goals exact ⟨rfl, rfl⟩
      · cases n1 <;> cases n2 <;> cases n3 <;> first
          | (exfalso; simp at hok2; omega)
          | (repeat' (first
    | ((with_reducible apply opsF.op rfl); (case hs => (first | exact tHT | exact tHS)))
    | with_reducible (first | apply opsF.nil | apply seqF.nn | apply vcF.seq | apply vcF.region | apply vcF.skip | apply vcF.block | apply vcF.exit | apply vcF.ret | apply vcF.loop | apply seqF.e | apply seqF.r | apply blkF.nn | apply blkF.e | apply blkF.r | apply blkF.o rfl)
    | ((with_reducible apply opsF.call); (case hx => exact tAG))
    | ((with_reducible apply opsF.want); (case hg => exact tEV); (case hb => exact tNB))
    | ((with_reducible apply opsF.skip); (case hg => exact tEV); (case hb => exact tNB))
    | (first | ((with_reducible apply opsF.case); (case hg => exact tEV)) | ((with_reducible apply vcF.cond); (case hx => exact tEV))) <;> ((intro hc; try simp only [Int.reduceLT, Int.reduceLE, Int.reduceEq, Int.reduceNe, Int.cast_ofNat_Int, Int.reduceNeg, decide_true, decide_false, not_true_eq_false, not_false_eq_true, decide_eq_true_eq, decide_eq_false_iff_not, Bool.not_eq_true', Bool.not_eq_false', Bool.not_true, Bool.not_false, Bool.false_eq_true, Bool.true_eq_false, Bool.not_eq_true, Bool.not_eq_false, beq_iff_eq, beq_eq_false_iff_ne, bne_iff_ne, bne_eq_false_iff_eq, ne_eq, Int.not_lt, Int.not_le, ge_iff_le, gt_iff_lt, Decidable.not_not, reduceCtorEq, *] at hc) <;> (try (exfalso; omega)))
    | ((with_reducible apply opsF.und); (case hg => rfl))
    | ((with_reducible apply retF.r); (case hv => exact tRS))
    | ((with_reducible apply retF.nn); (case hv => exact tRS))
    | ((refine Call.use (h1 _) ?_))
    | ((refine Call.use (h2 _) ?_))
    | ((refine Call.use (h3 _) ?_)))
             all_goals exact ⟨rfl, rfl⟩)
    | true =>
      rw [hb] at hok
      have hok2 : n1 = false ∧ n2 = false ∧ n3 = false ∧ x.length ≤ 997 := by
        cases n1 <;> cases n2 <;> cases n3 <;> simp at hok ⊢
        exact hok
      have hnx : (l.take (i + 1)).all lineOkS = true := by rw [List.take_add_one, hx, List.all_append, ha]; simp [hb]
      obtain ⟨rfl, rfl, rfl, q4⟩ := hok2
      clear hok hno hs ha hb
      repeat' (first
    | ((with_reducible apply opsF.op rfl); (case hs => (first | exact tHT | exact tHS)))
    | with_reducible (first | apply opsF.nil | apply seqF.nn | apply vcF.seq | apply vcF.region | apply vcF.skip | apply vcF.block | apply vcF.exit | apply vcF.ret | apply vcF.loop | apply seqF.e | apply seqF.r | apply blkF.nn | apply blkF.e | apply blkF.r | apply blkF.o rfl)
    | ((with_reducible apply opsF.call); (case hx => exact tAG))
    | ((with_reducible apply opsF.want); (case hg => exact tEV); (case hb => exact tNB))
    | ((with_reducible apply opsF.skip); (case hg => exact tEV); (case hb => exact tNB))
    | (first | ((with_reducible apply opsF.case); (case hg => exact tEV)) | ((with_reducible apply vcF.cond); (case hx => exact tEV))) <;> ((intro hc; try simp only [Int.reduceLT, Int.reduceLE, Int.reduceEq, Int.reduceNe, Int.cast_ofNat_Int, Int.reduceNeg, decide_true, decide_false, not_true_eq_false, not_false_eq_true, decide_eq_true_eq, decide_eq_false_iff_not, Bool.not_eq_true', Bool.not_eq_false', Bool.not_true, Bool.not_false, Bool.false_eq_true, Bool.true_eq_false, Bool.not_eq_true, Bool.not_eq_false, beq_iff_eq, beq_eq_false_iff_ne, bne_iff_ne, bne_eq_false_iff_eq, ne_eq, Int.not_lt, Int.not_le, ge_iff_le, gt_iff_lt, Decidable.not_not, reduceCtorEq, *] at hc) <;> (try (exfalso; omega)))
    | ((with_reducible apply opsF.und); (case hg => rfl))
    | ((with_reducible apply retF.r); (case hv => exact tRS))
    | ((with_reducible apply retF.nn); (case hv => exact tRS))
    | ((refine Call.use (h1 _) ?_))
    | ((refine Call.use (h2 _) ?_))
    | ((refine Call.use (h3 _) ?_)))
      all_goals exact ⟨i + 1, by omega, rfl, h0, rfl, by omega, hnx⟩
  · obtain rfl : i = l.length := by omega
    rw [List.take_length] at ha
    have hsz := fun h => rsize_call (w0 := w0) l tok h hl hs
    rw [bodyS, ha]
    clear ha hs
    generalize bsizeS l = q at *
    repeat' (first
    | ((with_reducible apply opsF.op rfl); (case hs => (first | exact tHT | exact tHS)))
    | with_reducible (first | apply opsF.nil | apply seqF.nn | apply vcF.seq | apply vcF.region | apply vcF.skip | apply vcF.block | apply vcF.exit | apply vcF.ret | apply vcF.loop | apply seqF.e | apply seqF.r | apply blkF.nn | apply blkF.e | apply blkF.r | apply blkF.o rfl)
    | ((with_reducible apply opsF.call); (case hx => exact tAG))
    | ((with_reducible apply opsF.want); (case hg => exact tEV); (case hb => exact tNB))
    | ((with_reducible apply opsF.skip); (case hg => exact tEV); (case hb => exact tNB))
    | (first | ((with_reducible apply opsF.case); (case hg => exact tEV)) | ((with_reducible apply vcF.cond); (case hx => exact tEV))) <;> ((intro hc; try simp only [Int.reduceLT, Int.reduceLE, Int.reduceEq, Int.reduceNe, Int.cast_ofNat_Int, Int.reduceNeg, decide_true, decide_false, not_true_eq_false, not_false_eq_true, decide_eq_true_eq, decide_eq_false_iff_not, Bool.not_eq_true', Bool.not_eq_false', Bool.not_true, Bool.not_false, Bool.false_eq_true, Bool.true_eq_false, Bool.not_eq_true, Bool.not_eq_false, beq_iff_eq, beq_eq_false_iff_ne, bne_iff_ne, bne_eq_false_iff_eq, ne_eq, Int.not_lt, Int.not_le, ge_iff_le, gt_iff_lt, Decidable.not_not, reduceCtorEq, *] at hc) <;> (try (exfalso; omega)))
    | ((with_reducible apply opsF.und); (case hg => rfl))
    | ((with_reducible apply retF.r); (case hv => exact tRS))
    | ((with_reducible apply retF.nn); (case hv => exact tRS))
    | ((refine Call.use (hsz _) ?_)))
    all_goals (refine ⟨?_, rfl⟩; simp; try omega)
/-! messages as values -/
def msgC (m : Msg) (t1 t2 t3 : Tok) : List AV := [.v (.int .i64 m.1), .v (.int .i64 m.2.1), .v (.int .i64 m.2.2.1), .v (.int .i64 m.2.2.2.1), .v (.int .i64 m.2.2.2.2.1), .v (.string (bs m.2.2.2.2.2.1)), .list 1 (srows m.2.2.2.2.2.2.1) t1, .list 1 (irows m.2.2.2.2.2.2.2.1) t2, .list 1 (srows m.2.2.2.2.2.2.2.2) t3]
def inR (n : Int) : Prop := -9223372036854775808 ≤ n ∧ n ≤ 9223372036854775807
structure MOk (m : Msg) : Prop where
  f : m.2.2.2.2.2.1.length ≤ 1000000
  rl : m.2.2.2.2.2.2.1.length ≤ 1000000
  rs : ∀ s ∈ m.2.2.2.2.2.2.1, s.length ≤ 1000000
  ml : m.2.2.2.2.2.2.2.1.length ≤ 1000000
  bl : m.2.2.2.2.2.2.2.2.length ≤ 1000000
  bs : ∀ s ∈ m.2.2.2.2.2.2.2.2, s.length ≤ 1000000
theorem conf_p (l : List L8) (tok : Tok) (h : AH) (hl : l.length ≤ 1000000) (hs : ∀ s ∈ l, s.length ≤ 1000000) : Call P w0 slices_ContainsFunc_string_string [.list 1 (srows l) tok, .func (.func env_Good_3) [] []] h (fun v h' => v = .v (.bool (l.any fun s => !mbS s)) ∧ h' = h) :=
  Call.pure (.v _) (conf_call env_Good_3 (fun s => !mbS s) l tok (fun s hm h => call_ext (nmbox_call s h (by have := hs s hm; omega))) h (by omega))
theorem any_nots {α : Type} (p : α → Bool) (l : List α) : l.any (fun x => !p x) = !l.all p := any_not p l
theorem egood_call (m : Msg) (t1 t2 t3 : Tok) (h : AH) (hm : MOk m) : Call P w0 env_Good [.agg (msgC m t1 t2 t3)] h (fun v h' => v = .v (.bool (goodM m)) ∧ h' = h) := by
  refine Call.pure (.v _) ?_
  obtain ⟨n1, n2, n3, n4, n5, f, rc, mk, bd⟩ := m
  obtain ⟨hf, hrl, hrs, hml, hbl, hbs⟩ := hm
  simp only at hf hrl hrs hml hbl hbs
  have hN := fun (id : Nat) (cap : Option Nat) h ho hlt => confr_call (w0 := w0) env_Good_2 (fun n => !timeS n) [n1, n2, n3, n4, n5] id cap (fun s h => ntime_call s h) h ho hlt (by simp)
  have hF := fun h => mbox_call (w0 := w0) f h (by omega)
  have hR := fun h => conf_p (w0 := w0) rc t1 h hrl hrs
  have hM := fun h => confi_call (w0 := w0) env_Good_1 (fun n => !markS n) mk t2 (fun s h => odd_call s h) h (by omega)
  have hB := fun h => dgood_call (w0 := w0) bd t3 h hbl hbs
  rw [any_nots] at hR hM
  have hN2 : ([n1, n2, n3, n4, n5].any fun n => !timeS n) = !(numsS (n1, n2, n3, n4, n5, f, rc, mk, bd)) := by
    simp only [List.any_cons, List.any_nil, numsS]
    cases timeS n1 <;> cases timeS n2 <;> cases timeS n3 <;> cases timeS n4 <;> cases timeS n5 <;> rfl
  rw [hN2] at hN
  clear hN2
  have xl := srows_len
  have yl := irows_len
  have e1 := srows_len rc
  have e2 := irows_len mk
  have hg : goodM (n1, n2, n3, n4, n5, f, rc, mk, bd) = (numsS (n1, n2, n3, n4, n5, f, rc, mk, bd) && (f.isEmpty || mbS f) && decide (1 ≤ rc.length) && decide (rc.length ≤ 20) && rc.all mbS && decide (mk.length ≤ 50) && mk.all markS && bodyS bd) := rfl
  rw [hg]
  have hE2 : ∀ o1 o2 o3, Ext h (((h.alloc o1).alloc o2).set (h.n + 1) o3) := fun o1 o2 o3 => ((Ext.alloc _ _).trans (Ext.alloc _ _)).set (by omega) _
  clear hg hrs hbs
  generalize numsS (n1, n2, n3, n4, n5, f, rc, mk, bd) = q1 at *
  generalize rc.all mbS = q3 at *
  generalize mk.all markS = q4 at *
  generalize bodyS bd = q5 at *
  refine Call.bodyF b_env_Good rfl rfl ?_
  unfold c_env_Good msgC
  dsimp only
  cases q1 with
  | false =>
    repeat' (first
    | ((with_reducible apply opsF.op rfl); (case hs => (first | exact tHT | exact tHS)))
    | with_reducible (first | apply opsF.nil | apply seqF.nn | apply vcF.seq | apply vcF.region | apply vcF.skip | apply vcF.ret | apply seqF.r)
    | ((with_reducible apply opsF.call); (case hx => exact tAG))
    | ((with_reducible apply opsF.want); (case hg => exact tEV); (case hb => exact tNB))
    | ((with_reducible apply opsF.skip); (case hg => exact tEV); (case hb => exact tNB))
    | (first | ((with_reducible apply opsF.case); (case hg => exact tEV)) | ((with_reducible apply vcF.cond); (case hx => exact tEV))) <;> ((intro hc; try simp only [Int.reduceLT, Int.reduceLE, Int.reduceEq, Int.reduceNe, Int.cast_ofNat_Int, Int.reduceNeg, decide_true, decide_false, not_true_eq_false, not_false_eq_true, decide_eq_true_eq, decide_eq_false_iff_not, Bool.not_eq_true', Bool.not_eq_false', Bool.not_true, Bool.not_false, Bool.false_eq_true, Bool.true_eq_false, Bool.not_eq_true, Bool.not_eq_false, beq_iff_eq, beq_eq_false_iff_ne, bne_iff_ne, bne_eq_false_iff_eq, ne_eq, Int.not_lt, Int.not_le, ge_iff_le, gt_iff_lt, Decidable.not_not, reduceCtorEq, *] at hc) <;> (try (exfalso; omega)))
    | ((with_reducible apply opsF.und); (case hg => rfl))
    | ((with_reducible apply retF.r); (case hv => exact tRS))
    | ((with_reducible apply retF.nn); (case hv => exact tRS))
    | ((refine Call.use (hN _ _ _ (by simp [alloc_at, set_at, alloc_n, set_n, icells]) (by simp [alloc_at, set_at, alloc_n, set_n])) ?_))
    | ((refine Call.use (hF _) ?_))
    | ((refine Call.use (hR _) ?_))
    | ((refine Call.use (hM _) ?_))
    | ((refine Call.use (hB _) ?_)))
    all_goals (refine ⟨?_, hE2 _ _ _⟩; first | rfl | (simp; done) | (simp; omega))
  | true =>
    cases f with
    | nil =>
      clear hF
      rcases Nat.lt_or_ge rc.length 1 with g1 | g1
      · repeat' (first
    | ((with_reducible apply opsF.op rfl); (case hs => (first | exact tHT | exact tHS)))
    | with_reducible (first | apply opsF.nil | apply seqF.nn | apply vcF.seq | apply vcF.region | apply vcF.skip | apply vcF.ret | apply seqF.r)
    | ((with_reducible apply opsF.call); (case hx => exact tAG))
    | ((with_reducible apply opsF.want); (case hg => exact tEV); (case hb => exact tNB))
    | ((with_reducible apply opsF.skip); (case hg => exact tEV); (case hb => exact tNB))
    | (first | ((with_reducible apply opsF.case); (case hg => exact tEV)) | ((with_reducible apply vcF.cond); (case hx => exact tEV))) <;> ((intro hc; try simp only [Int.reduceLT, Int.reduceLE, Int.reduceEq, Int.reduceNe, Int.cast_ofNat_Int, Int.reduceNeg, decide_true, decide_false, not_true_eq_false, not_false_eq_true, decide_eq_true_eq, decide_eq_false_iff_not, Bool.not_eq_true', Bool.not_eq_false', Bool.not_true, Bool.not_false, Bool.false_eq_true, Bool.true_eq_false, Bool.not_eq_true, Bool.not_eq_false, beq_iff_eq, beq_eq_false_iff_ne, bne_iff_ne, bne_eq_false_iff_eq, ne_eq, Int.not_lt, Int.not_le, ge_iff_le, gt_iff_lt, Decidable.not_not, reduceCtorEq, *] at hc) <;> (try (exfalso; omega)))
    | ((with_reducible apply opsF.und); (case hg => rfl))
    | ((with_reducible apply retF.r); (case hv => exact tRS))
    | ((with_reducible apply retF.nn); (case hv => exact tRS))
    | ((refine Call.use (hN _ _ _ (by simp [alloc_at, set_at, alloc_n, set_n, icells]) (by simp [alloc_at, set_at, alloc_n, set_n])) ?_))
    | ((refine Call.use (hR _) ?_))
    | ((refine Call.use (hM _) ?_))
    | ((refine Call.use (hB _) ?_)))
        all_goals (refine ⟨?_, hE2 _ _ _⟩; first | rfl | (simp; done) | (simp; omega))
      rcases Nat.lt_or_ge 20 rc.length with g2 | g2
      · repeat' (first
    | ((with_reducible apply opsF.op rfl); (case hs => (first | exact tHT | exact tHS)))
    | with_reducible (first | apply opsF.nil | apply seqF.nn | apply vcF.seq | apply vcF.region | apply vcF.skip | apply vcF.ret | apply seqF.r)
    | ((with_reducible apply opsF.call); (case hx => exact tAG))
    | ((with_reducible apply opsF.want); (case hg => exact tEV); (case hb => exact tNB))
    | ((with_reducible apply opsF.skip); (case hg => exact tEV); (case hb => exact tNB))
    | (first | ((with_reducible apply opsF.case); (case hg => exact tEV)) | ((with_reducible apply vcF.cond); (case hx => exact tEV))) <;> ((intro hc; try simp only [Int.reduceLT, Int.reduceLE, Int.reduceEq, Int.reduceNe, Int.cast_ofNat_Int, Int.reduceNeg, decide_true, decide_false, not_true_eq_false, not_false_eq_true, decide_eq_true_eq, decide_eq_false_iff_not, Bool.not_eq_true', Bool.not_eq_false', Bool.not_true, Bool.not_false, Bool.false_eq_true, Bool.true_eq_false, Bool.not_eq_true, Bool.not_eq_false, beq_iff_eq, beq_eq_false_iff_ne, bne_iff_ne, bne_eq_false_iff_eq, ne_eq, Int.not_lt, Int.not_le, ge_iff_le, gt_iff_lt, Decidable.not_not, reduceCtorEq, *] at hc) <;> (try (exfalso; omega)))
    | ((with_reducible apply opsF.und); (case hg => rfl))
    | ((with_reducible apply retF.r); (case hv => exact tRS))
    | ((with_reducible apply retF.nn); (case hv => exact tRS))
    | ((refine Call.use (hN _ _ _ (by simp [alloc_at, set_at, alloc_n, set_n, icells]) (by simp [alloc_at, set_at, alloc_n, set_n])) ?_))
    | ((refine Call.use (hR _) ?_))
    | ((refine Call.use (hM _) ?_))
    | ((refine Call.use (hB _) ?_)))
        all_goals (refine ⟨?_, hE2 _ _ _⟩; first | rfl | (simp; done) | (simp; omega))
      cases q3 with
      | false =>
        repeat' (first
    | ((with_reducible apply opsF.op rfl); (case hs => (first | exact tHT | exact tHS)))
    | with_reducible (first | apply opsF.nil | apply seqF.nn | apply vcF.seq | apply vcF.region | apply vcF.skip | apply vcF.ret | apply seqF.r)
    | ((with_reducible apply opsF.call); (case hx => exact tAG))
    | ((with_reducible apply opsF.want); (case hg => exact tEV); (case hb => exact tNB))
    | ((with_reducible apply opsF.skip); (case hg => exact tEV); (case hb => exact tNB))
    | (first | ((with_reducible apply opsF.case); (case hg => exact tEV)) | ((with_reducible apply vcF.cond); (case hx => exact tEV))) <;> ((intro hc; try simp only [Int.reduceLT, Int.reduceLE, Int.reduceEq, Int.reduceNe, Int.cast_ofNat_Int, Int.reduceNeg, decide_true, decide_false, not_true_eq_false, not_false_eq_true, decide_eq_true_eq, decide_eq_false_iff_not, Bool.not_eq_true', Bool.not_eq_false', Bool.not_true, Bool.not_false, Bool.false_eq_true, Bool.true_eq_false, Bool.not_eq_true, Bool.not_eq_false, beq_iff_eq, beq_eq_false_iff_ne, bne_iff_ne, bne_eq_false_iff_eq, ne_eq, Int.not_lt, Int.not_le, ge_iff_le, gt_iff_lt, Decidable.not_not, reduceCtorEq, *] at hc) <;> (try (exfalso; omega)))
    | ((with_reducible apply opsF.und); (case hg => rfl))
    | ((with_reducible apply retF.r); (case hv => exact tRS))
    | ((with_reducible apply retF.nn); (case hv => exact tRS))
    | ((refine Call.use (hN _ _ _ (by simp [alloc_at, set_at, alloc_n, set_n, icells]) (by simp [alloc_at, set_at, alloc_n, set_n])) ?_))
    | ((refine Call.use (hR _) ?_))
    | ((refine Call.use (hM _) ?_))
    | ((refine Call.use (hB _) ?_)))
        all_goals (refine ⟨?_, hE2 _ _ _⟩; first | rfl | (simp; done) | (simp; omega))
      | true =>
        rcases Nat.lt_or_ge 50 mk.length with g3 | g3
        · repeat' (first
    | ((with_reducible apply opsF.op rfl); (case hs => (first | exact tHT | exact tHS)))
    | with_reducible (first | apply opsF.nil | apply seqF.nn | apply vcF.seq | apply vcF.region | apply vcF.skip | apply vcF.ret | apply seqF.r)
    | ((with_reducible apply opsF.call); (case hx => exact tAG))
    | ((with_reducible apply opsF.want); (case hg => exact tEV); (case hb => exact tNB))
    | ((with_reducible apply opsF.skip); (case hg => exact tEV); (case hb => exact tNB))
    | (first | ((with_reducible apply opsF.case); (case hg => exact tEV)) | ((with_reducible apply vcF.cond); (case hx => exact tEV))) <;> ((intro hc; try simp only [Int.reduceLT, Int.reduceLE, Int.reduceEq, Int.reduceNe, Int.cast_ofNat_Int, Int.reduceNeg, decide_true, decide_false, not_true_eq_false, not_false_eq_true, decide_eq_true_eq, decide_eq_false_iff_not, Bool.not_eq_true', Bool.not_eq_false', Bool.not_true, Bool.not_false, Bool.false_eq_true, Bool.true_eq_false, Bool.not_eq_true, Bool.not_eq_false, beq_iff_eq, beq_eq_false_iff_ne, bne_iff_ne, bne_eq_false_iff_eq, ne_eq, Int.not_lt, Int.not_le, ge_iff_le, gt_iff_lt, Decidable.not_not, reduceCtorEq, *] at hc) <;> (try (exfalso; omega)))
    | ((with_reducible apply opsF.und); (case hg => rfl))
    | ((with_reducible apply retF.r); (case hv => exact tRS))
    | ((with_reducible apply retF.nn); (case hv => exact tRS))
    | ((refine Call.use (hN _ _ _ (by simp [alloc_at, set_at, alloc_n, set_n, icells]) (by simp [alloc_at, set_at, alloc_n, set_n])) ?_))
    | ((refine Call.use (hR _) ?_))
    | ((refine Call.use (hM _) ?_))
    | ((refine Call.use (hB _) ?_)))
          all_goals (refine ⟨?_, hE2 _ _ _⟩; first | rfl | (simp; done) | (simp; omega))
        cases q4 with
        | false =>
          repeat' (first
    | ((with_reducible apply opsF.op rfl); (case hs => (first | exact tHT | exact tHS)))
    | with_reducible (first | apply opsF.nil | apply seqF.nn | apply vcF.seq | apply vcF.region | apply vcF.skip | apply vcF.ret | apply seqF.r)
    | ((with_reducible apply opsF.call); (case hx => exact tAG))
    | ((with_reducible apply opsF.want); (case hg => exact tEV); (case hb => exact tNB))
    | ((with_reducible apply opsF.skip); (case hg => exact tEV); (case hb => exact tNB))
    | (first | ((with_reducible apply opsF.case); (case hg => exact tEV)) | ((with_reducible apply vcF.cond); (case hx => exact tEV))) <;> ((intro hc; try simp only [Int.reduceLT, Int.reduceLE, Int.reduceEq, Int.reduceNe, Int.cast_ofNat_Int, Int.reduceNeg, decide_true, decide_false, not_true_eq_false, not_false_eq_true, decide_eq_true_eq, decide_eq_false_iff_not, Bool.not_eq_true', Bool.not_eq_false', Bool.not_true, Bool.not_false, Bool.false_eq_true, Bool.true_eq_false, Bool.not_eq_true, Bool.not_eq_false, beq_iff_eq, beq_eq_false_iff_ne, bne_iff_ne, bne_eq_false_iff_eq, ne_eq, Int.not_lt, Int.not_le, ge_iff_le, gt_iff_lt, Decidable.not_not, reduceCtorEq, *] at hc) <;> (try (exfalso; omega)))
    | ((with_reducible apply opsF.und); (case hg => rfl))
    | ((with_reducible apply retF.r); (case hv => exact tRS))
    | ((with_reducible apply retF.nn); (case hv => exact tRS))
    | ((refine Call.use (hN _ _ _ (by simp [alloc_at, set_at, alloc_n, set_n, icells]) (by simp [alloc_at, set_at, alloc_n, set_n])) ?_))
    | ((refine Call.use (hR _) ?_))
    | ((refine Call.use (hM _) ?_))
    | ((refine Call.use (hB _) ?_)))
          all_goals (refine ⟨?_, hE2 _ _ _⟩; first | rfl | (simp; done) | (simp; omega))
        | true =>
          repeat' (first
    | ((with_reducible apply opsF.op rfl); (case hs => (first | exact tHT | exact tHS)))
    | with_reducible (first | apply opsF.nil | apply seqF.nn | apply vcF.seq | apply vcF.region | apply vcF.skip | apply vcF.ret | apply seqF.r)
    | ((with_reducible apply opsF.call); (case hx => exact tAG))
    | ((with_reducible apply opsF.want); (case hg => exact tEV); (case hb => exact tNB))
    | ((with_reducible apply opsF.skip); (case hg => exact tEV); (case hb => exact tNB))
    | (first | ((with_reducible apply opsF.case); (case hg => exact tEV)) | ((with_reducible apply vcF.cond); (case hx => exact tEV))) <;> ((intro hc; try simp only [Int.reduceLT, Int.reduceLE, Int.reduceEq, Int.reduceNe, Int.cast_ofNat_Int, Int.reduceNeg, decide_true, decide_false, not_true_eq_false, not_false_eq_true, decide_eq_true_eq, decide_eq_false_iff_not, Bool.not_eq_true', Bool.not_eq_false', Bool.not_true, Bool.not_false, Bool.false_eq_true, Bool.true_eq_false, Bool.not_eq_true, Bool.not_eq_false, beq_iff_eq, beq_eq_false_iff_ne, bne_iff_ne, bne_eq_false_iff_eq, ne_eq, Int.not_lt, Int.not_le, ge_iff_le, gt_iff_lt, Decidable.not_not, reduceCtorEq, *] at hc) <;> (try (exfalso; omega)))
    | ((with_reducible apply opsF.und); (case hg => rfl))
    | ((with_reducible apply retF.r); (case hv => exact tRS))
    | ((with_reducible apply retF.nn); (case hv => exact tRS))
    | ((refine Call.use (hN _ _ _ (by simp [alloc_at, set_at, alloc_n, set_n, icells]) (by simp [alloc_at, set_at, alloc_n, set_n])) ?_))
    | ((refine Call.use (hR _) ?_))
    | ((refine Call.use (hM _) ?_))
    | ((refine Call.use (hB _) ?_)))
          all_goals (refine ⟨?_, hE2 _ _ _⟩; first | rfl | (simp; done) | (simp; omega))
    | cons c f =>
      have hfe : (c :: f).isEmpty = false := rfl
      have hfn : ¬ (c :: f) = [] := by simp
      rw [hfe]
      generalize mbS (c :: f) = q2 at *
      generalize c :: f = f at *
      cases q2 with
      | false =>
        repeat' (first
    | ((with_reducible apply opsF.op rfl); (case hs => (first | exact tHT | exact tHS)))
    | with_reducible (first | apply opsF.nil | apply seqF.nn | apply vcF.seq | apply vcF.region | apply vcF.skip | apply vcF.ret | apply seqF.r)
    | ((with_reducible apply opsF.call); (case hx => exact tAG))
    | ((with_reducible apply opsF.want); (case hg => exact tEV); (case hb => exact tNB))
    | ((with_reducible apply opsF.skip); (case hg => exact tEV); (case hb => exact tNB))
    | (first | ((with_reducible apply opsF.case); (case hg => exact tEV)) | ((with_reducible apply vcF.cond); (case hx => exact tEV))) <;> ((intro hc; try simp only [Int.reduceLT, Int.reduceLE, Int.reduceEq, Int.reduceNe, Int.cast_ofNat_Int, Int.reduceNeg, decide_true, decide_false, not_true_eq_false, not_false_eq_true, decide_eq_true_eq, decide_eq_false_iff_not, Bool.not_eq_true', Bool.not_eq_false', Bool.not_true, Bool.not_false, Bool.false_eq_true, Bool.true_eq_false, Bool.not_eq_true, Bool.not_eq_false, beq_iff_eq, beq_eq_false_iff_ne, bne_iff_ne, bne_eq_false_iff_eq, ne_eq, Int.not_lt, Int.not_le, ge_iff_le, gt_iff_lt, Decidable.not_not, reduceCtorEq, *] at hc) <;> (try (exfalso; omega)))
    | ((with_reducible apply opsF.und); (case hg => rfl))
    | ((with_reducible apply retF.r); (case hv => exact tRS))
    | ((with_reducible apply retF.nn); (case hv => exact tRS))
    | ((refine Call.use (hN _ _ _ (by simp [alloc_at, set_at, alloc_n, set_n, icells]) (by simp [alloc_at, set_at, alloc_n, set_n])) ?_))
    | ((refine Call.use (hF _) ?_))
    | ((refine Call.use (hR _) ?_))
    | ((refine Call.use (hM _) ?_))
    | ((refine Call.use (hB _) ?_)))
        all_goals (refine ⟨?_, hE2 _ _ _⟩; first | rfl | (simp; done) | (simp; omega))
      | true =>
        rcases Nat.lt_or_ge rc.length 1 with g1 | g1
        · repeat' (first
    | ((with_reducible apply opsF.op rfl); (case hs => (first | exact tHT | exact tHS)))
    | with_reducible (first | apply opsF.nil | apply seqF.nn | apply vcF.seq | apply vcF.region | apply vcF.skip | apply vcF.ret | apply seqF.r)
    | ((with_reducible apply opsF.call); (case hx => exact tAG))
    | ((with_reducible apply opsF.want); (case hg => exact tEV); (case hb => exact tNB))
    | ((with_reducible apply opsF.skip); (case hg => exact tEV); (case hb => exact tNB))
    | (first | ((with_reducible apply opsF.case); (case hg => exact tEV)) | ((with_reducible apply vcF.cond); (case hx => exact tEV))) <;> ((intro hc; try simp only [Int.reduceLT, Int.reduceLE, Int.reduceEq, Int.reduceNe, Int.cast_ofNat_Int, Int.reduceNeg, decide_true, decide_false, not_true_eq_false, not_false_eq_true, decide_eq_true_eq, decide_eq_false_iff_not, Bool.not_eq_true', Bool.not_eq_false', Bool.not_true, Bool.not_false, Bool.false_eq_true, Bool.true_eq_false, Bool.not_eq_true, Bool.not_eq_false, beq_iff_eq, beq_eq_false_iff_ne, bne_iff_ne, bne_eq_false_iff_eq, ne_eq, Int.not_lt, Int.not_le, ge_iff_le, gt_iff_lt, Decidable.not_not, reduceCtorEq, *] at hc) <;> (try (exfalso; omega)))
    | ((with_reducible apply opsF.und); (case hg => rfl))
    | ((with_reducible apply retF.r); (case hv => exact tRS))
    | ((with_reducible apply retF.nn); (case hv => exact tRS))
    | ((refine Call.use (hN _ _ _ (by simp [alloc_at, set_at, alloc_n, set_n, icells]) (by simp [alloc_at, set_at, alloc_n, set_n])) ?_))
    | ((refine Call.use (hF _) ?_))
    | ((refine Call.use (hR _) ?_))
    | ((refine Call.use (hM _) ?_))
    | ((refine Call.use (hB _) ?_)))
          all_goals (refine ⟨?_, hE2 _ _ _⟩; first | rfl | (simp; done) | (simp; omega))
        rcases Nat.lt_or_ge 20 rc.length with g2 | g2
        · repeat' (first
    | ((with_reducible apply opsF.op rfl); (case hs => (first | exact tHT | exact tHS)))
    | with_reducible (first | apply opsF.nil | apply seqF.nn | apply vcF.seq | apply vcF.region | apply vcF.skip | apply vcF.ret | apply seqF.r)
    | ((with_reducible apply opsF.call); (case hx => exact tAG))
    | ((with_reducible apply opsF.want); (case hg => exact tEV); (case hb => exact tNB))
    | ((with_reducible apply opsF.skip); (case hg => exact tEV); (case hb => exact tNB))
    | (first | ((with_reducible apply opsF.case); (case hg => exact tEV)) | ((with_reducible apply vcF.cond); (case hx => exact tEV))) <;> ((intro hc; try simp only [Int.reduceLT, Int.reduceLE, Int.reduceEq, Int.reduceNe, Int.cast_ofNat_Int, Int.reduceNeg, decide_true, decide_false, not_true_eq_false, not_false_eq_true, decide_eq_true_eq, decide_eq_false_iff_not, Bool.not_eq_true', Bool.not_eq_false', Bool.not_true, Bool.not_false, Bool.false_eq_true, Bool.true_eq_false, Bool.not_eq_true, Bool.not_eq_false, beq_iff_eq, beq_eq_false_iff_ne, bne_iff_ne, bne_eq_false_iff_eq, ne_eq, Int.not_lt, Int.not_le, ge_iff_le, gt_iff_lt, Decidable.not_not, reduceCtorEq, *] at hc) <;> (try (exfalso; omega)))
    | ((with_reducible apply opsF.und); (case hg => rfl))
    | ((with_reducible apply retF.r); (case hv => exact tRS))
    | ((with_reducible apply retF.nn); (case hv => exact tRS))
    | ((refine Call.use (hN _ _ _ (by simp [alloc_at, set_at, alloc_n, set_n, icells]) (by simp [alloc_at, set_at, alloc_n, set_n])) ?_))
    | ((refine Call.use (hF _) ?_))
    | ((refine Call.use (hR _) ?_))
    | ((refine Call.use (hM _) ?_))
    | ((refine Call.use (hB _) ?_)))
          all_goals (refine ⟨?_, hE2 _ _ _⟩; first | rfl | (simp; done) | (simp; omega))
        cases q3 with
        | false =>
          repeat' (first
    | ((with_reducible apply opsF.op rfl); (case hs => (first | exact tHT | exact tHS)))
    | with_reducible (first | apply opsF.nil | apply seqF.nn | apply vcF.seq | apply vcF.region | apply vcF.skip | apply vcF.ret | apply seqF.r)
    | ((with_reducible apply opsF.call); (case hx => exact tAG))
    | ((with_reducible apply opsF.want); (case hg => exact tEV); (case hb => exact tNB))
    | ((with_reducible apply opsF.skip); (case hg => exact tEV); (case hb => exact tNB))
    | (first | ((with_reducible apply opsF.case); (case hg => exact tEV)) | ((with_reducible apply vcF.cond); (case hx => exact tEV))) <;> ((intro hc; try simp only [Int.reduceLT, Int.reduceLE, Int.reduceEq, Int.reduceNe, Int.cast_ofNat_Int, Int.reduceNeg, decide_true, decide_false, not_true_eq_false, not_false_eq_true, decide_eq_true_eq, decide_eq_false_iff_not, Bool.not_eq_true', Bool.not_eq_false', Bool.not_true, Bool.not_false, Bool.false_eq_true, Bool.true_eq_false, Bool.not_eq_true, Bool.not_eq_false, beq_iff_eq, beq_eq_false_iff_ne, bne_iff_ne, bne_eq_false_iff_eq, ne_eq, Int.not_lt, Int.not_le, ge_iff_le, gt_iff_lt, Decidable.not_not, reduceCtorEq, *] at hc) <;> (try (exfalso; omega)))
    | ((with_reducible apply opsF.und); (case hg => rfl))
    | ((with_reducible apply retF.r); (case hv => exact tRS))
    | ((with_reducible apply retF.nn); (case hv => exact tRS))
    | ((refine Call.use (hN _ _ _ (by simp [alloc_at, set_at, alloc_n, set_n, icells]) (by simp [alloc_at, set_at, alloc_n, set_n])) ?_))
    | ((refine Call.use (hF _) ?_))
    | ((refine Call.use (hR _) ?_))
    | ((refine Call.use (hM _) ?_))
    | ((refine Call.use (hB _) ?_)))
          all_goals (refine ⟨?_, hE2 _ _ _⟩; first | rfl | (simp; done) | (simp; omega))
        | true =>
          rcases Nat.lt_or_ge 50 mk.length with g3 | g3
          · repeat' (first
    | ((with_reducible apply opsF.op rfl); (case hs => (first | exact tHT | exact tHS)))
    | with_reducible (first | apply opsF.nil | apply seqF.nn | apply vcF.seq | apply vcF.region | apply vcF.skip | apply vcF.ret | apply seqF.r)
    | ((with_reducible apply opsF.call); (case hx => exact tAG))
    | ((with_reducible apply opsF.want); (case hg => exact tEV); (case hb => exact tNB))
    | ((with_reducible apply opsF.skip); (case hg => exact tEV); (case hb => exact tNB))
    | (first | ((with_reducible apply opsF.case); (case hg => exact tEV)) | ((with_reducible apply vcF.cond); (case hx => exact tEV))) <;> ((intro hc; try simp only [Int.reduceLT, Int.reduceLE, Int.reduceEq, Int.reduceNe, Int.cast_ofNat_Int, Int.reduceNeg, decide_true, decide_false, not_true_eq_false, not_false_eq_true, decide_eq_true_eq, decide_eq_false_iff_not, Bool.not_eq_true', Bool.not_eq_false', Bool.not_true, Bool.not_false, Bool.false_eq_true, Bool.true_eq_false, Bool.not_eq_true, Bool.not_eq_false, beq_iff_eq, beq_eq_false_iff_ne, bne_iff_ne, bne_eq_false_iff_eq, ne_eq, Int.not_lt, Int.not_le, ge_iff_le, gt_iff_lt, Decidable.not_not, reduceCtorEq, *] at hc) <;> (try (exfalso; omega)))
    | ((with_reducible apply opsF.und); (case hg => rfl))
    | ((with_reducible apply retF.r); (case hv => exact tRS))
    | ((with_reducible apply retF.nn); (case hv => exact tRS))
    | ((refine Call.use (hN _ _ _ (by simp [alloc_at, set_at, alloc_n, set_n, icells]) (by simp [alloc_at, set_at, alloc_n, set_n])) ?_))
    | ((refine Call.use (hF _) ?_))
    | ((refine Call.use (hR _) ?_))
    | ((refine Call.use (hM _) ?_))
    | ((refine Call.use (hB _) ?_)))
            all_goals (refine ⟨?_, hE2 _ _ _⟩; first | rfl | (simp; done) | (simp; omega))
          cases q4 with
          | false =>
            repeat' (first
    | ((with_reducible apply opsF.op rfl); (case hs => (first | exact tHT | exact tHS)))
    | with_reducible (first | apply opsF.nil | apply seqF.nn | apply vcF.seq | apply vcF.region | apply vcF.skip | apply vcF.ret | apply seqF.r)
    | ((with_reducible apply opsF.call); (case hx => exact tAG))
    | ((with_reducible apply opsF.want); (case hg => exact tEV); (case hb => exact tNB))
    | ((with_reducible apply opsF.skip); (case hg => exact tEV); (case hb => exact tNB))
    | (first | ((with_reducible apply opsF.case); (case hg => exact tEV)) | ((with_reducible apply vcF.cond); (case hx => exact tEV))) <;> ((intro hc; try simp only [Int.reduceLT, Int.reduceLE, Int.reduceEq, Int.reduceNe, Int.cast_ofNat_Int, Int.reduceNeg, decide_true, decide_false, not_true_eq_false, not_false_eq_true, decide_eq_true_eq, decide_eq_false_iff_not, Bool.not_eq_true', Bool.not_eq_false', Bool.not_true, Bool.not_false, Bool.false_eq_true, Bool.true_eq_false, Bool.not_eq_true, Bool.not_eq_false, beq_iff_eq, beq_eq_false_iff_ne, bne_iff_ne, bne_eq_false_iff_eq, ne_eq, Int.not_lt, Int.not_le, ge_iff_le, gt_iff_lt, Decidable.not_not, reduceCtorEq, *] at hc) <;> (try (exfalso; omega)))
    | ((with_reducible apply opsF.und); (case hg => rfl))
    | ((with_reducible apply retF.r); (case hv => exact tRS))
    | ((with_reducible apply retF.nn); (case hv => exact tRS))
    | ((refine Call.use (hN _ _ _ (by simp [alloc_at, set_at, alloc_n, set_n, icells]) (by simp [alloc_at, set_at, alloc_n, set_n])) ?_))
    | ((refine Call.use (hF _) ?_))
    | ((refine Call.use (hR _) ?_))
    | ((refine Call.use (hM _) ?_))
    | ((refine Call.use (hB _) ?_)))
            all_goals (refine ⟨?_, hE2 _ _ _⟩; first | rfl | (simp; done) | (simp; omega))
          | true =>
            repeat' (first
    | ((with_reducible apply opsF.op rfl); (case hs => (first | exact tHT | exact tHS)))
    | with_reducible (first | apply opsF.nil | apply seqF.nn | apply vcF.seq | apply vcF.region | apply vcF.skip | apply vcF.ret | apply seqF.r)
    | ((with_reducible apply opsF.call); (case hx => exact tAG))
    | ((with_reducible apply opsF.want); (case hg => exact tEV); (case hb => exact tNB))
    | ((with_reducible apply opsF.skip); (case hg => exact tEV); (case hb => exact tNB))
    | (first | ((with_reducible apply opsF.case); (case hg => exact tEV)) | ((with_reducible apply vcF.cond); (case hx => exact tEV))) <;> ((intro hc; try simp only [Int.reduceLT, Int.reduceLE, Int.reduceEq, Int.reduceNe, Int.cast_ofNat_Int, Int.reduceNeg, decide_true, decide_false, not_true_eq_false, not_false_eq_true, decide_eq_true_eq, decide_eq_false_iff_not, Bool.not_eq_true', Bool.not_eq_false', Bool.not_true, Bool.not_false, Bool.false_eq_true, Bool.true_eq_false, Bool.not_eq_true, Bool.not_eq_false, beq_iff_eq, beq_eq_false_iff_ne, bne_iff_ne, bne_eq_false_iff_eq, ne_eq, Int.not_lt, Int.not_le, ge_iff_le, gt_iff_lt, Decidable.not_not, reduceCtorEq, *] at hc) <;> (try (exfalso; omega)))
    | ((with_reducible apply opsF.und); (case hg => rfl))
    | ((with_reducible apply retF.r); (case hv => exact tRS))
    | ((with_reducible apply retF.nn); (case hv => exact tRS))
    | ((refine Call.use (hN _ _ _ (by simp [alloc_at, set_at, alloc_n, set_n, icells]) (by simp [alloc_at, set_at, alloc_n, set_n])) ?_))
    | ((refine Call.use (hF _) ?_))
    | ((refine Call.use (hR _) ?_))
    | ((refine Call.use (hM _) ?_))
    | ((refine Call.use (hB _) ?_)))
            all_goals (refine ⟨?_, hE2 _ _ _⟩; first | rfl | (simp; done) | (simp; omega))
end Go.Abs.F
