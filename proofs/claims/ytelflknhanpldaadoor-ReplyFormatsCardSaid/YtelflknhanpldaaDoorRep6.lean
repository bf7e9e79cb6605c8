/- Layer 4: the reference's numbers, lines and formats. -/
import Derived.Test.YtelflknhanpldaaDoorRep5
import Derived.Test.YtelflknhanpldaaDoorAbsZ
namespace Go.Abs.F
open Go Go.Abs
set_option maxRecDepth 10000
set_option maxHeartbeats 20000000
set_option linter.unusedSimpArgs false
set_option linter.unusedVariables false
variable {w0 : World}
/-- A number's digits. -/
def udecS (n : Nat) : List UInt8 := if h : n < 10 then [UInt8.ofNat (48 + n)] else udecS (n / 10) ++ [UInt8.ofNat (48 + n % 10)]
termination_by n
decreasing_by omega
theorem udecS_len (k : Nat) : ∀ n, n < 10 ^ (k + 1) → (udecS n).length ≤ k + 1 := by
  induction k with
  | zero =>
    intro n hn
    rw [udecS, dif_pos (by omega)]
    simp
  | succ k ih =>
    intro n hn
    rw [udecS]
    split
    · simp
    · have := ih (n / 10) (by rw [Nat.pow_succ] at hn; omega)
      simp only [List.length_append, List.length_cons, List.length_nil]
      omega
theorem udecS_20 (n : Nat) (h : n ≤ 18446744073709551615) : (udecS n).length ≤ 20 := udecS_len 19 n (by omega)
theorem udec_call (n : Nat) : ∀ (h : AH), n ≤ 18446744073709551615 → Call P w0 ref01_udec [.v (.int .u64 (n : Int))] h (fun v h' => v = .v (.string (bs (udecS n))) ∧ h' = h) := by
  induction n using Nat.strongRecOn with
  | _ n ih =>
    intro h hn
    refine Call.bodyF b_ref01_udec rfl rfl ?_
    unfold c_ref01_udec
    rcases Nat.lt_or_ge n 10 with hlt | hge
    · have hq : (48 + (n : Int)).toNat = 48 + n := by omega
      repeat' (first
    | ((with_reducible apply opsF.op rfl); (case hs => (first | exact tHT | exact tHS)))
    | with_reducible (first | apply opsF.nil | apply seqF.nn | apply vcF.seq | apply vcF.region | apply vcF.dregion | apply vcF.skip | apply vcF.block | apply vcF.exit | apply vcF.ret | apply vcF.loop | apply seqF.e | apply seqF.r | apply blkF.nn | apply blkF.e | apply blkF.r | apply blkF.o rfl | apply dopsF.nil | apply stabsF.nil | apply stabsF.cons | apply dopsF.cont)
    | ((with_reducible apply opsF.call); (case hx => exact tAG))
    | ((with_reducible apply opsF.want); (case hg => exact tEV); (case hb => exact tNB))
    | ((with_reducible apply opsF.skip); (case hg => exact tEV); (case hb => exact tNB))
    | (first | ((with_reducible apply opsF.case); (case hg => exact tEV)) | ((with_reducible apply vcF.cond); (case hx => exact tEV)) | ((with_reducible apply dopsF.case); (case hg => exact tEV))) <;> ((intro hc; try simp only [Int.reduceLT, Int.reduceLE, Int.reduceEq, Int.reduceNe, Int.cast_ofNat_Int, Int.reduceNeg, decide_true, decide_false, not_true_eq_false, not_false_eq_true, decide_eq_true_eq, decide_eq_false_iff_not, Bool.not_eq_true', Bool.not_eq_false', Bool.not_true, Bool.not_false, Bool.false_eq_true, Bool.true_eq_false, Bool.not_eq_true, Bool.not_eq_false, beq_iff_eq, beq_eq_false_iff_ne, bne_iff_ne, bne_eq_false_iff_eq, ne_eq, Int.not_lt, Int.not_le, ge_iff_le, gt_iff_lt, Decidable.not_not, reduceCtorEq, *] at hc) <;> (try (exfalso; omega)))
    | ((with_reducible apply opsF.und); (case hg => rfl))
    | ((with_reducible apply opsF.callv); (case hf => exact tEV); (case hx => exact tCV))
    | ((with_reducible apply dopsF.op rfl); (case hs => (first | exact tHT | exact tHS)))
    | ((with_reducible apply dopsF.call); (case hx => exact tAG))
    | ((with_reducible apply dopsF.want); (case hg => exact tEV); (case hb => exact tNB))
    | ((with_reducible apply dopsF.skip); (case hg => exact tEV); (case hb => exact tNB))
    | ((with_reducible apply dopsF.und); (case hg => rfl))
    | ((with_reducible apply stabF.und); rfl)
    | ((with_reducible apply stabF.want); (case hg => exact tEV); (case hb => exact tNB))
    | ((with_reducible apply stabF.skip); (case hg => exact tEV); (case hb => exact tNB))
    | ((with_reducible apply stabF.op); (case hs => (first | exact tHT | exact tHS)); (case hv => exact tSV))
    | ((with_reducible apply retF.r); (case hv => exact tRS))
    | ((with_reducible apply retF.nn); (case hv => exact tRS)))
      refine ⟨?_, rfl⟩
      rw [udecS, dif_pos hlt]
      try rw [hq]
    · have hq : Int.tdiv (n : Int) 10 = ((n / 10 : Nat) : Int) := by rw [Int.tdiv_eq_ediv_of_nonneg (by omega)]; rfl
      have hr : Int.tmod (n : Int) 10 = ((n % 10 : Nat) : Int) := by rw [Int.tmod_eq_emod_of_nonneg (by omega)]; rfl
      have hr2 : n % 10 < 10 := Nat.mod_lt _ (by omega)
      have hq2 : n / 10 < n := by omega
      have hlen := udecS_20 (n / 10) (by omega)
      repeat' (first
    | ((with_reducible apply opsF.op rfl); (case hs => (first | exact tHT | exact tHS)))
    | with_reducible (first | apply opsF.nil | apply seqF.nn | apply vcF.seq | apply vcF.region | apply vcF.dregion | apply vcF.skip | apply vcF.block | apply vcF.exit | apply vcF.ret | apply vcF.loop | apply seqF.e | apply seqF.r | apply blkF.nn | apply blkF.e | apply blkF.r | apply blkF.o rfl | apply dopsF.nil | apply stabsF.nil | apply stabsF.cons | apply dopsF.cont)
    | ((with_reducible apply opsF.call); (case hx => exact tAG))
    | ((with_reducible apply opsF.want); (case hg => exact tEV); (case hb => exact tNB))
    | ((with_reducible apply opsF.skip); (case hg => exact tEV); (case hb => exact tNB))
    | (first | ((with_reducible apply opsF.case); (case hg => exact tEV)) | ((with_reducible apply vcF.cond); (case hx => exact tEV)) | ((with_reducible apply dopsF.case); (case hg => exact tEV))) <;> ((intro hc; try simp only [Int.reduceLT, Int.reduceLE, Int.reduceEq, Int.reduceNe, Int.cast_ofNat_Int, Int.reduceNeg, decide_true, decide_false, not_true_eq_false, not_false_eq_true, decide_eq_true_eq, decide_eq_false_iff_not, Bool.not_eq_true', Bool.not_eq_false', Bool.not_true, Bool.not_false, Bool.false_eq_true, Bool.true_eq_false, Bool.not_eq_true, Bool.not_eq_false, beq_iff_eq, beq_eq_false_iff_ne, bne_iff_ne, bne_eq_false_iff_eq, ne_eq, Int.not_lt, Int.not_le, ge_iff_le, gt_iff_lt, Decidable.not_not, reduceCtorEq, *] at hc) <;> (try (exfalso; omega)))
    | ((with_reducible apply opsF.und); (case hg => rfl))
    | ((with_reducible apply opsF.callv); (case hf => exact tEV); (case hx => exact tCV))
    | ((with_reducible apply dopsF.op rfl); (case hs => (first | exact tHT | exact tHS)))
    | ((with_reducible apply dopsF.call); (case hx => exact tAG))
    | ((with_reducible apply dopsF.want); (case hg => exact tEV); (case hb => exact tNB))
    | ((with_reducible apply dopsF.skip); (case hg => exact tEV); (case hb => exact tNB))
    | ((with_reducible apply dopsF.und); (case hg => rfl))
    | ((with_reducible apply stabF.und); rfl)
    | ((with_reducible apply stabF.want); (case hg => exact tEV); (case hb => exact tNB))
    | ((with_reducible apply stabF.skip); (case hg => exact tEV); (case hb => exact tNB))
    | ((with_reducible apply stabF.op); (case hs => (first | exact tHT | exact tHS)); (case hv => exact tSV))
    | ((with_reducible apply retF.r); (case hv => exact tRS))
    | ((with_reducible apply retF.nn); (case hv => exact tRS))
    | ((refine (ih (n / 10) hq2 _ (by omega)).mono fun v h' hp => ?_); obtain ⟨rfl, rfl⟩ := hp))
      refine ⟨?_, rfl⟩
      conv => rhs; rw [udecS]
      rw [dif_neg (by omega)]
      first | rfl | (rw [show (48 + ((n % 10 : Nat) : Int)).toNat = 48 + n % 10 by omega])
/-- An int's digits. -/
def decS (n : Int) : List UInt8 := if n < 0 then 45 :: udecS (-n).toNat else udecS n.toNat
theorem dec_call (n : Nat) (h : AH) (hn : n ≤ 9223372036854775807) : Call P w0 ref01_Dec [.v (.int .i64 (n : Int))] h (fun v h' => v = .v (.string (bs (udecS n))) ∧ h' = h) := by
  refine Call.bodyF b_ref01_Dec rfl rfl ?_
  unfold c_ref01_Dec
  repeat' (first
    | ((with_reducible apply opsF.op rfl); (case hs => (first | exact tHT | exact tHS)))
    | with_reducible (first | apply opsF.nil | apply seqF.nn | apply vcF.seq | apply vcF.region | apply vcF.dregion | apply vcF.skip | apply vcF.block | apply vcF.exit | apply vcF.ret | apply vcF.loop | apply seqF.e | apply seqF.r | apply blkF.nn | apply blkF.e | apply blkF.r | apply blkF.o rfl | apply dopsF.nil | apply stabsF.nil | apply stabsF.cons | apply dopsF.cont)
    | ((with_reducible apply opsF.call); (case hx => exact tAG))
    | ((with_reducible apply opsF.want); (case hg => exact tEV); (case hb => exact tNB))
    | ((with_reducible apply opsF.skip); (case hg => exact tEV); (case hb => exact tNB))
    | (first | ((with_reducible apply opsF.case); (case hg => exact tEV)) | ((with_reducible apply vcF.cond); (case hx => exact tEV)) | ((with_reducible apply dopsF.case); (case hg => exact tEV))) <;> ((intro hc; try simp only [Int.reduceLT, Int.reduceLE, Int.reduceEq, Int.reduceNe, Int.cast_ofNat_Int, Int.reduceNeg, decide_true, decide_false, not_true_eq_false, not_false_eq_true, decide_eq_true_eq, decide_eq_false_iff_not, Bool.not_eq_true', Bool.not_eq_false', Bool.not_true, Bool.not_false, Bool.false_eq_true, Bool.true_eq_false, Bool.not_eq_true, Bool.not_eq_false, beq_iff_eq, beq_eq_false_iff_ne, bne_iff_ne, bne_eq_false_iff_eq, ne_eq, Int.not_lt, Int.not_le, ge_iff_le, gt_iff_lt, Decidable.not_not, reduceCtorEq, *] at hc) <;> (try (exfalso; omega)))
    | ((with_reducible apply opsF.und); (case hg => rfl))
    | ((with_reducible apply opsF.callv); (case hf => exact tEV); (case hx => exact tCV))
    | ((with_reducible apply dopsF.op rfl); (case hs => (first | exact tHT | exact tHS)))
    | ((with_reducible apply dopsF.call); (case hx => exact tAG))
    | ((with_reducible apply dopsF.want); (case hg => exact tEV); (case hb => exact tNB))
    | ((with_reducible apply dopsF.skip); (case hg => exact tEV); (case hb => exact tNB))
    | ((with_reducible apply dopsF.und); (case hg => rfl))
    | ((with_reducible apply stabF.und); rfl)
    | ((with_reducible apply stabF.want); (case hg => exact tEV); (case hb => exact tNB))
    | ((with_reducible apply stabF.skip); (case hg => exact tEV); (case hb => exact tNB))
    | ((with_reducible apply stabF.op); (case hs => (first | exact tHT | exact tHS)); (case hv => exact tSV))
    | ((with_reducible apply retF.r); (case hv => exact tRS))
    | ((with_reducible apply retF.nn); (case hv => exact tRS))
    | ((refine (udec_call n _ (by omega)).mono fun v h' hp => ?_); obtain ⟨rfl, rfl⟩ := hp))
  all_goals exact ⟨rfl, rfl⟩
theorem u8_is {x y : UInt8} (h : (x.toNat : Int) = (y.toNat : Int)) : x = y := UInt8.toNat_inj.1 (by omega)
theorem u8_not {x : UInt8} {n : Nat} (hn : n < 256) (h : ¬ (x.toNat : Int) = (n : Int)) : ¬ x = UInt8.ofNat n := by
  rintro rfl
  apply h
  rw [UInt8.toNat_ofNat']
  omega
/-- A line, without its end. -/
def lineS (most : Int) (b : List UInt8) : Int × List UInt8 :=
  if most < (b.length : Int) + 2 then (2, []) else if b.any (fun x => x = 0 || x = 10 || x = 13) then (3, []) else (1, b)
theorem line_call (b : List UInt8) (most : Int) (tok : Tok) (h : AH) (hl : b.length ≤ 1000000000000) : Call P w0 ref01_Line [.list 1 (brows b) tok, .v (.int .i64 most)] h
    (fun v h' => v = .agg [.v (.int .i64 (lineS most b).1), .v (.string (bs (lineS most b).2))] ∧ Ext h h') := by
  have xl := brows_len
  have xg := brows_get
  refine Call.bodyF b_ref01_Line rfl rfl ?_
  unfold c_ref01_Line
  repeat' (first
    | ((with_reducible apply opsF.op rfl); (case hs => (first | exact tHT | exact tHS)))
    | with_reducible (first | apply opsF.nil | apply seqF.nn | apply vcF.seq | apply vcF.region | apply vcF.dregion | apply vcF.skip | apply vcF.block | apply vcF.exit | apply vcF.ret | apply vcF.loop | apply seqF.e | apply seqF.r | apply blkF.nn | apply blkF.e | apply blkF.r | apply blkF.o rfl | apply dopsF.nil | apply stabsF.nil | apply stabsF.cons | apply dopsF.cont)
    | ((with_reducible apply opsF.call); (case hx => exact tAG))
    | ((with_reducible apply opsF.want); (case hg => exact tEV); (case hb => exact tNB))
    | ((with_reducible apply opsF.skip); (case hg => exact tEV); (case hb => exact tNB))
    | (first | ((with_reducible apply opsF.case); (case hg => exact tEV)) | ((with_reducible apply vcF.cond); (case hx => exact tEV)) | ((with_reducible apply dopsF.case); (case hg => exact tEV))) <;> ((intro hc; try simp only [Int.reduceLT, Int.reduceLE, Int.reduceEq, Int.reduceNe, Int.cast_ofNat_Int, Int.reduceNeg, decide_true, decide_false, not_true_eq_false, not_false_eq_true, decide_eq_true_eq, decide_eq_false_iff_not, Bool.not_eq_true', Bool.not_eq_false', Bool.not_true, Bool.not_false, Bool.false_eq_true, Bool.true_eq_false, Bool.not_eq_true, Bool.not_eq_false, beq_iff_eq, beq_eq_false_iff_ne, bne_iff_ne, bne_eq_false_iff_eq, ne_eq, Int.not_lt, Int.not_le, ge_iff_le, gt_iff_lt, Decidable.not_not, reduceCtorEq, *] at hc) <;> (try (exfalso; omega)))
    | ((with_reducible apply opsF.und); (case hg => rfl))
    | ((with_reducible apply opsF.callv); (case hf => exact tEV); (case hx => exact tCV))
    | ((with_reducible apply dopsF.op rfl); (case hs => (first | exact tHT | exact tHS)))
    | ((with_reducible apply dopsF.call); (case hx => exact tAG))
    | ((with_reducible apply dopsF.want); (case hg => exact tEV); (case hb => exact tNB))
    | ((with_reducible apply dopsF.skip); (case hg => exact tEV); (case hb => exact tNB))
    | ((with_reducible apply dopsF.und); (case hg => rfl))
    | ((with_reducible apply stabF.und); rfl)
    | ((with_reducible apply stabF.want); (case hg => exact tEV); (case hb => exact tNB))
    | ((with_reducible apply stabF.skip); (case hg => exact tEV); (case hb => exact tNB))
    | ((with_reducible apply stabF.op); (case hs => (first | exact tHT | exact tHS)); (case hv => exact tSV))
    | ((with_reducible apply retF.r); (case hv => exact tRS))
    | ((with_reducible apply retF.nn); (case hv => exact tRS)))
  · refine ⟨?_, (Ext.alloc _ _).set (Nat.le_refl _) _⟩
    simp only [lineS, if_pos hc]
  · refine LpF.ind rfl (fun i : Nat => b.length - i) (fun i σ h' => h' = h.alloc (.cells [.v (.int .i64 0), .v (.string (bs []))]) ∧ σ 0 = .list 1 (brows b) tok ∧ σ 5 = .v (.int .i64 (i : Nat)) ∧ σ 4 = .ptr h.n 0 ∧ i ≤ b.length ∧ (b.take i).any (fun x => x = 0 || x = 10 || x = 13) = false) ?_ (i := 0) ⟨rfl, rfl, rfl, rfl, Nat.zero_le _, rfl⟩
    rintro i σ h' ⟨rfl, h0, h5, h4, hi, he⟩
    rcases Nat.lt_or_ge i b.length with hlt | hge
    · have ha : b[i]? = some b[i] := List.getElem?_eq_getElem hlt
      generalize b[i] = x at ha
      have hbad : (x = 0 ∨ x = 10 ∨ x = 13) → b.any (fun x => x = 0 || x = 10 || x = 13) = true := by
        intro hx
        rw [List.any_eq_true]
        refine ⟨x, List.mem_of_getElem? ha, ?_⟩
        simpa [or_assoc] using hx
      have hlin : (x = 0 ∨ x = 10 ∨ x = 13) → lineS most b = (3, []) := by
        intro hx
        simp only [lineS, if_neg (show ¬ most < (b.length : Int) + 2 by omega), hbad hx, if_true]
      repeat' (first
    | ((with_reducible apply opsF.op rfl); (case hs => (first | exact tHT | exact tHS)))
    | with_reducible (first | apply opsF.nil | apply seqF.nn | apply vcF.seq | apply vcF.region | apply vcF.dregion | apply vcF.skip | apply vcF.block | apply vcF.exit | apply vcF.ret | apply vcF.loop | apply seqF.e | apply seqF.r | apply blkF.nn | apply blkF.e | apply blkF.r | apply blkF.o rfl | apply dopsF.nil | apply stabsF.nil | apply stabsF.cons | apply dopsF.cont)
    | ((with_reducible apply opsF.call); (case hx => exact tAG))
    | ((with_reducible apply opsF.want); (case hg => exact tEV); (case hb => exact tNB))
    | ((with_reducible apply opsF.skip); (case hg => exact tEV); (case hb => exact tNB))
    | (first | ((with_reducible apply opsF.case); (case hg => exact tEV)) | ((with_reducible apply vcF.cond); (case hx => exact tEV)) | ((with_reducible apply dopsF.case); (case hg => exact tEV))) <;> ((intro hc; try simp only [Int.reduceLT, Int.reduceLE, Int.reduceEq, Int.reduceNe, Int.cast_ofNat_Int, Int.reduceNeg, decide_true, decide_false, not_true_eq_false, not_false_eq_true, decide_eq_true_eq, decide_eq_false_iff_not, Bool.not_eq_true', Bool.not_eq_false', Bool.not_true, Bool.not_false, Bool.false_eq_true, Bool.true_eq_false, Bool.not_eq_true, Bool.not_eq_false, beq_iff_eq, beq_eq_false_iff_ne, bne_iff_ne, bne_eq_false_iff_eq, ne_eq, Int.not_lt, Int.not_le, ge_iff_le, gt_iff_lt, Decidable.not_not, reduceCtorEq, *] at hc) <;> (try (exfalso; omega)))
    | ((with_reducible apply opsF.und); (case hg => rfl))
    | ((with_reducible apply opsF.callv); (case hf => exact tEV); (case hx => exact tCV))
    | ((with_reducible apply dopsF.op rfl); (case hs => (first | exact tHT | exact tHS)))
    | ((with_reducible apply dopsF.call); (case hx => exact tAG))
    | ((with_reducible apply dopsF.want); (case hg => exact tEV); (case hb => exact tNB))
    | ((with_reducible apply dopsF.skip); (case hg => exact tEV); (case hb => exact tNB))
    | ((with_reducible apply dopsF.und); (case hg => rfl))
    | ((with_reducible apply stabF.und); rfl)
    | ((with_reducible apply stabF.want); (case hg => exact tEV); (case hb => exact tNB))
    | ((with_reducible apply stabF.skip); (case hg => exact tEV); (case hb => exact tNB))
    | ((with_reducible apply stabF.op); (case hs => (first | exact tHT | exact tHS)); (case hv => exact tSV))
    | ((with_reducible apply retF.r); (case hv => exact tRS))
    | ((with_reducible apply retF.nn); (case hv => exact tRS)))
      · rw [hlin (.inr (.inr (u8_is (y := 13) (by assumption))))]
        exact ⟨rfl, (Ext.alloc _ _).set (Nat.le_refl _) _⟩
      · refine ⟨i + 1, by omega, rfl, h0, rfl, h4, by omega, ?_⟩
        rw [List.take_add_one, ha, List.any_append, he]
        simp [u8_not (n := 0) (by omega) (by assumption), u8_not (n := 10) (by omega) (by assumption), u8_not (n := 13) (by omega) (by assumption)]
        exact ⟨⟨u8_not (n := 0) (by omega) (by assumption), u8_not (n := 10) (by omega) (by assumption)⟩, u8_not (n := 13) (by omega) (by assumption)⟩
      · rw [hlin (.inr (.inl (u8_is (y := 10) (by assumption))))]
        exact ⟨rfl, (Ext.alloc _ _).set (Nat.le_refl _) _⟩
      · rw [hlin (.inl (u8_is (y := 0) (by assumption)))]
        exact ⟨rfl, (Ext.alloc _ _).set (Nat.le_refl _) _⟩
    · have : i = b.length := by omega
      subst this
      repeat' (first
    | ((with_reducible apply opsF.op rfl); (case hs => (first | exact tHT | exact tHS)))
    | with_reducible (first | apply opsF.nil | apply seqF.nn | apply vcF.seq | apply vcF.region | apply vcF.dregion | apply vcF.skip | apply vcF.block | apply vcF.exit | apply vcF.ret | apply vcF.loop | apply seqF.e | apply seqF.r | apply blkF.nn | apply blkF.e | apply blkF.r | apply blkF.o rfl | apply dopsF.nil | apply stabsF.nil | apply stabsF.cons | apply dopsF.cont)
    | ((with_reducible apply opsF.call); (case hx => exact tAG))
    | ((with_reducible apply opsF.want); (case hg => exact tEV); (case hb => exact tNB))
    | ((with_reducible apply opsF.skip); (case hg => exact tEV); (case hb => exact tNB))
    | (first | ((with_reducible apply opsF.case); (case hg => exact tEV)) | ((with_reducible apply vcF.cond); (case hx => exact tEV)) | ((with_reducible apply dopsF.case); (case hg => exact tEV))) <;> ((intro hc; try simp only [Int.reduceLT, Int.reduceLE, Int.reduceEq, Int.reduceNe, Int.cast_ofNat_Int, Int.reduceNeg, decide_true, decide_false, not_true_eq_false, not_false_eq_true, decide_eq_true_eq, decide_eq_false_iff_not, Bool.not_eq_true', Bool.not_eq_false', Bool.not_true, Bool.not_false, Bool.false_eq_true, Bool.true_eq_false, Bool.not_eq_true, Bool.not_eq_false, beq_iff_eq, beq_eq_false_iff_ne, bne_iff_ne, bne_eq_false_iff_eq, ne_eq, Int.not_lt, Int.not_le, ge_iff_le, gt_iff_lt, Decidable.not_not, reduceCtorEq, *] at hc) <;> (try (exfalso; omega)))
    | ((with_reducible apply opsF.und); (case hg => rfl))
    | ((with_reducible apply opsF.callv); (case hf => exact tEV); (case hx => exact tCV))
    | ((with_reducible apply dopsF.op rfl); (case hs => (first | exact tHT | exact tHS)))
    | ((with_reducible apply dopsF.call); (case hx => exact tAG))
    | ((with_reducible apply dopsF.want); (case hg => exact tEV); (case hb => exact tNB))
    | ((with_reducible apply dopsF.skip); (case hg => exact tEV); (case hb => exact tNB))
    | ((with_reducible apply dopsF.und); (case hg => rfl))
    | ((with_reducible apply stabF.und); rfl)
    | ((with_reducible apply stabF.want); (case hg => exact tEV); (case hb => exact tNB))
    | ((with_reducible apply stabF.skip); (case hg => exact tEV); (case hb => exact tNB))
    | ((with_reducible apply stabF.op); (case hs => (first | exact tHT | exact tHS)); (case hv => exact tSV))
    | ((with_reducible apply retF.r); (case hv => exact tRS))
    | ((with_reducible apply retF.nn); (case hv => exact tRS)))
      rw [List.take_length] at he
      have hlin : lineS most b = (1, b) := by
        simp only [lineS, if_neg (show ¬ most < (b.length : Int) + 2 by omega), he, Bool.false_eq_true, if_false]
      rw [hlin]
      exact ⟨rfl, (Ext.alloc _ _).set (Nat.le_refl _) _⟩
/-- The lines of bytes, and what waits behind them. -/
def linesS (most : Int) : List UInt8 → List UInt8 → List (Int × List UInt8) × List UInt8
  | cur, [] => ([], cur)
  | cur, [x] => ([], cur ++ [x])
  | cur, x :: y :: r => if x = 13 ∧ y = 10 then (lineS most cur :: (linesS most [] r).1, (linesS most [] r).2) else linesS most (cur ++ [x]) (y :: r)
theorem linesS_skip {most : Int} {cur r : List UInt8} {x y : UInt8} (h : ¬ (x = 13 ∧ y = 10)) : linesS most cur (x :: y :: r) = linesS most (cur ++ [x]) (y :: r) := by rw [linesS, if_neg h]
theorem linesS_hit {most : Int} {cur r : List UInt8} : linesS most cur (13 :: 10 :: r) = (lineS most cur :: (linesS most [] r).1, (linesS most [] r).2) := by rw [linesS, if_pos ⟨rfl, rfl⟩]
theorem cur_step {b : List UInt8} {a i : Nat} {x : UInt8} (hx : b[i]? = some x) (ha : a ≤ i) : (b.drop a).take (i + 1 - a) = (b.drop a).take (i - a) ++ [x] := by
  rw [show i + 1 - a = (i - a) + 1 by omega, List.take_add_one, List.getElem?_drop, show a + (i - a) = i by omega, hx]
  rfl
theorem drop_step {b : List UInt8} {i : Nat} {x : UInt8} (hx : b[i]? = some x) : b.drop i = x :: b.drop (i + 1) := by
  obtain ⟨h, rfl⟩ := List.getElem?_eq_some_iff.1 hx
  exact List.drop_eq_getElem_cons h
theorem lines_call (b : List UInt8) (most : Int) (tok : Tok) (h : AH) (hl : b.length ≤ 1000000000000) (htok : tok = .no) : Call P w0 ref01_Lines [.list 1 (brows b) tok, .v (.int .i64 most)] h
    (fun v h' => ∃ tk, v = .tup [.list 2 (lrows (linesS most [] b).1) tk, .list 1 (brows (linesS most [] b).2) .no] ∧ Ext h h') := by
  subst htok
  have xl := brows_len
  have xg := brows_get
  have xd := brows_drop
  have xt := brows_take
  have xll := lrows_len
  refine Call.bodyF b_ref01_Lines rfl rfl ?_
  unfold c_ref01_Lines
  repeat' (first
    | ((with_reducible apply opsF.op rfl); (case hs => (first | exact tHT | exact tHS)))
    | with_reducible (first | apply opsF.nil | apply seqF.nn | apply vcF.seq | apply vcF.region | apply vcF.dregion | apply vcF.skip | apply vcF.block | apply vcF.exit | apply vcF.ret | apply vcF.loop | apply seqF.e | apply seqF.r | apply blkF.nn | apply blkF.e | apply blkF.r | apply blkF.o rfl | apply dopsF.nil | apply stabsF.nil | apply stabsF.cons | apply dopsF.cont)
    | ((with_reducible apply opsF.call); (case hx => exact tAG))
    | ((with_reducible apply opsF.want); (case hg => exact tEV); (case hb => exact tNB))
    | ((with_reducible apply opsF.skip); (case hg => exact tEV); (case hb => exact tNB))
    | (first | ((with_reducible apply opsF.case); (case hg => exact tEV)) | ((with_reducible apply vcF.cond); (case hx => exact tEV)) | ((with_reducible apply dopsF.case); (case hg => exact tEV))) <;> ((intro hc; try simp only [Int.reduceLT, Int.reduceLE, Int.reduceEq, Int.reduceNe, Int.cast_ofNat_Int, Int.reduceNeg, decide_true, decide_false, not_true_eq_false, not_false_eq_true, decide_eq_true_eq, decide_eq_false_iff_not, Bool.not_eq_true', Bool.not_eq_false', Bool.not_true, Bool.not_false, Bool.false_eq_true, Bool.true_eq_false, Bool.not_eq_true, Bool.not_eq_false, beq_iff_eq, beq_eq_false_iff_ne, bne_iff_ne, bne_eq_false_iff_eq, ne_eq, Int.not_lt, Int.not_le, ge_iff_le, gt_iff_lt, Decidable.not_not, reduceCtorEq, *] at hc) <;> (try (exfalso; omega)))
    | ((with_reducible apply opsF.und); (case hg => rfl))
    | ((with_reducible apply opsF.callv); (case hf => exact tEV); (case hx => exact tCV))
    | ((with_reducible apply dopsF.op rfl); (case hs => (first | exact tHT | exact tHS)))
    | ((with_reducible apply dopsF.call); (case hx => exact tAG))
    | ((with_reducible apply dopsF.want); (case hg => exact tEV); (case hb => exact tNB))
    | ((with_reducible apply dopsF.skip); (case hg => exact tEV); (case hb => exact tNB))
    | ((with_reducible apply dopsF.und); (case hg => rfl))
    | ((with_reducible apply stabF.und); rfl)
    | ((with_reducible apply stabF.want); (case hg => exact tEV); (case hb => exact tNB))
    | ((with_reducible apply stabF.skip); (case hg => exact tEV); (case hb => exact tNB))
    | ((with_reducible apply stabF.op); (case hs => (first | exact tHT | exact tHS)); (case hv => exact tSV))
    | ((with_reducible apply retF.r); (case hv => exact tRS))
    | ((with_reducible apply retF.nn); (case hv => exact tRS)))
  refine LpF.ind rfl (fun i : Nat => b.length + 1 - i) (fun i σ h' => Ext h h' ∧ σ 0 = .list 1 (brows b) .no ∧ σ 1 = .v (.int .i64 most) ∧ σ 8 = .v (.int .i64 (i : Nat)) ∧ i ≤ b.length ∧ ∃ (a : Nat) (out : List (Int × List UInt8)) (tk : Tok), σ 7 = .v (.int .i64 (a : Nat)) ∧ σ 6 = .list 2 (lrows out) tk ∧ TokU h' tk ∧ (∀ t, tk.owner = some t → h.nt ≤ t) ∧ a ≤ i ∧ out.length ≤ i ∧
    (linesS most [] b) = (out ++ (linesS most ((b.drop a).take (i - a)) (b.drop i)).1, (linesS most ((b.drop a).take (i - a)) (b.drop i)).2)) ?_ (i := 0) ⟨.refl _, rfl, rfl, rfl, Nat.zero_le _, 0, [], .full, rfl, rfl, trivial, (fun t ht => by cases ht), Nat.le_refl _, Nat.le_refl _, rfl⟩
  rintro i σ h' ⟨hE, h0, h1, h8, hi, a, out, tk, h7, h6, hT, hF, ha, ho, hS⟩
  have hi1 : ((i : Int) + 1).toNat = i + 1 := by omega
  rcases Nat.lt_or_ge (i + 1) b.length with hlt | hge
  · have hx : b[i]? = some b[i] := List.getElem?_eq_getElem (by omega)
    have hy : b[i + 1]? = some b[i + 1] := List.getElem?_eq_getElem hlt
    generalize b[i] = x at hx
    generalize b[i + 1] = y at hy
    repeat' (first
    | ((with_reducible apply opsF.op rfl); (case hs => (first | exact tHT | exact tHS)))
    | with_reducible (first | apply opsF.nil | apply seqF.nn | apply vcF.seq | apply vcF.region | apply vcF.dregion | apply vcF.skip | apply vcF.block | apply vcF.exit | apply vcF.ret | apply vcF.loop | apply seqF.e | apply seqF.r | apply blkF.nn | apply blkF.e | apply blkF.r | apply blkF.o rfl | apply dopsF.nil | apply stabsF.nil | apply stabsF.cons | apply dopsF.cont)
    | ((with_reducible apply opsF.call); (case hx => exact tAG))
    | ((with_reducible apply opsF.want); (case hg => exact tEV); (case hb => exact tNB))
    | ((with_reducible apply opsF.skip); (case hg => exact tEV); (case hb => exact tNB))
    | (first | ((with_reducible apply opsF.case); (case hg => exact tEV)) | ((with_reducible apply vcF.cond); (case hx => exact tEV)) | ((with_reducible apply dopsF.case); (case hg => exact tEV))) <;> ((intro hc; try simp only [Int.reduceLT, Int.reduceLE, Int.reduceEq, Int.reduceNe, Int.cast_ofNat_Int, Int.reduceNeg, decide_true, decide_false, not_true_eq_false, not_false_eq_true, decide_eq_true_eq, decide_eq_false_iff_not, Bool.not_eq_true', Bool.not_eq_false', Bool.not_true, Bool.not_false, Bool.false_eq_true, Bool.true_eq_false, Bool.not_eq_true, Bool.not_eq_false, beq_iff_eq, beq_eq_false_iff_ne, bne_iff_ne, bne_eq_false_iff_eq, ne_eq, Int.not_lt, Int.not_le, ge_iff_le, gt_iff_lt, Decidable.not_not, reduceCtorEq, *] at hc) <;> (try (exfalso; omega)))
    | ((with_reducible apply opsF.und); (case hg => rfl))
    | ((with_reducible apply opsF.callv); (case hf => exact tEV); (case hx => exact tCV))
    | ((with_reducible apply dopsF.op rfl); (case hs => (first | exact tHT | exact tHS)))
    | ((with_reducible apply dopsF.call); (case hx => exact tAG))
    | ((with_reducible apply dopsF.want); (case hg => exact tEV); (case hb => exact tNB))
    | ((with_reducible apply dopsF.skip); (case hg => exact tEV); (case hb => exact tNB))
    | ((with_reducible apply dopsF.und); (case hg => rfl))
    | ((with_reducible apply stabF.und); rfl)
    | ((with_reducible apply stabF.want); (case hg => exact tEV); (case hb => exact tNB))
    | ((with_reducible apply stabF.skip); (case hg => exact tEV); (case hb => exact tNB))
    | ((with_reducible apply stabF.op); (case hs => (first | exact tHT | exact tHS)); (case hv => exact tSV))
    | ((with_reducible apply retF.r); (case hv => exact tRS))
    | ((with_reducible apply retF.nn); (case hv => exact tRS))
    | ((refine (line_call ((b.drop a).take (i - a)) most .no _ (by simp; omega)).mono fun v h2 hp => ?_); obtain ⟨rfl, he⟩ := hp; obtain ⟨tk1, h3, hap, hT2, hT3, hT4, hT5, hT6⟩ := (hT.ext he).app))
    · refine ⟨i + 1, by omega, hE, h0, h1, rfl, by omega, a, out, tk, h7, h6, hT, hF, by omega, by omega, ?_⟩
      rw [hS, drop_step hx, drop_step hy, linesS_skip (by rintro ⟨rfl, rfl⟩; simp at *), cur_step hx ha]
    · refine ⟨i + 2, by omega, ?_, h0, h1, rfl, by omega, i + 2, out ++ [lineS most ((b.drop a).take (i - a))], tk1, rfl, ?_, hT2, ?_, by omega, by simp; omega, ?_⟩
      · exact Ext.transX (hE.trans he) hT6 (fun _ x => x.elim) hF
      · conv => lhs; whnf
        simp [lrows]
      · intro t ht
        rcases hT3 t ht with hz | hz
        · exact hF t hz
        · exact Nat.le_trans (hE.trans he).nt hz
      · obtain rfl : x = 13 := u8_is (y := 13) (by assumption)
        obtain rfl : y = 10 := u8_is (y := 10) (by assumption)
        rw [hS, drop_step hx, drop_step hy, linesS_hit]
        simp
    · refine ⟨i + 1, by omega, hE, h0, h1, rfl, by omega, a, out, tk, h7, h6, hT, hF, by omega, by omega, ?_⟩
      rw [hS, drop_step hx, drop_step hy, linesS_skip (by rintro ⟨rfl, rfl⟩; simp at *), cur_step hx ha]
  · repeat' (first
    | ((with_reducible apply opsF.op rfl); (case hs => (first | exact tHT | exact tHS)))
    | with_reducible (first | apply opsF.nil | apply seqF.nn | apply vcF.seq | apply vcF.region | apply vcF.dregion | apply vcF.skip | apply vcF.block | apply vcF.exit | apply vcF.ret | apply vcF.loop | apply seqF.e | apply seqF.r | apply blkF.nn | apply blkF.e | apply blkF.r | apply blkF.o rfl | apply dopsF.nil | apply stabsF.nil | apply stabsF.cons | apply dopsF.cont)
    | ((with_reducible apply opsF.call); (case hx => exact tAG))
    | ((with_reducible apply opsF.want); (case hg => exact tEV); (case hb => exact tNB))
    | ((with_reducible apply opsF.skip); (case hg => exact tEV); (case hb => exact tNB))
    | (first | ((with_reducible apply opsF.case); (case hg => exact tEV)) | ((with_reducible apply vcF.cond); (case hx => exact tEV)) | ((with_reducible apply dopsF.case); (case hg => exact tEV))) <;> ((intro hc; try simp only [Int.reduceLT, Int.reduceLE, Int.reduceEq, Int.reduceNe, Int.cast_ofNat_Int, Int.reduceNeg, decide_true, decide_false, not_true_eq_false, not_false_eq_true, decide_eq_true_eq, decide_eq_false_iff_not, Bool.not_eq_true', Bool.not_eq_false', Bool.not_true, Bool.not_false, Bool.false_eq_true, Bool.true_eq_false, Bool.not_eq_true, Bool.not_eq_false, beq_iff_eq, beq_eq_false_iff_ne, bne_iff_ne, bne_eq_false_iff_eq, ne_eq, Int.not_lt, Int.not_le, ge_iff_le, gt_iff_lt, Decidable.not_not, reduceCtorEq, *] at hc) <;> (try (exfalso; omega)))
    | ((with_reducible apply opsF.und); (case hg => rfl))
    | ((with_reducible apply opsF.callv); (case hf => exact tEV); (case hx => exact tCV))
    | ((with_reducible apply dopsF.op rfl); (case hs => (first | exact tHT | exact tHS)))
    | ((with_reducible apply dopsF.call); (case hx => exact tAG))
    | ((with_reducible apply dopsF.want); (case hg => exact tEV); (case hb => exact tNB))
    | ((with_reducible apply dopsF.skip); (case hg => exact tEV); (case hb => exact tNB))
    | ((with_reducible apply dopsF.und); (case hg => rfl))
    | ((with_reducible apply stabF.und); rfl)
    | ((with_reducible apply stabF.want); (case hg => exact tEV); (case hb => exact tNB))
    | ((with_reducible apply stabF.skip); (case hg => exact tEV); (case hb => exact tNB))
    | ((with_reducible apply stabF.op); (case hs => (first | exact tHT | exact tHS)); (case hv => exact tSV))
    | ((with_reducible apply retF.r); (case hv => exact tRS))
    | ((with_reducible apply retF.nn); (case hv => exact tRS)))
    refine ⟨tk, ?_, hE⟩
    rw [hS]
    rcases Nat.lt_or_ge i b.length with hlt | hge2
    · have hx : b[i]? = some b[i] := List.getElem?_eq_getElem hlt
      have hd : b.drop (i + 1) = [] := List.drop_eq_nil_of_le (by omega)
      rw [drop_step hx, hd, linesS, ← cur_step hx ha, show i + 1 = b.length by omega]
      simp
    · have hd : b.drop i = [] := List.drop_eq_nil_of_le (by omega)
      rw [hd, linesS, show i = b.length by omega]
      simp
end Go.Abs.F
