/- strings.Trim at the hexadecimal digits; strconv.ParseUint of two of them. -/
import Derived.Test.YthmfeheegoalfaaDoorScr2
import Derived.Lib.AsciiSet
namespace Go.Abs.F
open Go Go.Abs Go.RowKit
set_option maxRecDepth 10000
set_option maxHeartbeats 20000000
set_option linter.unusedSimpArgs false
set_option linter.unusedVariables false
variable {w0 : World}
/-- The cells of the set of the digits. -/
def asL : List AV := (Lib.setCells digsL).toList.map AV.v
theorem asL_len : asL.length = 256 := by rw [asL, List.length_map, Array.length_toList, Lib.setCells_size]
theorem asL_get (x : UInt8) : asL[x.toNat]? = some (.v (.bool (isHexd x))) := by
  rw [asL, List.getElem?_map, Array.getElem?_toList, Lib.setCells_at, digsL_has]
  rfl
theorem wrL_all : ∀ {cs ds : List AV}, ds.length = cs.length → wrL cs 0 ds = ds := by
  intro cs ds hl
  apply List.ext_getElem?
  intro i
  rw [wrL_at]
  split
  · simp
  · rename_i hh
    rw [List.getElem?_eq_none (by omega), List.getElem?_eq_none (by omega)]
theorem mkset_call (h : AH) : Call P w0 strings_makeASCIISet [.v (.string (bs digsL))] h (fun v h' => v = .tup [.agg asL, .v (.bool true)] ∧ h' = h) := by
  refine Call.grows (Q := fun v => v = .tup [.agg asL, .v (.bool true)]) (vs := [.string (bs digsL)]) ⟨_, Go.Proofs.Tryd.func63, by kernel_rfl, by kernel_rfl⟩ rfl fun Γ w H => ?_
  refine (Go.Proofs.Tryd.strings_makeASCIISet (fun w => by kernel_rfl) (bs digsL) w (by decide) (fun j b hj => ?_)).mono fun e w' hh => ?_
  · rw [bs_list] at hj
    have : ∀ b ∈ digsL, b.toNat < 128 := by decide
    exact this b (List.mem_of_getElem? hj)
  · obtain ⟨rfl, rfl⟩ := hh
    rw [bs_list]
    refine ⟨_, _, rfl, fun Γ' => ?_, rfl, (Below.refl _ _).alloc (Nat.le_refl _) _⟩
    refine .tup rfl fun i hi hi' => ?_
    match i, hi with
    | 0, _ =>
      have ha := Lib.setCells_one digsL
      rw [Array.all_eq_true_iff_forall_mem] at ha
      refine .agg (by rw [asL_len, Lib.setCells_size]) (fun k hk => ha _ (Array.getElem_mem hk)) (fun k hk hk' => ?_)
      simp only [asL, List.getElem_map, Array.getElem_toList]
      exact .v _
    | 1, _ => exact .v _
theorem has_call (id : Nat) (x : UInt8) (h : AH) (ho : h.objs id = some (.cells asL)) : Call P w0 strings_asciiSet_contains [.ptr id 0, .v (.int .u8 (x.toNat : Int))] h (fun v h' => v = .v (.bool (isHexd x)) ∧ h' = h) := by
  have hxl := x.toNat_lt
  have hg : rd asL (0 + x.toNat * 1) none = some (.v (.bool (isHexd x))) := by
    show asL[0 + x.toNat * 1]? = _
    rw [Nat.zero_add, Nat.mul_one, asL_get]
  refine Call.bodyF b_strings_asciiSet_contains rfl rfl ?_
  unfold c_strings_asciiSet_contains
  repeat' (first
    | ((with_reducible apply opsF.op rfl); (case hs => (first | exact tHT | exact tHS)))
    | with_reducible (first | apply opsF.nil | apply seqF.nn | apply vcF.seq | apply vcF.region | apply vcF.dregion | apply vcF.skip | apply vcF.block | apply vcF.exit | apply vcF.ret | apply vcF.loop | apply seqF.e | apply seqF.r | apply blkF.nn | apply blkF.e | apply blkF.r | apply blkF.o rfl | apply dopsF.nil | apply stabsF.nil | apply stabsF.cons | apply dopsF.cont)
    | ((with_reducible apply opsF.call); (case hx => exact tAG))
    | ((with_reducible apply opsF.want); (case hg => exact tEV); (case hb => exact tNB))
    | ((with_reducible apply opsF.skip); (case hg => exact tEV); (case hb => exact tNB))
    | (first | ((with_reducible apply opsF.case); (case hg => exact tEV)) | ((with_reducible apply vcF.cond); (case hx => exact tEV)) | ((with_reducible apply dopsF.case); (case hg => exact tEV))) <;> ((intro hc; try simp only [Int.reduceLT, Int.reduceLE, Int.reduceEq, Int.reduceNe, Int.cast_ofNat_Int, Int.reduceNeg, decide_true, decide_false, not_true_eq_false, not_false_eq_true, decide_eq_true_eq, decide_eq_false_iff_not, Bool.not_eq_true', Bool.not_eq_false', Bool.not_true, Bool.not_false, Bool.false_eq_true, Bool.true_eq_false, Bool.not_eq_true, Bool.not_eq_false, beq_iff_eq, beq_eq_false_iff_ne, bne_iff_ne, bne_eq_false_iff_eq, ne_eq, Int.not_lt, Int.not_le, ge_iff_le, gt_iff_lt, Decidable.not_not, reduceCtorEq, *] at hc) <;> (try (exfalso; omega)))
    | ((with_reducible apply opsF.und); (case hg => rfl))
    | ((with_reducible apply opsF.callv); (case hf => exact tEV); (case hx => exact tCV))
    | ((with_reducible apply dopsF.op rfl); (case hs => (first | exact tHT | exact tHS)))
    | ((with_reducible apply dopsF.call); (case hx => exact tAG))
    | ((with_reducible apply dopsF.want); (case hg => exact tEV); (case hb => exact tNB))
    | ((with_reducible apply dopsF.skip); (case hg => exact tEV); (case hb => exact tNB))
    | ((with_reducible apply dopsF.und); (case hg => rfl))
    | ((with_reducible apply stabF.und); rfl)
    | ((with_reducible apply stabF.want); (case hg => exact tEV); (case hb => exact tNB))
    | ((with_reducible apply stabF.skip); (case hg => exact tEV); (case hb => exact tNB))
    | ((with_reducible apply stabF.op); (case hs => (first | exact tHT | exact tHS)); (case hv => exact tSV))
    | ((with_reducible apply retF.r); (case hv => exact tRS))
    | ((with_reducible apply retF.nn); (case hv => exact tRS))
    | ((with_reducible apply opsF.op rfl); (case hs => exact is_load (by exact tEV) ho hg)))
  all_goals exact ⟨rfl, rfl⟩
theorem trimR_call (id : Nat) (s : List UInt8) (h : AH) (ho : h.objs id = some (.cells asL)) (hl : s.length ≤ 9000000000000000000) : Call P w0 strings_trimRightASCII [.v (.string (bs s)), .ptr id 0] h
    (fun v h' => (∃ k, v = .v (.string (bs (s.take k))) ∧ k ≤ s.length ∧ (s.drop k).all isHexd = true ∧ (k = 0 ∨ ∃ x, s[k - 1]? = some x ∧ isHexd x = false)) ∧ h' = h) := by
  refine Call.bodyF b_strings_trimRightASCII rfl rfl ?_
  unfold c_strings_trimRightASCII
  repeat' (first
    | ((with_reducible apply opsF.op rfl); (case hs => (first | exact tHT | exact tHS)))
    | with_reducible (first | apply opsF.nil | apply seqF.nn | apply vcF.seq | apply vcF.region | apply vcF.dregion | apply vcF.skip | apply vcF.block | apply vcF.exit | apply vcF.ret | apply vcF.loop | apply seqF.e | apply seqF.r | apply blkF.nn | apply blkF.e | apply blkF.r | apply blkF.o rfl | apply dopsF.nil | apply stabsF.nil | apply stabsF.cons | apply dopsF.cont)
    | ((with_reducible apply opsF.call); (case hx => exact tAG))
    | ((with_reducible apply opsF.want); (case hg => exact tEV); (case hb => exact tNB))
    | ((with_reducible apply opsF.skip); (case hg => exact tEV); (case hb => exact tNB))
    | (first | ((with_reducible apply opsF.case); (case hg => exact tEV)) | ((with_reducible apply vcF.cond); (case hx => exact tEV)) | ((with_reducible apply dopsF.case); (case hg => exact tEV))) <;> ((intro hc; try simp only [Int.reduceLT, Int.reduceLE, Int.reduceEq, Int.reduceNe, Int.cast_ofNat_Int, Int.reduceNeg, decide_true, decide_false, not_true_eq_false, not_false_eq_true, decide_eq_true_eq, decide_eq_false_iff_not, Bool.not_eq_true', Bool.not_eq_false', Bool.not_true, Bool.not_false, Bool.false_eq_true, Bool.true_eq_false, Bool.not_eq_true, Bool.not_eq_false, beq_iff_eq, beq_eq_false_iff_ne, bne_iff_ne, bne_eq_false_iff_eq, ne_eq, Int.not_lt, Int.not_le, ge_iff_le, gt_iff_lt, Decidable.not_not, reduceCtorEq, *] at hc) <;> (try (exfalso; omega)))
    | ((with_reducible apply opsF.und); (case hg => rfl))
    | ((with_reducible apply opsF.callv); (case hf => exact tEV); (case hx => exact tCV))
    | ((with_reducible apply dopsF.op rfl); (case hs => (first | exact tHT | exact tHS)))
    | ((with_reducible apply dopsF.call); (case hx => exact tAG))
    | ((with_reducible apply dopsF.want); (case hg => exact tEV); (case hb => exact tNB))
    | ((with_reducible apply dopsF.skip); (case hg => exact tEV); (case hb => exact tNB))
    | ((with_reducible apply dopsF.und); (case hg => rfl))
    | ((with_reducible apply stabF.und); rfl)
    | ((with_reducible apply stabF.want); (case hg => exact tEV); (case hb => exact tNB))
    | ((with_reducible apply stabF.skip); (case hg => exact tEV); (case hb => exact tNB))
    | ((with_reducible apply stabF.op); (case hs => (first | exact tHT | exact tHS)); (case hv => exact tSV))
    | ((with_reducible apply retF.r); (case hv => exact tRS))
    | ((with_reducible apply retF.nn); (case hv => exact tRS)))
  refine LpF.ind rfl (fun k : Nat => k) (fun k σ h' => h' = h ∧ σ 0 = .v (.string (bs (s.take k))) ∧ σ 1 = .ptr id 0 ∧ k ≤ s.length ∧ (s.drop k).all isHexd = true) ?_ (i := s.length) ⟨rfl, by rw [List.take_length]; rfl, rfl, Nat.le_refl _, by simp⟩
  rintro k σ h' ⟨rfl, h0, h1, hk, hal⟩
  have hlt : (s.take k).length = k := by simp; omega
  rcases Nat.eq_zero_or_pos k with rfl | hpos
  · have ht0 : s.take 0 = [] := rfl
    rw [ht0] at h0
    repeat' (first
    | ((with_reducible apply opsF.op rfl); (case hs => (first | exact tHT | exact tHS)))
    | with_reducible (first | apply opsF.nil | apply seqF.nn | apply vcF.seq | apply vcF.region | apply vcF.dregion | apply vcF.skip | apply vcF.block | apply vcF.exit | apply vcF.ret | apply vcF.loop | apply seqF.e | apply seqF.r | apply blkF.nn | apply blkF.e | apply blkF.r | apply blkF.o rfl | apply dopsF.nil | apply stabsF.nil | apply stabsF.cons | apply dopsF.cont)
    | ((with_reducible apply opsF.call); (case hx => exact tAG))
    | ((with_reducible apply opsF.want); (case hg => exact tEV); (case hb => exact tNB))
    | ((with_reducible apply opsF.skip); (case hg => exact tEV); (case hb => exact tNB))
    | (first | ((with_reducible apply opsF.case); (case hg => exact tEV)) | ((with_reducible apply vcF.cond); (case hx => exact tEV)) | ((with_reducible apply dopsF.case); (case hg => exact tEV))) <;> ((intro hc; try simp only [Int.reduceLT, Int.reduceLE, Int.reduceEq, Int.reduceNe, Int.cast_ofNat_Int, Int.reduceNeg, decide_true, decide_false, not_true_eq_false, not_false_eq_true, decide_eq_true_eq, decide_eq_false_iff_not, Bool.not_eq_true', Bool.not_eq_false', Bool.not_true, Bool.not_false, Bool.false_eq_true, Bool.true_eq_false, Bool.not_eq_true, Bool.not_eq_false, beq_iff_eq, beq_eq_false_iff_ne, bne_iff_ne, bne_eq_false_iff_eq, ne_eq, Int.not_lt, Int.not_le, ge_iff_le, gt_iff_lt, Decidable.not_not, reduceCtorEq, *] at hc) <;> (try (exfalso; omega)))
    | ((with_reducible apply opsF.und); (case hg => rfl))
    | ((with_reducible apply opsF.callv); (case hf => exact tEV); (case hx => exact tCV))
    | ((with_reducible apply dopsF.op rfl); (case hs => (first | exact tHT | exact tHS)))
    | ((with_reducible apply dopsF.call); (case hx => exact tAG))
    | ((with_reducible apply dopsF.want); (case hg => exact tEV); (case hb => exact tNB))
    | ((with_reducible apply dopsF.skip); (case hg => exact tEV); (case hb => exact tNB))
    | ((with_reducible apply dopsF.und); (case hg => rfl))
    | ((with_reducible apply stabF.und); rfl)
    | ((with_reducible apply stabF.want); (case hg => exact tEV); (case hb => exact tNB))
    | ((with_reducible apply stabF.skip); (case hg => exact tEV); (case hb => exact tNB))
    | ((with_reducible apply stabF.op); (case hs => (first | exact tHT | exact tHS)); (case hv => exact tSV))
    | ((with_reducible apply retF.r); (case hv => exact tRS))
    | ((with_reducible apply retF.nn); (case hv => exact tRS)))
    exact ⟨⟨0, rfl, Nat.zero_le _, hal, .inl rfl⟩, rfl⟩
  · obtain ⟨x, hx⟩ : ∃ x, s[k - 1]? = some x := ⟨_, List.getElem?_eq_getElem (by omega)⟩
    have hx2 : (s.take k)[k - 1]? = some x := by rw [List.getElem?_take_of_lt (by omega)]; exact hx
    have hi1 : ((k : Int) - 1).toNat = k - 1 := by omega
    have htk : ((s.take k).take (k - 1)).drop 0 = s.take (k - 1) := by rw [List.drop_zero, List.take_take, Nat.min_eq_left (by omega)]
    generalize ht : s.take k = t at h0 hlt hx2 htk
    cases hxx : isHexd x with
    | true =>
      repeat' (first
    | ((with_reducible apply opsF.op rfl); (case hs => (first | exact tHT | exact tHS)))
    | with_reducible (first | apply opsF.nil | apply seqF.nn | apply vcF.seq | apply vcF.region | apply vcF.dregion | apply vcF.skip | apply vcF.block | apply vcF.exit | apply vcF.ret | apply vcF.loop | apply seqF.e | apply seqF.r | apply blkF.nn | apply blkF.e | apply blkF.r | apply blkF.o rfl | apply dopsF.nil | apply stabsF.nil | apply stabsF.cons | apply dopsF.cont)
    | ((with_reducible apply opsF.call); (case hx => exact tAG))
    | ((with_reducible apply opsF.want); (case hg => exact tEV); (case hb => exact tNB))
    | ((with_reducible apply opsF.skip); (case hg => exact tEV); (case hb => exact tNB))
    | (first | ((with_reducible apply opsF.case); (case hg => exact tEV)) | ((with_reducible apply vcF.cond); (case hx => exact tEV)) | ((with_reducible apply dopsF.case); (case hg => exact tEV))) <;> ((intro hc; try simp only [Int.reduceLT, Int.reduceLE, Int.reduceEq, Int.reduceNe, Int.cast_ofNat_Int, Int.reduceNeg, decide_true, decide_false, not_true_eq_false, not_false_eq_true, decide_eq_true_eq, decide_eq_false_iff_not, Bool.not_eq_true', Bool.not_eq_false', Bool.not_true, Bool.not_false, Bool.false_eq_true, Bool.true_eq_false, Bool.not_eq_true, Bool.not_eq_false, beq_iff_eq, beq_eq_false_iff_ne, bne_iff_ne, bne_eq_false_iff_eq, ne_eq, Int.not_lt, Int.not_le, ge_iff_le, gt_iff_lt, Decidable.not_not, reduceCtorEq, *] at hc) <;> (try (exfalso; omega)))
    | ((with_reducible apply opsF.und); (case hg => rfl))
    | ((with_reducible apply opsF.callv); (case hf => exact tEV); (case hx => exact tCV))
    | ((with_reducible apply dopsF.op rfl); (case hs => (first | exact tHT | exact tHS)))
    | ((with_reducible apply dopsF.call); (case hx => exact tAG))
    | ((with_reducible apply dopsF.want); (case hg => exact tEV); (case hb => exact tNB))
    | ((with_reducible apply dopsF.skip); (case hg => exact tEV); (case hb => exact tNB))
    | ((with_reducible apply dopsF.und); (case hg => rfl))
    | ((with_reducible apply stabF.und); rfl)
    | ((with_reducible apply stabF.want); (case hg => exact tEV); (case hb => exact tNB))
    | ((with_reducible apply stabF.skip); (case hg => exact tEV); (case hb => exact tNB))
    | ((with_reducible apply stabF.op); (case hs => (first | exact tHT | exact tHS)); (case hv => exact tSV))
    | ((with_reducible apply retF.r); (case hv => exact tRS))
    | ((with_reducible apply retF.nn); (case hv => exact tRS))
    | ((refine (has_call id x _ ho).mono fun v h' hp => ?_); rw [hxx] at hp; obtain ⟨rfl, rfl⟩ := hp))
      refine ⟨k - 1, by omega, rfl, rfl, h1, by omega, ?_⟩
      rw [drop_step hx, show k - 1 + 1 = k by omega]
      simp [hxx, hal]
    | false =>
      repeat' (first
    | ((with_reducible apply opsF.op rfl); (case hs => (first | exact tHT | exact tHS)))
    | with_reducible (first | apply opsF.nil | apply seqF.nn | apply vcF.seq | apply vcF.region | apply vcF.dregion | apply vcF.skip | apply vcF.block | apply vcF.exit | apply vcF.ret | apply vcF.loop | apply seqF.e | apply seqF.r | apply blkF.nn | apply blkF.e | apply blkF.r | apply blkF.o rfl | apply dopsF.nil | apply stabsF.nil | apply stabsF.cons | apply dopsF.cont)
    | ((with_reducible apply opsF.call); (case hx => exact tAG))
    | ((with_reducible apply opsF.want); (case hg => exact tEV); (case hb => exact tNB))
    | ((with_reducible apply opsF.skip); (case hg => exact tEV); (case hb => exact tNB))
    | (first | ((with_reducible apply opsF.case); (case hg => exact tEV)) | ((with_reducible apply vcF.cond); (case hx => exact tEV)) | ((with_reducible apply dopsF.case); (case hg => exact tEV))) <;> ((intro hc; try simp only [Int.reduceLT, Int.reduceLE, Int.reduceEq, Int.reduceNe, Int.cast_ofNat_Int, Int.reduceNeg, decide_true, decide_false, not_true_eq_false, not_false_eq_true, decide_eq_true_eq, decide_eq_false_iff_not, Bool.not_eq_true', Bool.not_eq_false', Bool.not_true, Bool.not_false, Bool.false_eq_true, Bool.true_eq_false, Bool.not_eq_true, Bool.not_eq_false, beq_iff_eq, beq_eq_false_iff_ne, bne_iff_ne, bne_eq_false_iff_eq, ne_eq, Int.not_lt, Int.not_le, ge_iff_le, gt_iff_lt, Decidable.not_not, reduceCtorEq, *] at hc) <;> (try (exfalso; omega)))
    | ((with_reducible apply opsF.und); (case hg => rfl))
    | ((with_reducible apply opsF.callv); (case hf => exact tEV); (case hx => exact tCV))
    | ((with_reducible apply dopsF.op rfl); (case hs => (first | exact tHT | exact tHS)))
    | ((with_reducible apply dopsF.call); (case hx => exact tAG))
    | ((with_reducible apply dopsF.want); (case hg => exact tEV); (case hb => exact tNB))
    | ((with_reducible apply dopsF.skip); (case hg => exact tEV); (case hb => exact tNB))
    | ((with_reducible apply dopsF.und); (case hg => rfl))
    | ((with_reducible apply stabF.und); rfl)
    | ((with_reducible apply stabF.want); (case hg => exact tEV); (case hb => exact tNB))
    | ((with_reducible apply stabF.skip); (case hg => exact tEV); (case hb => exact tNB))
    | ((with_reducible apply stabF.op); (case hs => (first | exact tHT | exact tHS)); (case hv => exact tSV))
    | ((with_reducible apply retF.r); (case hv => exact tRS))
    | ((with_reducible apply retF.nn); (case hv => exact tRS))
    | ((refine (has_call id x _ ho).mono fun v h' hp => ?_); rw [hxx] at hp; obtain ⟨rfl, rfl⟩ := hp))
      exact ⟨⟨k, by rw [ht], hk, hal, .inr ⟨x, hx, hxx⟩⟩, rfl⟩
theorem trimL_call (id : Nat) (s : List UInt8) (h : AH) (ho : h.objs id = some (.cells asL)) (hl : s.length ≤ 9000000000000000000) : Call P w0 strings_trimLeftASCII [.v (.string (bs s)), .ptr id 0] h
    (fun v h' => (∃ j, v = .v (.string (bs (s.drop j))) ∧ j ≤ s.length ∧ (s.take j).all isHexd = true ∧ (j = s.length ∨ ∃ x, s[j]? = some x ∧ isHexd x = false)) ∧ h' = h) := by
  refine Call.bodyF b_strings_trimLeftASCII rfl rfl ?_
  unfold c_strings_trimLeftASCII
  repeat' (first
    | ((with_reducible apply opsF.op rfl); (case hs => (first | exact tHT | exact tHS)))
    | with_reducible (first | apply opsF.nil | apply seqF.nn | apply vcF.seq | apply vcF.region | apply vcF.dregion | apply vcF.skip | apply vcF.block | apply vcF.exit | apply vcF.ret | apply vcF.loop | apply seqF.e | apply seqF.r | apply blkF.nn | apply blkF.e | apply blkF.r | apply blkF.o rfl | apply dopsF.nil | apply stabsF.nil | apply stabsF.cons | apply dopsF.cont)
    | ((with_reducible apply opsF.call); (case hx => exact tAG))
    | ((with_reducible apply opsF.want); (case hg => exact tEV); (case hb => exact tNB))
    | ((with_reducible apply opsF.skip); (case hg => exact tEV); (case hb => exact tNB))
    | (first | ((with_reducible apply opsF.case); (case hg => exact tEV)) | ((with_reducible apply vcF.cond); (case hx => exact tEV)) | ((with_reducible apply dopsF.case); (case hg => exact tEV))) <;> ((intro hc; try simp only [Int.reduceLT, Int.reduceLE, Int.reduceEq, Int.reduceNe, Int.cast_ofNat_Int, Int.reduceNeg, decide_true, decide_false, not_true_eq_false, not_false_eq_true, decide_eq_true_eq, decide_eq_false_iff_not, Bool.not_eq_true', Bool.not_eq_false', Bool.not_true, Bool.not_false, Bool.false_eq_true, Bool.true_eq_false, Bool.not_eq_true, Bool.not_eq_false, beq_iff_eq, beq_eq_false_iff_ne, bne_iff_ne, bne_eq_false_iff_eq, ne_eq, Int.not_lt, Int.not_le, ge_iff_le, gt_iff_lt, Decidable.not_not, reduceCtorEq, *] at hc) <;> (try (exfalso; omega)))
    | ((with_reducible apply opsF.und); (case hg => rfl))
    | ((with_reducible apply opsF.callv); (case hf => exact tEV); (case hx => exact tCV))
    | ((with_reducible apply dopsF.op rfl); (case hs => (first | exact tHT | exact tHS)))
    | ((with_reducible apply dopsF.call); (case hx => exact tAG))
    | ((with_reducible apply dopsF.want); (case hg => exact tEV); (case hb => exact tNB))
    | ((with_reducible apply dopsF.skip); (case hg => exact tEV); (case hb => exact tNB))
    | ((with_reducible apply dopsF.und); (case hg => rfl))
    | ((with_reducible apply stabF.und); rfl)
    | ((with_reducible apply stabF.want); (case hg => exact tEV); (case hb => exact tNB))
    | ((with_reducible apply stabF.skip); (case hg => exact tEV); (case hb => exact tNB))
    | ((with_reducible apply stabF.op); (case hs => (first | exact tHT | exact tHS)); (case hv => exact tSV))
    | ((with_reducible apply retF.r); (case hv => exact tRS))
    | ((with_reducible apply retF.nn); (case hv => exact tRS)))
  refine LpF.ind rfl (fun k : Nat => s.length - k) (fun k σ h' => h' = h ∧ σ 0 = .v (.string (bs (s.drop k))) ∧ σ 1 = .ptr id 0 ∧ k ≤ s.length ∧ (s.take k).all isHexd = true) ?_ (i := 0) ⟨rfl, rfl, rfl, Nat.zero_le _, by simp⟩
  rintro k σ h' ⟨rfl, h0, h1, hk, hal⟩
  have hlt : (s.drop k).length = s.length - k := by simp
  rcases Nat.lt_or_ge k s.length with hlt2 | hge
  · obtain ⟨x, hx⟩ : ∃ x, s[k]? = some x := ⟨_, List.getElem?_eq_getElem hlt2⟩
    have hx2 : (s.drop k)[0]? = some x := by rw [List.getElem?_drop]; exact hx
    have htk : ((s.drop k).take (s.drop k).length).drop 1 = s.drop (k + 1) := by rw [List.take_length, List.drop_drop]
    rw [hlt] at htk
    generalize ht : s.drop k = t at h0 hlt hx2 htk
    cases hxx : isHexd x with
    | true =>
      repeat' (first
    | ((with_reducible apply opsF.op rfl); (case hs => (first | exact tHT | exact tHS)))
    | with_reducible (first | apply opsF.nil | apply seqF.nn | apply vcF.seq | apply vcF.region | apply vcF.dregion | apply vcF.skip | apply vcF.block | apply vcF.exit | apply vcF.ret | apply vcF.loop | apply seqF.e | apply seqF.r | apply blkF.nn | apply blkF.e | apply blkF.r | apply blkF.o rfl | apply dopsF.nil | apply stabsF.nil | apply stabsF.cons | apply dopsF.cont)
    | ((with_reducible apply opsF.call); (case hx => exact tAG))
    | ((with_reducible apply opsF.want); (case hg => exact tEV); (case hb => exact tNB))
    | ((with_reducible apply opsF.skip); (case hg => exact tEV); (case hb => exact tNB))
    | (first | ((with_reducible apply opsF.case); (case hg => exact tEV)) | ((with_reducible apply vcF.cond); (case hx => exact tEV)) | ((with_reducible apply dopsF.case); (case hg => exact tEV))) <;> ((intro hc; try simp only [Int.reduceLT, Int.reduceLE, Int.reduceEq, Int.reduceNe, Int.cast_ofNat_Int, Int.reduceNeg, decide_true, decide_false, not_true_eq_false, not_false_eq_true, decide_eq_true_eq, decide_eq_false_iff_not, Bool.not_eq_true', Bool.not_eq_false', Bool.not_true, Bool.not_false, Bool.false_eq_true, Bool.true_eq_false, Bool.not_eq_true, Bool.not_eq_false, beq_iff_eq, beq_eq_false_iff_ne, bne_iff_ne, bne_eq_false_iff_eq, ne_eq, Int.not_lt, Int.not_le, ge_iff_le, gt_iff_lt, Decidable.not_not, reduceCtorEq, *] at hc) <;> (try (exfalso; omega)))
    | ((with_reducible apply opsF.und); (case hg => rfl))
    | ((with_reducible apply opsF.callv); (case hf => exact tEV); (case hx => exact tCV))
    | ((with_reducible apply dopsF.op rfl); (case hs => (first | exact tHT | exact tHS)))
    | ((with_reducible apply dopsF.call); (case hx => exact tAG))
    | ((with_reducible apply dopsF.want); (case hg => exact tEV); (case hb => exact tNB))
    | ((with_reducible apply dopsF.skip); (case hg => exact tEV); (case hb => exact tNB))
    | ((with_reducible apply dopsF.und); (case hg => rfl))
    | ((with_reducible apply stabF.und); rfl)
    | ((with_reducible apply stabF.want); (case hg => exact tEV); (case hb => exact tNB))
    | ((with_reducible apply stabF.skip); (case hg => exact tEV); (case hb => exact tNB))
    | ((with_reducible apply stabF.op); (case hs => (first | exact tHT | exact tHS)); (case hv => exact tSV))
    | ((with_reducible apply retF.r); (case hv => exact tRS))
    | ((with_reducible apply retF.nn); (case hv => exact tRS))
    | ((refine (has_call id x _ ho).mono fun v h' hp => ?_); rw [hxx] at hp; obtain ⟨rfl, rfl⟩ := hp))
      refine ⟨k + 1, by omega, rfl, rfl, h1, by omega, ?_⟩
      rw [List.take_add_one, hx, List.all_append, hal]
      simp [hxx]
    | false =>
      repeat' (first
    | ((with_reducible apply opsF.op rfl); (case hs => (first | exact tHT | exact tHS)))
    | with_reducible (first | apply opsF.nil | apply seqF.nn | apply vcF.seq | apply vcF.region | apply vcF.dregion | apply vcF.skip | apply vcF.block | apply vcF.exit | apply vcF.ret | apply vcF.loop | apply seqF.e | apply seqF.r | apply blkF.nn | apply blkF.e | apply blkF.r | apply blkF.o rfl | apply dopsF.nil | apply stabsF.nil | apply stabsF.cons | apply dopsF.cont)
    | ((with_reducible apply opsF.call); (case hx => exact tAG))
    | ((with_reducible apply opsF.want); (case hg => exact tEV); (case hb => exact tNB))
    | ((with_reducible apply opsF.skip); (case hg => exact tEV); (case hb => exact tNB))
    | (first | ((with_reducible apply opsF.case); (case hg => exact tEV)) | ((with_reducible apply vcF.cond); (case hx => exact tEV)) | ((with_reducible apply dopsF.case); (case hg => exact tEV))) <;> ((intro hc; try simp only [Int.reduceLT, Int.reduceLE, Int.reduceEq, Int.reduceNe, Int.cast_ofNat_Int, Int.reduceNeg, decide_true, decide_false, not_true_eq_false, not_false_eq_true, decide_eq_true_eq, decide_eq_false_iff_not, Bool.not_eq_true', Bool.not_eq_false', Bool.not_true, Bool.not_false, Bool.false_eq_true, Bool.true_eq_false, Bool.not_eq_true, Bool.not_eq_false, beq_iff_eq, beq_eq_false_iff_ne, bne_iff_ne, bne_eq_false_iff_eq, ne_eq, Int.not_lt, Int.not_le, ge_iff_le, gt_iff_lt, Decidable.not_not, reduceCtorEq, *] at hc) <;> (try (exfalso; omega)))
    | ((with_reducible apply opsF.und); (case hg => rfl))
    | ((with_reducible apply opsF.callv); (case hf => exact tEV); (case hx => exact tCV))
    | ((with_reducible apply dopsF.op rfl); (case hs => (first | exact tHT | exact tHS)))
    | ((with_reducible apply dopsF.call); (case hx => exact tAG))
    | ((with_reducible apply dopsF.want); (case hg => exact tEV); (case hb => exact tNB))
    | ((with_reducible apply dopsF.skip); (case hg => exact tEV); (case hb => exact tNB))
    | ((with_reducible apply dopsF.und); (case hg => rfl))
    | ((with_reducible apply stabF.und); rfl)
    | ((with_reducible apply stabF.want); (case hg => exact tEV); (case hb => exact tNB))
    | ((with_reducible apply stabF.skip); (case hg => exact tEV); (case hb => exact tNB))
    | ((with_reducible apply stabF.op); (case hs => (first | exact tHT | exact tHS)); (case hv => exact tSV))
    | ((with_reducible apply retF.r); (case hv => exact tRS))
    | ((with_reducible apply retF.nn); (case hv => exact tRS))
    | ((refine (has_call id x _ ho).mono fun v h' hp => ?_); rw [hxx] at hp; obtain ⟨rfl, rfl⟩ := hp))
      exact ⟨⟨k, by rw [ht], hk, hal, .inr ⟨x, hx, hxx⟩⟩, rfl⟩
  · obtain rfl : k = s.length := by omega
    have ht0 : s.drop s.length = [] := List.drop_length
    rw [ht0] at h0
    repeat' (first
    | ((with_reducible apply opsF.op rfl); (case hs => (first | exact tHT | exact tHS)))
    | with_reducible (first | apply opsF.nil | apply seqF.nn | apply vcF.seq | apply vcF.region | apply vcF.dregion | apply vcF.skip | apply vcF.block | apply vcF.exit | apply vcF.ret | apply vcF.loop | apply seqF.e | apply seqF.r | apply blkF.nn | apply blkF.e | apply blkF.r | apply blkF.o rfl | apply dopsF.nil | apply stabsF.nil | apply stabsF.cons | apply dopsF.cont)
    | ((with_reducible apply opsF.call); (case hx => exact tAG))
    | ((with_reducible apply opsF.want); (case hg => exact tEV); (case hb => exact tNB))
    | ((with_reducible apply opsF.skip); (case hg => exact tEV); (case hb => exact tNB))
    | (first | ((with_reducible apply opsF.case); (case hg => exact tEV)) | ((with_reducible apply vcF.cond); (case hx => exact tEV)) | ((with_reducible apply dopsF.case); (case hg => exact tEV))) <;> ((intro hc; try simp only [Int.reduceLT, Int.reduceLE, Int.reduceEq, Int.reduceNe, Int.cast_ofNat_Int, Int.reduceNeg, decide_true, decide_false, not_true_eq_false, not_false_eq_true, decide_eq_true_eq, decide_eq_false_iff_not, Bool.not_eq_true', Bool.not_eq_false', Bool.not_true, Bool.not_false, Bool.false_eq_true, Bool.true_eq_false, Bool.not_eq_true, Bool.not_eq_false, beq_iff_eq, beq_eq_false_iff_ne, bne_iff_ne, bne_eq_false_iff_eq, ne_eq, Int.not_lt, Int.not_le, ge_iff_le, gt_iff_lt, Decidable.not_not, reduceCtorEq, *] at hc) <;> (try (exfalso; omega)))
    | ((with_reducible apply opsF.und); (case hg => rfl))
    | ((with_reducible apply opsF.callv); (case hf => exact tEV); (case hx => exact tCV))
    | ((with_reducible apply dopsF.op rfl); (case hs => (first | exact tHT | exact tHS)))
    | ((with_reducible apply dopsF.call); (case hx => exact tAG))
    | ((with_reducible apply dopsF.want); (case hg => exact tEV); (case hb => exact tNB))
    | ((with_reducible apply dopsF.skip); (case hg => exact tEV); (case hb => exact tNB))
    | ((with_reducible apply dopsF.und); (case hg => rfl))
    | ((with_reducible apply stabF.und); rfl)
    | ((with_reducible apply stabF.want); (case hg => exact tEV); (case hb => exact tNB))
    | ((with_reducible apply stabF.skip); (case hg => exact tEV); (case hb => exact tNB))
    | ((with_reducible apply stabF.op); (case hs => (first | exact tHT | exact tHS)); (case hv => exact tSV))
    | ((with_reducible apply retF.r); (case hv => exact tRS))
    | ((with_reducible apply retF.nn); (case hv => exact tRS)))
    exact ⟨⟨s.length, by rw [ht0], Nat.le_refl _, hal, .inl rfl⟩, rfl⟩
theorem trim_iff {s : List UInt8} {k j : Nat} (hk : k ≤ s.length) (hd : (s.drop k).all isHexd = true) (he : k = 0 ∨ ∃ x, s[k - 1]? = some x ∧ isHexd x = false) (hj : j ≤ (s.take k).length) (ht : ((s.take k).take j).all isHexd = true)
    (hf : j = (s.take k).length ∨ ∃ x, (s.take k)[j]? = some x ∧ isHexd x = false) : ((s.take k).drop j = [] ↔ s.all isHexd = true) := by
  have hlt : (s.take k).length = k := by simp; omega
  constructor
  · intro hn
    have hjk : k ≤ j := by rw [List.drop_eq_nil_iff, hlt] at hn; exact hn
    rcases he with rfl | ⟨x, hx, hxx⟩
    · simpa using hd
    · exfalso
      by_cases hk0 : k = 0
      · subst hk0
        rw [List.take_zero, List.take_nil] at ht
        simp only [List.drop_zero] at hd
        have := List.all_eq_true.1 hd x (List.mem_of_getElem? hx)
        rw [hxx] at this
        cases this
      · rw [List.take_of_length_le (by omega)] at ht
        have hx2 : (s.take k)[k - 1]? = some x := by rw [List.getElem?_take_of_lt (by omega)]; exact hx
        have := List.all_eq_true.1 ht x (List.mem_of_getElem? hx2)
        rw [hxx] at this
        cases this
  · intro ha
    have hall : ∀ x ∈ s, isHexd x = true := List.all_eq_true.1 ha
    rcases hf with rfl | ⟨x, hx, hxx⟩
    · simp
    · have := hall x (List.mem_of_mem_take (List.mem_of_getElem? hx))
      rw [hxx] at this
      cases this
noncomputable def c_tr (z : List AV) : IC := .seq (.region [⟨some 4, .mv (.cst (.v (.string (bs [])))), none⟩]) (.seq (.seq (.region [⟨some 7, .mv (.tmp 0), none⟩, ⟨some 8, .bin .eql .other (.tmp 7) (.cst (.v (.string (bs [])))), none⟩, ⟨some 9, .mv (.tmp 8), none⟩, ⟨some 10, .mv (.tmp 1), some (9, .false)⟩, ⟨some 11, .bin .eql .other (.tmp 10) (.cst (.v (.string (bs [])))), some (9, .false)⟩, ⟨some 12, .pick (.tmp 9) (.cst (.v (.bool .true))) (.tmp 11), none⟩]) (.cond (.tmp 12) (.seq (.region [⟨some 13, .mv (.tmp 0), none⟩, ⟨some 4, .mv (.tmp 13), none⟩]) .ret) .skip)) (.seq (.seq (.region [⟨some 14, .mv (.tmp 1), none⟩, ⟨some 15, .len .str (.tmp 14), none⟩, ⟨some 16, .bin .eql .other (.tmp 15) (.cst (.v (.int .i64 1))), none⟩, ⟨some 17, .mv (.tmp 16), none⟩, ⟨some 18, .mv (.tmp 1), some (17, .true)⟩, ⟨some 19, .ixS (.tmp 18) (.cst (.v (.int .i64 0))), some (17, .true)⟩, ⟨some 20, .bin .lss .other (.tmp 19) (.cst (.v (.int .u8 128))), some (17, .true)⟩, ⟨some 21, .pick (.tmp 17) (.tmp 20) (.cst (.v (.bool .false))), none⟩]) (.cond (.tmp 21) (.seq (.region [⟨some 22, .mv (.tmp 0), none⟩, ⟨some 23, .mv (.tmp 1), none⟩, ⟨some 24, .ixS (.tmp 23) (.cst (.v (.int .i64 0))), none⟩, ⟨some 26, .mv (.tmp 1), none⟩, ⟨some 27, .ixS (.tmp 26) (.cst (.v (.int .i64 0))), none⟩, ⟨some 25, .call strings_trimRightByte [.tmp 22, .tmp 24], none⟩, ⟨some 28, .call strings_trimLeftByte [.tmp 25, .tmp 27], none⟩, ⟨some 4, .mv (.tmp 28), none⟩]) .ret) .skip)) (.seq (.seq (.region [⟨some 30, .mv (.tmp 1), none⟩, ⟨some 31, .call strings_makeASCIISet [.tmp 30], none⟩, ⟨some 29, .mv (.tmp 31), none⟩, ⟨some 32, .ext (.tmp 29) 0, none⟩, ⟨some 33, .ext (.tmp 29) 1, none⟩, ⟨some 5, .new z, none⟩, ⟨none, .store (.tmp 5) (.tmp 32) 256, none⟩, ⟨some 6, .mv (.tmp 33), none⟩]) (.seq (.region [⟨some 34, .mv (.tmp 6), none⟩]) (.cond (.tmp 34) (.seq (.region [⟨some 35, .mv (.tmp 0), none⟩, ⟨some 36, .call strings_trimRightASCII [.tmp 35, .tmp 5], none⟩, ⟨some 37, .call strings_trimLeftASCII [.tmp 36, .tmp 5], none⟩, ⟨some 4, .mv (.tmp 37), none⟩]) .ret) .skip))) (.seq (.region [⟨some 38, .mv (.tmp 0), none⟩, ⟨some 39, .mv (.tmp 1), none⟩, ⟨some 40, .call strings_trimRightUnicode [.tmp 38, .tmp 39], none⟩, ⟨some 41, .mv (.tmp 1), none⟩, ⟨some 42, .call strings_trimLeftUnicode [.tmp 40, .tmp 41], none⟩, ⟨some 4, .mv (.tmp 42), none⟩]) .ret))))
theorem b_tr : HasBody P strings_Trim 43 (c_tr (List.replicate 256 (.v (.bool false)))) [.tmp 4] := (show c_strings_Trim = c_tr (List.replicate 256 (.v (.bool false))) by kernel_rfl) ▸ b_strings_Trim
theorem trim_gen (z : List AV) (hz : z.length = 256) (s : List UInt8) (h : AH) (hl : s.length ≤ 9000000000000000000) : vcF P w0 43 (c_tr z) (retF [.tmp 4] fun v h' => (∃ t, v = .v (.string (bs t)) ∧ (t = [] ↔ s.all isHexd = true)) ∧ Ext h h') (argF [.v (.string (bs s)), .v (.string (bs digsL))]) h := by
  have hwr : wrL z 0 asL = asL := wrL_all (by rw [asL_len, hz])
  have hdl : digsL.length = 16 := rfl
  have hdn : digsL ≠ [] := by decide
  have hal := asL_len
  have hms := mkset_call (w0 := w0)
  have hR := trimR_call (w0 := w0)
  have hL := trimL_call (w0 := w0)
  have hsc : scells (.agg asL) = some asL := rfl
  generalize asL = S at *
  generalize digsL = D at *
  unfold c_tr
  cases s with
  | nil =>
    repeat' (first
    | ((with_reducible apply opsF.op rfl); (case hs => (first | exact tHT | exact tHS)))
    | with_reducible (first | apply opsF.nil | apply seqF.nn | apply vcF.seq | apply vcF.region | apply vcF.dregion | apply vcF.skip | apply vcF.block | apply vcF.exit | apply vcF.ret | apply vcF.loop | apply seqF.e | apply seqF.r | apply blkF.nn | apply blkF.e | apply blkF.r | apply blkF.o rfl | apply dopsF.nil | apply stabsF.nil | apply stabsF.cons | apply dopsF.cont)
    | ((with_reducible apply opsF.call); (case hx => exact tAG))
    | ((with_reducible apply opsF.want); (case hg => exact tEV); (case hb => exact tNB))
    | ((with_reducible apply opsF.skip); (case hg => exact tEV); (case hb => exact tNB))
    | (first | ((with_reducible apply opsF.case); (case hg => exact tEV)) | ((with_reducible apply vcF.cond); (case hx => exact tEV)) | ((with_reducible apply dopsF.case); (case hg => exact tEV))) <;> ((intro hc; try simp only [Int.reduceLT, Int.reduceLE, Int.reduceEq, Int.reduceNe, Int.cast_ofNat_Int, Int.reduceNeg, decide_true, decide_false, not_true_eq_false, not_false_eq_true, decide_eq_true_eq, decide_eq_false_iff_not, Bool.not_eq_true', Bool.not_eq_false', Bool.not_true, Bool.not_false, Bool.false_eq_true, Bool.true_eq_false, Bool.not_eq_true, Bool.not_eq_false, beq_iff_eq, beq_eq_false_iff_ne, bne_iff_ne, bne_eq_false_iff_eq, ne_eq, Int.not_lt, Int.not_le, ge_iff_le, gt_iff_lt, Decidable.not_not, reduceCtorEq, *] at hc) <;> (try (exfalso; omega)))
    | ((with_reducible apply opsF.und); (case hg => rfl))
    | ((with_reducible apply opsF.callv); (case hf => exact tEV); (case hx => exact tCV))
    | ((with_reducible apply dopsF.op rfl); (case hs => (first | exact tHT | exact tHS)))
    | ((with_reducible apply dopsF.call); (case hx => exact tAG))
    | ((with_reducible apply dopsF.want); (case hg => exact tEV); (case hb => exact tNB))
    | ((with_reducible apply dopsF.skip); (case hg => exact tEV); (case hb => exact tNB))
    | ((with_reducible apply dopsF.und); (case hg => rfl))
    | ((with_reducible apply stabF.und); rfl)
    | ((with_reducible apply stabF.want); (case hg => exact tEV); (case hb => exact tNB))
    | ((with_reducible apply stabF.skip); (case hg => exact tEV); (case hb => exact tNB))
    | ((with_reducible apply stabF.op); (case hs => (first | exact tHT | exact tHS)); (case hv => exact tSV))
    | ((with_reducible apply retF.r); (case hv => exact tRS))
    | ((with_reducible apply retF.nn); (case hv => exact tRS)))
    exact ⟨⟨[], rfl, by simp⟩, .refl _⟩
  | cons y r =>
    generalize hs : y :: r = s at *
    have hsne : s ≠ [] := by rw [← hs]; simp
    clear hs
    repeat' (first
    | ((with_reducible apply opsF.op rfl); (case hs => (first | exact tHT | exact tHS)))
    | with_reducible (first | apply opsF.nil | apply seqF.nn | apply vcF.seq | apply vcF.region | apply vcF.dregion | apply vcF.skip | apply vcF.block | apply vcF.exit | apply vcF.ret | apply vcF.loop | apply seqF.e | apply seqF.r | apply blkF.nn | apply blkF.e | apply blkF.r | apply blkF.o rfl | apply dopsF.nil | apply stabsF.nil | apply stabsF.cons | apply dopsF.cont)
    | ((with_reducible apply opsF.call); (case hx => exact tAG))
    | ((with_reducible apply opsF.want); (case hg => exact tEV); (case hb => exact tNB))
    | ((with_reducible apply opsF.skip); (case hg => exact tEV); (case hb => exact tNB))
    | (first | ((with_reducible apply opsF.case); (case hg => exact tEV)) | ((with_reducible apply vcF.cond); (case hx => exact tEV)) | ((with_reducible apply dopsF.case); (case hg => exact tEV))) <;> ((intro hc; try simp only [Int.reduceLT, Int.reduceLE, Int.reduceEq, Int.reduceNe, Int.cast_ofNat_Int, Int.reduceNeg, decide_true, decide_false, not_true_eq_false, not_false_eq_true, decide_eq_true_eq, decide_eq_false_iff_not, Bool.not_eq_true', Bool.not_eq_false', Bool.not_true, Bool.not_false, Bool.false_eq_true, Bool.true_eq_false, Bool.not_eq_true, Bool.not_eq_false, beq_iff_eq, beq_eq_false_iff_ne, bne_iff_ne, bne_eq_false_iff_eq, ne_eq, Int.not_lt, Int.not_le, ge_iff_le, gt_iff_lt, Decidable.not_not, reduceCtorEq, *] at hc) <;> (try (exfalso; omega)))
    | ((with_reducible apply opsF.und); (case hg => rfl))
    | ((with_reducible apply opsF.callv); (case hf => exact tEV); (case hx => exact tCV))
    | ((with_reducible apply dopsF.op rfl); (case hs => (first | exact tHT | exact tHS)))
    | ((with_reducible apply dopsF.call); (case hx => exact tAG))
    | ((with_reducible apply dopsF.want); (case hg => exact tEV); (case hb => exact tNB))
    | ((with_reducible apply dopsF.skip); (case hg => exact tEV); (case hb => exact tNB))
    | ((with_reducible apply dopsF.und); (case hg => rfl))
    | ((with_reducible apply stabF.und); rfl)
    | ((with_reducible apply stabF.want); (case hg => exact tEV); (case hb => exact tNB))
    | ((with_reducible apply stabF.skip); (case hg => exact tEV); (case hb => exact tNB))
    | ((with_reducible apply stabF.op); (case hs => (first | exact tHT | exact tHS)); (case hv => exact tSV))
    | ((with_reducible apply retF.r); (case hv => exact tRS))
    | ((with_reducible apply retF.nn); (case hv => exact tRS))
    | ((refine (hms _).mono fun v h' hp => ?_); obtain ⟨rfl, rfl⟩ := hp)
    | ((with_reducible apply opsF.op rfl); (case hs => exact is_store tEV tEV hsc (by simp [alloc_at]) (by omega) hwr))
    | ((refine (hR _ s _ (by rw [hwr]; simp [set_at]) hl).mono fun v h1 hp => ?_); obtain ⟨⟨k, rfl, hk1, hk2, hk3⟩, rfl⟩ := hp)
    | ((refine (hL _ (s.take k) _ (by rw [hwr]; simp [set_at]) (by simp; omega)).mono fun v h1 hp => ?_); obtain ⟨⟨j, rfl, hj1, hj2, hj3⟩, rfl⟩ := hp))
    exact ⟨⟨_, rfl, trim_iff hk1 hk2 hk3 hj1 hj2 hj3⟩, (Ext.alloc _ _).set (Nat.le_refl _) _⟩
theorem trim_call (s : List UInt8) (h : AH) (hl : s.length ≤ 9000000000000000000) : Call P w0 strings_Trim [.v (.string (bs s)), .v (.string (bs digsL))] h (fun v h' => (∃ t, v = .v (.string (bs t)) ∧ (t = [] ↔ s.all isHexd = true)) ∧ Ext h h') :=
  Call.bodyF b_tr rfl (by kernel_rfl) (trim_gen _ (by simp) s h hl)
end Go.Abs.F
