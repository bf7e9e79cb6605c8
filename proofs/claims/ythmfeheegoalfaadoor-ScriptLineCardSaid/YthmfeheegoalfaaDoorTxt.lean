/- Layer 26: the texts of steps, steps, read by the program. -/
import Derived.Test.YthmfeheegoalfaaDoorPux
namespace Go.Abs.F
open Go Go.Abs
set_option maxRecDepth 10000
set_option maxHeartbeats 20000000
set_option linter.unusedSimpArgs false
set_option linter.unusedVariables false
variable {w0 : World}
def textV (s : List UInt8) : AV := match textO s with
  | some t => .tup [.v (.string (bs t)), .v (.bool true)]
  | none => .tup [.v (.string (bs [])), .v (.bool false)]
theorem textV_none {s : List UInt8} (h : textO s = none) : textV s = .tup [.v (.string (bs [])), .v (.bool false)] := by rw [textV, h]
theorem textV_some {s t : List UInt8} (h : textO s = some t) : textV s = .tup [.v (.string (bs t)), .v (.bool true)] := by rw [textV, h]
theorem len_rem {n : Nat} : Int.tmod (n : Int) 2 = ((n % 2 : Nat) : Int) := by rw [Int.tmod_eq_emod_of_nonneg (by omega)]; rfl
theorem text_call (s : List UInt8) (h : AH) (hl : s.length ≤ 1000000000000) : Call P w0 script_text [.v (.string (bs s))] h (fun v h' => v = textV s ∧ Ext h h') := by
  have xl := brows_len
  refine Call.bodyF b_script_text rfl rfl ?_
  unfold c_script_text
  by_cases hc0 : s.head? = some 120
  · obtain ⟨r, rfl⟩ : ∃ r, s = 120 :: r := by
      cases s with
      | nil => cases hc0
      | cons x r =>
        simp only [List.head?_cons, Option.some.injEq] at hc0
        exact ⟨r, by rw [hc0]⟩
    have htl : (120 :: r : List UInt8).tail = r := rfl
    have hrl : r.length ≤ 1000000000000 := by simp at hl; omega
    have hle : (120 :: r : List UInt8).length ≤ 9000000000000000000 := by simp; omega
    have hq := len_rem (n := r.length)
    have hcut := fun h => cutP_call (w0 := w0) (120 :: r) 120 h hle
    simp only [if_pos hc0, htl] at hcut
    have htr := fun h => trim_call (w0 := w0) r h (by omega)
    by_cases hm : r.length % 2 = 0
    · rw [hm] at hq
      cases hal : r.all isHexd with
      | false =>
        have hno : textO (120 :: r) = none := by rw [textO, if_neg (by rintro ⟨_, _, h3⟩; rw [hal] at h3; cases h3)]
        rw [textV_none hno]
        repeat' (first
    | ((with_reducible apply opsF.op rfl); (case hs => (first | exact tHT | exact tHS)))
    | with_reducible (first | apply opsF.nil | apply seqF.nn | apply vcF.seq | apply vcF.region | apply vcF.dregion | apply vcF.skip | apply vcF.block | apply vcF.exit | apply vcF.ret | apply vcF.loop | apply seqF.e | apply seqF.r | apply blkF.nn | apply blkF.e | apply blkF.r | apply blkF.o rfl | apply dopsF.nil | apply stabsF.nil | apply stabsF.cons | apply dopsF.cont)
    | ((with_reducible apply opsF.call); (case hx => exact tAG))
    | ((with_reducible apply opsF.want); (case hg => exact tEV); (case hb => exact tNB))
    | ((with_reducible apply opsF.skip); (case hg => exact tEV); (case hb => exact tNB))
    | (first | ((with_reducible apply opsF.case); (case hg => exact tEV)) | ((with_reducible apply vcF.cond); (case hx => exact tEV)) | ((with_reducible apply dopsF.case); (case hg => exact tEV))) <;> ((intro hc; try simp only [Int.reduceLT, Int.reduceLE, Int.reduceEq, Int.reduceNe, Int.cast_ofNat_Int, Int.reduceNeg, decide_true, decide_false, not_true_eq_false, not_false_eq_true, decide_eq_true_eq, decide_eq_false_iff_not, Bool.not_eq_true', Bool.not_eq_false', Bool.not_true, Bool.not_false, Bool.false_eq_true, Bool.true_eq_false, Bool.not_eq_true, Bool.not_eq_false, beq_iff_eq, beq_eq_false_iff_ne, bne_iff_ne, bne_eq_false_iff_eq, ne_eq, Int.not_lt, Int.not_le, ge_iff_le, gt_iff_lt, Decidable.not_not, reduceCtorEq, *] at hc) <;> (try (exfalso; omega)))
    | ((with_reducible apply opsF.und); (case hg => rfl))
    | ((with_reducible apply opsF.callv); (case hf => exact tEV); (case hx => exact tCV))
    | ((with_reducible apply dopsF.op rfl); (case hs => (first | exact tHT | exact tHS)))
    | ((with_reducible apply dopsF.call); (case hx => exact tAG))
    | ((with_reducible apply dopsF.want); (case hg => exact tEV); (case hb => exact tNB))
    | ((with_reducible apply dopsF.skip); (case hg => exact tEV); (case hb => exact tNB))
    | ((with_reducible apply dopsF.und); (case hg => rfl))
    | ((with_reducible apply stabF.und); rfl)
    | ((with_reducible apply stabF.want); (case hg => exact tEV); (case hb => exact tNB))
    | ((with_reducible apply stabF.skip); (case hg => exact tEV); (case hb => exact tNB))
    | ((with_reducible apply stabF.op); (case hs => (first | exact tHT | exact tHS)); (case hv => exact tSV))
    | ((with_reducible apply retF.r); (case hv => exact tRS))
    | ((with_reducible apply retF.nn); (case hv => exact tRS))
    | ((refine (hcut _).mono fun v h' hp => ?_); obtain ⟨rfl, rfl⟩ := hp)
    | ((refine (htr _).mono fun v h2 hp => ?_); obtain ⟨⟨t, rfl, ht⟩, he⟩ := hp; have htn : t ≠ [] := (fun e => by have := ht.1 e; rw [hal] at this; cases this)))
        all_goals exact ⟨rfl, he⟩
      | true =>
        have hno : textO (120 :: r) = some (unhex r) := by rw [textO, if_pos ⟨rfl, hm, hal⟩]
        rw [textV_some hno]
        repeat' (first
    | ((with_reducible apply opsF.op rfl); (case hs => (first | exact tHT | exact tHS)))
    | with_reducible (first | apply opsF.nil | apply seqF.nn | apply vcF.seq | apply vcF.region | apply vcF.dregion | apply vcF.skip | apply vcF.block | apply vcF.exit | apply vcF.ret | apply vcF.loop | apply seqF.e | apply seqF.r | apply blkF.nn | apply blkF.e | apply blkF.r | apply blkF.o rfl | apply dopsF.nil | apply stabsF.nil | apply stabsF.cons | apply dopsF.cont)
    | ((with_reducible apply opsF.call); (case hx => exact tAG))
    | ((with_reducible apply opsF.want); (case hg => exact tEV); (case hb => exact tNB))
    | ((with_reducible apply opsF.skip); (case hg => exact tEV); (case hb => exact tNB))
    | (first | ((with_reducible apply opsF.case); (case hg => exact tEV)) | ((with_reducible apply vcF.cond); (case hx => exact tEV)) | ((with_reducible apply dopsF.case); (case hg => exact tEV))) <;> ((intro hc; try simp only [Int.reduceLT, Int.reduceLE, Int.reduceEq, Int.reduceNe, Int.cast_ofNat_Int, Int.reduceNeg, decide_true, decide_false, not_true_eq_false, not_false_eq_true, decide_eq_true_eq, decide_eq_false_iff_not, Bool.not_eq_true', Bool.not_eq_false', Bool.not_true, Bool.not_false, Bool.false_eq_true, Bool.true_eq_false, Bool.not_eq_true, Bool.not_eq_false, beq_iff_eq, beq_eq_false_iff_ne, bne_iff_ne, bne_eq_false_iff_eq, ne_eq, Int.not_lt, Int.not_le, ge_iff_le, gt_iff_lt, Decidable.not_not, reduceCtorEq, *] at hc) <;> (try (exfalso; omega)))
    | ((with_reducible apply opsF.und); (case hg => rfl))
    | ((with_reducible apply opsF.callv); (case hf => exact tEV); (case hx => exact tCV))
    | ((with_reducible apply dopsF.op rfl); (case hs => (first | exact tHT | exact tHS)))
    | ((with_reducible apply dopsF.call); (case hx => exact tAG))
    | ((with_reducible apply dopsF.want); (case hg => exact tEV); (case hb => exact tNB))
    | ((with_reducible apply dopsF.skip); (case hg => exact tEV); (case hb => exact tNB))
    | ((with_reducible apply dopsF.und); (case hg => rfl))
    | ((with_reducible apply stabF.und); rfl)
    | ((with_reducible apply stabF.want); (case hg => exact tEV); (case hb => exact tNB))
    | ((with_reducible apply stabF.skip); (case hg => exact tEV); (case hb => exact tNB))
    | ((with_reducible apply stabF.op); (case hs => (first | exact tHT | exact tHS)); (case hv => exact tSV))
    | ((with_reducible apply retF.r); (case hv => exact tRS))
    | ((with_reducible apply retF.nn); (case hv => exact tRS))
    | ((refine (hcut _).mono fun v h' hp => ?_); obtain ⟨rfl, rfl⟩ := hp)
    | ((refine (htr _).mono fun v h2 hp => ?_); obtain ⟨⟨t, rfl, ht⟩, he⟩ := hp; obtain rfl : t = [] := ht.2 hal))
        refine LpF.ind rfl (fun i : Nat => r.length - 2 * i) (fun i σ hh => ∃ (q out : List UInt8) (tk : Tok), Ext h' hh ∧ σ 0 = .v (.string (bs q)) ∧ σ 5 = .list 1 (brows out) tk ∧ TokU hh tk ∧ (∀ t, tk.owner = some t → h'.nt ≤ t) ∧ q.all isHexd = true ∧ q.length + 2 * i = r.length ∧ out.length = i ∧ unhex r = out ++ unhex q) ?_ (i := 0) ⟨r, [], .full, he, rfl, rfl, trivial, (fun t ht => by cases ht), hal, rfl, rfl, rfl⟩
        rintro i σ hh ⟨q, out, tk, hE, h0, h5, hT, hF, hqa, hql, ho, hS⟩
        rcases q with _ | ⟨a, _ | ⟨b, q⟩⟩
        · repeat' (first
    | ((with_reducible apply opsF.op rfl); (case hs => (first | exact tHT | exact tHS)))
    | with_reducible (first | apply opsF.nil | apply seqF.nn | apply vcF.seq | apply vcF.region | apply vcF.dregion | apply vcF.skip | apply vcF.block | apply vcF.exit | apply vcF.ret | apply vcF.loop | apply seqF.e | apply seqF.r | apply blkF.nn | apply blkF.e | apply blkF.r | apply blkF.o rfl | apply dopsF.nil | apply stabsF.nil | apply stabsF.cons | apply dopsF.cont)
    | ((with_reducible apply opsF.call); (case hx => exact tAG))
    | ((with_reducible apply opsF.want); (case hg => exact tEV); (case hb => exact tNB))
    | ((with_reducible apply opsF.skip); (case hg => exact tEV); (case hb => exact tNB))
    | (first | ((with_reducible apply opsF.case); (case hg => exact tEV)) | ((with_reducible apply vcF.cond); (case hx => exact tEV)) | ((with_reducible apply dopsF.case); (case hg => exact tEV))) <;> ((intro hc; try simp only [Int.reduceLT, Int.reduceLE, Int.reduceEq, Int.reduceNe, Int.cast_ofNat_Int, Int.reduceNeg, decide_true, decide_false, not_true_eq_false, not_false_eq_true, decide_eq_true_eq, decide_eq_false_iff_not, Bool.not_eq_true', Bool.not_eq_false', Bool.not_true, Bool.not_false, Bool.false_eq_true, Bool.true_eq_false, Bool.not_eq_true, Bool.not_eq_false, beq_iff_eq, beq_eq_false_iff_ne, bne_iff_ne, bne_eq_false_iff_eq, ne_eq, Int.not_lt, Int.not_le, ge_iff_le, gt_iff_lt, Decidable.not_not, reduceCtorEq, *] at hc) <;> (try (exfalso; omega)))
    | ((with_reducible apply opsF.und); (case hg => rfl))
    | ((with_reducible apply opsF.callv); (case hf => exact tEV); (case hx => exact tCV))
    | ((with_reducible apply dopsF.op rfl); (case hs => (first | exact tHT | exact tHS)))
    | ((with_reducible apply dopsF.call); (case hx => exact tAG))
    | ((with_reducible apply dopsF.want); (case hg => exact tEV); (case hb => exact tNB))
    | ((with_reducible apply dopsF.skip); (case hg => exact tEV); (case hb => exact tNB))
    | ((with_reducible apply dopsF.und); (case hg => rfl))
    | ((with_reducible apply stabF.und); rfl)
    | ((with_reducible apply stabF.want); (case hg => exact tEV); (case hb => exact tNB))
    | ((with_reducible apply stabF.skip); (case hg => exact tEV); (case hb => exact tNB))
    | ((with_reducible apply stabF.op); (case hs => (first | exact tHT | exact tHS)); (case hv => exact tSV))
    | ((with_reducible apply retF.r); (case hv => exact tRS))
    | ((with_reducible apply retF.nn); (case hv => exact tRS)))
          refine ⟨?_, hE⟩
          rw [hS]
          simp [unhex]
        · simp at hql; omega
        · simp only [List.all_cons, Bool.and_eq_true] at hqa
          obtain ⟨ha, hb, hqa⟩ := hqa
          have hsn : (a :: b :: q) ≠ [] := by simp
          have hsl : (a :: b :: q).length = q.length + 2 := rfl
          have htk : ((a :: b :: q).take 2).drop 0 = [a, b] := rfl
          have hdr : ((a :: b :: q).take (q.length + 2)).drop 2 = q := by rw [← hsl, List.take_length]; rfl
          have hun : unhex (a :: b :: q) = UInt8.ofNat (unhexd a * 16 + unhexd b) :: unhex q := rfl
          have hub := unhexd_lt ha
          have hub2 := unhexd_lt hb
          rw [hun] at hS
          rw [hsl] at hql
          generalize a :: b :: q = s at h0 hsn hsl htk hdr
          generalize hn : unhexd a * 16 + unhexd b = n at *
          have hnl : n < 256 := by omega
          obtain ⟨tk1, h3, hap, hT2, hT3, hT4, hT5, hT6⟩ := hT.app
          repeat' (first
    | ((with_reducible apply opsF.op rfl); (case hs => (first | exact tHT | exact tHS)))
    | with_reducible (first | apply opsF.nil | apply seqF.nn | apply vcF.seq | apply vcF.region | apply vcF.dregion | apply vcF.skip | apply vcF.block | apply vcF.exit | apply vcF.ret | apply vcF.loop | apply seqF.e | apply seqF.r | apply blkF.nn | apply blkF.e | apply blkF.r | apply blkF.o rfl | apply dopsF.nil | apply stabsF.nil | apply stabsF.cons | apply dopsF.cont)
    | ((with_reducible apply opsF.call); (case hx => exact tAG))
    | ((with_reducible apply opsF.want); (case hg => exact tEV); (case hb => exact tNB))
    | ((with_reducible apply opsF.skip); (case hg => exact tEV); (case hb => exact tNB))
    | (first | ((with_reducible apply opsF.case); (case hg => exact tEV)) | ((with_reducible apply vcF.cond); (case hx => exact tEV)) | ((with_reducible apply dopsF.case); (case hg => exact tEV))) <;> ((intro hc; try simp only [Int.reduceLT, Int.reduceLE, Int.reduceEq, Int.reduceNe, Int.cast_ofNat_Int, Int.reduceNeg, decide_true, decide_false, not_true_eq_false, not_false_eq_true, decide_eq_true_eq, decide_eq_false_iff_not, Bool.not_eq_true', Bool.not_eq_false', Bool.not_true, Bool.not_false, Bool.false_eq_true, Bool.true_eq_false, Bool.not_eq_true, Bool.not_eq_false, beq_iff_eq, beq_eq_false_iff_ne, bne_iff_ne, bne_eq_false_iff_eq, ne_eq, Int.not_lt, Int.not_le, ge_iff_le, gt_iff_lt, Decidable.not_not, reduceCtorEq, *] at hc) <;> (try (exfalso; omega)))
    | ((with_reducible apply opsF.und); (case hg => rfl))
    | ((with_reducible apply opsF.callv); (case hf => exact tEV); (case hx => exact tCV))
    | ((with_reducible apply dopsF.op rfl); (case hs => (first | exact tHT | exact tHS)))
    | ((with_reducible apply dopsF.call); (case hx => exact tAG))
    | ((with_reducible apply dopsF.want); (case hg => exact tEV); (case hb => exact tNB))
    | ((with_reducible apply dopsF.skip); (case hg => exact tEV); (case hb => exact tNB))
    | ((with_reducible apply dopsF.und); (case hg => rfl))
    | ((with_reducible apply stabF.und); rfl)
    | ((with_reducible apply stabF.want); (case hg => exact tEV); (case hb => exact tNB))
    | ((with_reducible apply stabF.skip); (case hg => exact tEV); (case hb => exact tNB))
    | ((with_reducible apply stabF.op); (case hs => (first | exact tHT | exact tHS)); (case hv => exact tSV))
    | ((with_reducible apply retF.r); (case hv => exact tRS))
    | ((with_reducible apply retF.nn); (case hv => exact tRS))
    | ((refine (pu_call a b ha hb _).mono fun v h9 hp => ?_); rw [hn] at hp; obtain ⟨rfl, rfl⟩ := hp))
          refine ⟨i + 1, by omega, q, out ++ [UInt8.ofNat n], tk1, Ext.transX hE hT6 (fun _ x => x.elim) hF, ?_, ?_, hT2, ?_, hqa, by omega, by simp; omega, by rw [hS]; simp⟩
          · first | rfl | ((conv => lhs; whnf); rw [hdr])
          · conv => lhs; whnf
            simp [brows]
            omega
          · intro t ht
            rcases hT3 t ht with hz | hz
            · exact hF t hz
            · exact Nat.le_trans hE.nt hz
    · have hm1 : r.length % 2 = 1 := by omega
      rw [hm1] at hq
      have hno : textO (120 :: r) = none := by rw [textO, if_neg (by rintro ⟨_, h2, _⟩; exact hm h2)]
      rw [textV_none hno]
      repeat' (first
    | ((with_reducible apply opsF.op rfl); (case hs => (first | exact tHT | exact tHS)))
    | with_reducible (first | apply opsF.nil | apply seqF.nn | apply vcF.seq | apply vcF.region | apply vcF.dregion | apply vcF.skip | apply vcF.block | apply vcF.exit | apply vcF.ret | apply vcF.loop | apply seqF.e | apply seqF.r | apply blkF.nn | apply blkF.e | apply blkF.r | apply blkF.o rfl | apply dopsF.nil | apply stabsF.nil | apply stabsF.cons | apply dopsF.cont)
    | ((with_reducible apply opsF.call); (case hx => exact tAG))
    | ((with_reducible apply opsF.want); (case hg => exact tEV); (case hb => exact tNB))
    | ((with_reducible apply opsF.skip); (case hg => exact tEV); (case hb => exact tNB))
    | (first | ((with_reducible apply opsF.case); (case hg => exact tEV)) | ((with_reducible apply vcF.cond); (case hx => exact tEV)) | ((with_reducible apply dopsF.case); (case hg => exact tEV))) <;> ((intro hc; try simp only [Int.reduceLT, Int.reduceLE, Int.reduceEq, Int.reduceNe, Int.cast_ofNat_Int, Int.reduceNeg, decide_true, decide_false, not_true_eq_false, not_false_eq_true, decide_eq_true_eq, decide_eq_false_iff_not, Bool.not_eq_true', Bool.not_eq_false', Bool.not_true, Bool.not_false, Bool.false_eq_true, Bool.true_eq_false, Bool.not_eq_true, Bool.not_eq_false, beq_iff_eq, beq_eq_false_iff_ne, bne_iff_ne, bne_eq_false_iff_eq, ne_eq, Int.not_lt, Int.not_le, ge_iff_le, gt_iff_lt, Decidable.not_not, reduceCtorEq, *] at hc) <;> (try (exfalso; omega)))
    | ((with_reducible apply opsF.und); (case hg => rfl))
    | ((with_reducible apply opsF.callv); (case hf => exact tEV); (case hx => exact tCV))
    | ((with_reducible apply dopsF.op rfl); (case hs => (first | exact tHT | exact tHS)))
    | ((with_reducible apply dopsF.call); (case hx => exact tAG))
    | ((with_reducible apply dopsF.want); (case hg => exact tEV); (case hb => exact tNB))
    | ((with_reducible apply dopsF.skip); (case hg => exact tEV); (case hb => exact tNB))
    | ((with_reducible apply dopsF.und); (case hg => rfl))
    | ((with_reducible apply stabF.und); rfl)
    | ((with_reducible apply stabF.want); (case hg => exact tEV); (case hb => exact tNB))
    | ((with_reducible apply stabF.skip); (case hg => exact tEV); (case hb => exact tNB))
    | ((with_reducible apply stabF.op); (case hs => (first | exact tHT | exact tHS)); (case hv => exact tSV))
    | ((with_reducible apply retF.r); (case hv => exact tRS))
    | ((with_reducible apply retF.nn); (case hv => exact tRS))
    | ((refine (hcut _).mono fun v h' hp => ?_); obtain ⟨rfl, rfl⟩ := hp))
      all_goals exact ⟨rfl, .refl _⟩
  · have hno : textO s = none := by
      cases s with
      | nil => rfl
      | cons x r => rw [textO, if_neg (by rintro ⟨h1, _⟩; exact hc0 (by rw [h1]; rfl))]
    rw [textV_none hno]
    have hcut := fun h => cutP_call (w0 := w0) s 120 h (by omega)
    simp only [if_neg hc0] at hcut
    repeat' (first
    | ((with_reducible apply opsF.op rfl); (case hs => (first | exact tHT | exact tHS)))
    | with_reducible (first | apply opsF.nil | apply seqF.nn | apply vcF.seq | apply vcF.region | apply vcF.dregion | apply vcF.skip | apply vcF.block | apply vcF.exit | apply vcF.ret | apply vcF.loop | apply seqF.e | apply seqF.r | apply blkF.nn | apply blkF.e | apply blkF.r | apply blkF.o rfl | apply dopsF.nil | apply stabsF.nil | apply stabsF.cons | apply dopsF.cont)
    | ((with_reducible apply opsF.call); (case hx => exact tAG))
    | ((with_reducible apply opsF.want); (case hg => exact tEV); (case hb => exact tNB))
    | ((with_reducible apply opsF.skip); (case hg => exact tEV); (case hb => exact tNB))
    | (first | ((with_reducible apply opsF.case); (case hg => exact tEV)) | ((with_reducible apply vcF.cond); (case hx => exact tEV)) | ((with_reducible apply dopsF.case); (case hg => exact tEV))) <;> ((intro hc; try simp only [Int.reduceLT, Int.reduceLE, Int.reduceEq, Int.reduceNe, Int.cast_ofNat_Int, Int.reduceNeg, decide_true, decide_false, not_true_eq_false, not_false_eq_true, decide_eq_true_eq, decide_eq_false_iff_not, Bool.not_eq_true', Bool.not_eq_false', Bool.not_true, Bool.not_false, Bool.false_eq_true, Bool.true_eq_false, Bool.not_eq_true, Bool.not_eq_false, beq_iff_eq, beq_eq_false_iff_ne, bne_iff_ne, bne_eq_false_iff_eq, ne_eq, Int.not_lt, Int.not_le, ge_iff_le, gt_iff_lt, Decidable.not_not, reduceCtorEq, *] at hc) <;> (try (exfalso; omega)))
    | ((with_reducible apply opsF.und); (case hg => rfl))
    | ((with_reducible apply opsF.callv); (case hf => exact tEV); (case hx => exact tCV))
    | ((with_reducible apply dopsF.op rfl); (case hs => (first | exact tHT | exact tHS)))
    | ((with_reducible apply dopsF.call); (case hx => exact tAG))
    | ((with_reducible apply dopsF.want); (case hg => exact tEV); (case hb => exact tNB))
    | ((with_reducible apply dopsF.skip); (case hg => exact tEV); (case hb => exact tNB))
    | ((with_reducible apply dopsF.und); (case hg => rfl))
    | ((with_reducible apply stabF.und); rfl)
    | ((with_reducible apply stabF.want); (case hg => exact tEV); (case hb => exact tNB))
    | ((with_reducible apply stabF.skip); (case hg => exact tEV); (case hb => exact tNB))
    | ((with_reducible apply stabF.op); (case hs => (first | exact tHT | exact tHS)); (case hv => exact tSV))
    | ((with_reducible apply retF.r); (case hv => exact tRS))
    | ((with_reducible apply retF.nn); (case hv => exact tRS))
    | ((refine (hcut _).mono fun v h' hp => ?_); obtain ⟨rfl, rfl⟩ := hp))
    all_goals exact ⟨rfl, .refl _⟩
theorem NumP_ex {s : List UInt8} {v : AV} (h : NumP s v) : ∃ k, v = .tup [.v (.int .i64 k), .v (.bool (numO s).isSome)] ∧ ∀ m, numO s = some m → k = m := by
  unfold NumP at h
  cases hn : numO s with
  | some n =>
    rw [hn] at h
    exact ⟨n, h, fun m hm => by injection hm⟩
  | none =>
    rw [hn] at h
    obtain ⟨k, rfl⟩ := h
    exact ⟨k, rfl, fun m hm => by cases hm⟩
theorem textV_ex (s : List UInt8) : ∃ t, textV s = .tup [.v (.string (bs t)), .v (.bool (textO s).isSome)] ∧ ∀ m, textO s = some m → t = m := by
  unfold textV
  cases hn : textO s with
  | some n => exact ⟨n, rfl, fun m hm => by injection hm⟩
  | none => exact ⟨[], rfl, fun m hm => by cases hm⟩
def stV (x : St) (b : Bool) : AV := .tup [.agg [.v (.int .i64 x.1), .v (.int .i64 x.2.1), .v (.int .i64 x.2.2.1), .v (.string (bs x.2.2.2))], .v (.bool b)]
def stepQ : Option Int → Option Int → Option Int → Option (List UInt8) → Option St
  | some k, some a, some b, some t => some (k, a, b, t)
  | _, _, _, _ => none
theorem stepO_q (k a b t : List UInt8) : stepO [[115, 116, 101, 112], k, a, b, t] = stepQ (numO k) (numO a) (numO b) (textO t) := by
  simp only [stepO, if_true]
  cases numO k <;> cases numO a <;> cases numO b <;> cases textO t <;> rfl
theorem stepQ_is (K A B : Option Int) (T : Option (List UInt8)) : (stepQ K A B T).isSome = (K.isSome && (A.isSome && (B.isSome && T.isSome))) := by
  cases K <;> cases A <;> cases B <;> cases T <;> rfl
theorem stepQ_some {K A B : Option Int} {T : Option (List UInt8)} {y : St} (h : stepQ K A B T = some y) : K = some y.1 ∧ A = some y.2.1 ∧ B = some y.2.2.1 ∧ T = some y.2.2.2 := by
  cases K <;> cases A <;> cases B <;> cases T <;> simp [stepQ] at h
  subst h
  exact ⟨rfl, rfl, rfl, rfl⟩
theorem step_call (hT : PowTab w0) (hE : ErrVars w0) (ws : List (List UInt8)) (tok : Tok) (h : AH) (hl : ∀ w ∈ ws, w.length ≤ 1000000000000) (hl2 : ws.length ≤ 1000000000000) : Call P w0 script_step [.list 1 (srows ws) tok] h
    (fun v h' => (∃ x, v = stV x (stepO ws).isSome ∧ ∀ y, stepO ws = some y → x = y) ∧ Ext h h') := by
  have xl := srows_len
  have xg := srows_get
  refine Call.bodyF b_script_step rfl rfl ?_
  unfold c_script_step
  by_cases h5 : ws.length = 5
  · match ws, h5, hl with
    | [w, k, a, b, t], _, hl =>
      have lk : k.length ≤ 1000000000000 := hl k (by simp)
      have la : a.length ≤ 1000000000000 := hl a (by simp)
      have lb : b.length ≤ 1000000000000 := hl b (by simp)
      have lt : t.length ≤ 1000000000000 := hl t (by simp)
      have g0 : ([w, k, a, b, t] : List (List UInt8))[0]? = some w := rfl
      have g1 : ([w, k, a, b, t] : List (List UInt8))[1]? = some k := rfl
      have g2 : ([w, k, a, b, t] : List (List UInt8))[2]? = some a := rfl
      have g3 : ([w, k, a, b, t] : List (List UInt8))[3]? = some b := rfl
      have g4 : ([w, k, a, b, t] : List (List UInt8))[4]? = some t := rfl
      have gl : ([w, k, a, b, t] : List (List UInt8)).length = 5 := rfl
      by_cases hw : w = [115, 116, 101, 112]
      · have hO : stepO [w, k, a, b, t] = stepQ (numO k) (numO a) (numO b) (textO t) := by rw [hw, stepO_q]
        obtain ⟨t', ht1, ht2⟩ := textV_ex t
        rw [hO]
        clear hO hl hl2
        generalize [w, k, a, b, t] = ws at *
        repeat' (first
    | ((with_reducible apply opsF.op rfl); (case hs => (first | exact tHT | exact tHS)))
    | with_reducible (first | apply opsF.nil | apply seqF.nn | apply vcF.seq | apply vcF.region | apply vcF.dregion | apply vcF.skip | apply vcF.block | apply vcF.exit | apply vcF.ret | apply vcF.loop | apply seqF.e | apply seqF.r | apply blkF.nn | apply blkF.e | apply blkF.r | apply blkF.o rfl | apply dopsF.nil | apply stabsF.nil | apply stabsF.cons | apply dopsF.cont)
    | ((with_reducible apply opsF.call); (case hx => exact tAG))
    | ((with_reducible apply opsF.want); (case hg => exact tEV); (case hb => exact tNB))
    | ((with_reducible apply opsF.skip); (case hg => exact tEV); (case hb => exact tNB))
    | (first | ((with_reducible apply opsF.case); (case hg => exact tEV)) | ((with_reducible apply vcF.cond); (case hx => exact tEV)) | ((with_reducible apply dopsF.case); (case hg => exact tEV))) <;> ((intro hc; try simp only [Int.reduceLT, Int.reduceLE, Int.reduceEq, Int.reduceNe, Int.cast_ofNat_Int, Int.reduceNeg, decide_true, decide_false, not_true_eq_false, not_false_eq_true, decide_eq_true_eq, decide_eq_false_iff_not, Bool.not_eq_true', Bool.not_eq_false', Bool.not_true, Bool.not_false, Bool.false_eq_true, Bool.true_eq_false, Bool.not_eq_true, Bool.not_eq_false, beq_iff_eq, beq_eq_false_iff_ne, bne_iff_ne, bne_eq_false_iff_eq, ne_eq, Int.not_lt, Int.not_le, ge_iff_le, gt_iff_lt, Decidable.not_not, reduceCtorEq, *] at hc) <;> (try (exfalso; omega)))
    | ((with_reducible apply opsF.und); (case hg => rfl))
    | ((with_reducible apply opsF.callv); (case hf => exact tEV); (case hx => exact tCV))
    | ((with_reducible apply dopsF.op rfl); (case hs => (first | exact tHT | exact tHS)))
    | ((with_reducible apply dopsF.call); (case hx => exact tAG))
    | ((with_reducible apply dopsF.want); (case hg => exact tEV); (case hb => exact tNB))
    | ((with_reducible apply dopsF.skip); (case hg => exact tEV); (case hb => exact tNB))
    | ((with_reducible apply dopsF.und); (case hg => rfl))
    | ((with_reducible apply stabF.und); rfl)
    | ((with_reducible apply stabF.want); (case hg => exact tEV); (case hb => exact tNB))
    | ((with_reducible apply stabF.skip); (case hg => exact tEV); (case hb => exact tNB))
    | ((with_reducible apply stabF.op); (case hs => (first | exact tHT | exact tHS)); (case hv => exact tSV))
    | ((with_reducible apply retF.r); (case hv => exact tRS))
    | ((with_reducible apply retF.nn); (case hv => exact tRS))
    | ((refine (num_call hT hE k _ (by omega)).mono fun v h1 hp => ?_); obtain ⟨hn1, rfl⟩ := hp; obtain ⟨k', rfl, hk2⟩ := NumP_ex hn1; clear hn1)
    | ((refine (num_call hT hE a _ (by omega)).mono fun v h1 hp => ?_); obtain ⟨hn1, rfl⟩ := hp; obtain ⟨a', rfl, ha2⟩ := NumP_ex hn1; clear hn1)
    | ((refine (num_call hT hE b _ (by omega)).mono fun v h1 hp => ?_); obtain ⟨hn1, rfl⟩ := hp; obtain ⟨b', rfl, hb2⟩ := NumP_ex hn1; clear hn1)
    | ((refine (text_call t _ lt).mono fun v h2 hp => ?_); rw [ht1] at hp; obtain ⟨rfl, he⟩ := hp; have hN := he.n; have hO := he.objs; (try simp only [alloc_n, set_n, newTok_n, bump_n] at hN hO)))
        all_goals refine ⟨⟨(k', a', b', t'), ?_, fun y hy => ?_⟩, ((Ext.alloc _ _).trans he).set (Nat.le_refl _) _⟩
        all_goals first
          | (obtain ⟨y1, y2, y3, y4⟩ := stepQ_some hy; exact Prod.ext (hk2 _ y1) (Prod.ext (ha2 _ y2) (Prod.ext (hb2 _ y3) (ht2 _ y4))))
          | (rw [stepQ_is]; simp [stV, *]; done)
      · have hO : stepO [w, k, a, b, t] = none := by simp only [stepO, if_neg hw]
        rw [hO]
        clear hO hl hl2
        generalize [w, k, a, b, t] = ws at *
        repeat' (first
    | ((with_reducible apply opsF.op rfl); (case hs => (first | exact tHT | exact tHS)))
    | with_reducible (first | apply opsF.nil | apply seqF.nn | apply vcF.seq | apply vcF.region | apply vcF.dregion | apply vcF.skip | apply vcF.block | apply vcF.exit | apply vcF.ret | apply vcF.loop | apply seqF.e | apply seqF.r | apply blkF.nn | apply blkF.e | apply blkF.r | apply blkF.o rfl | apply dopsF.nil | apply stabsF.nil | apply stabsF.cons | apply dopsF.cont)
    | ((with_reducible apply opsF.call); (case hx => exact tAG))
    | ((with_reducible apply opsF.want); (case hg => exact tEV); (case hb => exact tNB))
    | ((with_reducible apply opsF.skip); (case hg => exact tEV); (case hb => exact tNB))
    | (first | ((with_reducible apply opsF.case); (case hg => exact tEV)) | ((with_reducible apply vcF.cond); (case hx => exact tEV)) | ((with_reducible apply dopsF.case); (case hg => exact tEV))) <;> ((intro hc; try simp only [Int.reduceLT, Int.reduceLE, Int.reduceEq, Int.reduceNe, Int.cast_ofNat_Int, Int.reduceNeg, decide_true, decide_false, not_true_eq_false, not_false_eq_true, decide_eq_true_eq, decide_eq_false_iff_not, Bool.not_eq_true', Bool.not_eq_false', Bool.not_true, Bool.not_false, Bool.false_eq_true, Bool.true_eq_false, Bool.not_eq_true, Bool.not_eq_false, beq_iff_eq, beq_eq_false_iff_ne, bne_iff_ne, bne_eq_false_iff_eq, ne_eq, Int.not_lt, Int.not_le, ge_iff_le, gt_iff_lt, Decidable.not_not, reduceCtorEq, *] at hc) <;> (try (exfalso; omega)))
    | ((with_reducible apply opsF.und); (case hg => rfl))
    | ((with_reducible apply opsF.callv); (case hf => exact tEV); (case hx => exact tCV))
    | ((with_reducible apply dopsF.op rfl); (case hs => (first | exact tHT | exact tHS)))
    | ((with_reducible apply dopsF.call); (case hx => exact tAG))
    | ((with_reducible apply dopsF.want); (case hg => exact tEV); (case hb => exact tNB))
    | ((with_reducible apply dopsF.skip); (case hg => exact tEV); (case hb => exact tNB))
    | ((with_reducible apply dopsF.und); (case hg => rfl))
    | ((with_reducible apply stabF.und); rfl)
    | ((with_reducible apply stabF.want); (case hg => exact tEV); (case hb => exact tNB))
    | ((with_reducible apply stabF.skip); (case hg => exact tEV); (case hb => exact tNB))
    | ((with_reducible apply stabF.op); (case hs => (first | exact tHT | exact tHS)); (case hv => exact tSV))
    | ((with_reducible apply retF.r); (case hv => exact tRS))
    | ((with_reducible apply retF.nn); (case hv => exact tRS)))
        all_goals exact ⟨⟨(0, 0, 0, []), rfl, fun y hy => by cases hy⟩, (Ext.alloc _ _).set (Nat.le_refl _) _⟩
  · have hO : stepO ws = none := by
      unfold stepO
      split
      · exact absurd rfl h5
      · rfl
    rw [hO]
    repeat' (first
    | ((with_reducible apply opsF.op rfl); (case hs => (first | exact tHT | exact tHS)))
    | with_reducible (first | apply opsF.nil | apply seqF.nn | apply vcF.seq | apply vcF.region | apply vcF.dregion | apply vcF.skip | apply vcF.block | apply vcF.exit | apply vcF.ret | apply vcF.loop | apply seqF.e | apply seqF.r | apply blkF.nn | apply blkF.e | apply blkF.r | apply blkF.o rfl | apply dopsF.nil | apply stabsF.nil | apply stabsF.cons | apply dopsF.cont)
    | ((with_reducible apply opsF.call); (case hx => exact tAG))
    | ((with_reducible apply opsF.want); (case hg => exact tEV); (case hb => exact tNB))
    | ((with_reducible apply opsF.skip); (case hg => exact tEV); (case hb => exact tNB))
    | (first | ((with_reducible apply opsF.case); (case hg => exact tEV)) | ((with_reducible apply vcF.cond); (case hx => exact tEV)) | ((with_reducible apply dopsF.case); (case hg => exact tEV))) <;> ((intro hc; try simp only [Int.reduceLT, Int.reduceLE, Int.reduceEq, Int.reduceNe, Int.cast_ofNat_Int, Int.reduceNeg, decide_true, decide_false, not_true_eq_false, not_false_eq_true, decide_eq_true_eq, decide_eq_false_iff_not, Bool.not_eq_true', Bool.not_eq_false', Bool.not_true, Bool.not_false, Bool.false_eq_true, Bool.true_eq_false, Bool.not_eq_true, Bool.not_eq_false, beq_iff_eq, beq_eq_false_iff_ne, bne_iff_ne, bne_eq_false_iff_eq, ne_eq, Int.not_lt, Int.not_le, ge_iff_le, gt_iff_lt, Decidable.not_not, reduceCtorEq, *] at hc) <;> (try (exfalso; omega)))
    | ((with_reducible apply opsF.und); (case hg => rfl))
    | ((with_reducible apply opsF.callv); (case hf => exact tEV); (case hx => exact tCV))
    | ((with_reducible apply dopsF.op rfl); (case hs => (first | exact tHT | exact tHS)))
    | ((with_reducible apply dopsF.call); (case hx => exact tAG))
    | ((with_reducible apply dopsF.want); (case hg => exact tEV); (case hb => exact tNB))
    | ((with_reducible apply dopsF.skip); (case hg => exact tEV); (case hb => exact tNB))
    | ((with_reducible apply dopsF.und); (case hg => rfl))
    | ((with_reducible apply stabF.und); rfl)
    | ((with_reducible apply stabF.want); (case hg => exact tEV); (case hb => exact tNB))
    | ((with_reducible apply stabF.skip); (case hg => exact tEV); (case hb => exact tNB))
    | ((with_reducible apply stabF.op); (case hs => (first | exact tHT | exact tHS)); (case hv => exact tSV))
    | ((with_reducible apply retF.r); (case hv => exact tRS))
    | ((with_reducible apply retF.nn); (case hv => exact tRS)))
    all_goals exact ⟨⟨(0, 0, 0, []), rfl, fun y hy => by cases hy⟩, (Ext.alloc _ _).set (Nat.le_refl _) _⟩
end Go.Abs.F
