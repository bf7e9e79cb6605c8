/- Tables: a parser's methods: size, a line. -/
import Derived.Test.YtbakofbljfhoiaaDoorTabB
namespace Go.Abs.F
open Go Go.Abs
set_option maxRecDepth 10000
set_option maxHeartbeats 20000000
set_option linter.unusedSimpArgs false
set_option linter.unusedVariables false
variable {w0 : World}
theorem TS.size {B : Nat} {h : AH} {id : Nat} {t : TB} {rest : List AV} {t1 t2 t3 : Tok} (hT : TS B h id t rest t1 t2 t3) (n : Int) : TS B (h.set id (.cells (tabC (t.1, t.2.1, t.2.2.1, n) t1 t2 t3 ++ rest))) id (t.1, t.2.1, t.2.2.1, n) rest t1 t2 t3 :=
  ⟨by rw [set_at, if_pos rfl], hT.lt, hT.nt, hT.u1.set, hT.u2.set, hT.u3.set, hT.d12, hT.d13, hT.d23, hT.b1, hT.b2, hT.b3⟩
theorem size_call (hP : PowTab w0) (hE : ErrVars w0) (B : Nat) (id : Nat) (t : TB) (rest : List AV) (t1 t2 t3 : Tok) (ws : List (List UInt8)) (tkw : Tok) (h : AH) (hT : TS B h id t rest t1 t2 t3) (hw : ∀ w ∈ ws, w.length ≤ 1000000) (hl : ws.length ≤ 1000000) :
    Call P w0 table_parser_size [.ptr id 0, .list 1 (srows ws) tkw] h (MethP B h id (sizeO t ws) rest) := by
  have xl := srows_len
  have xg := srows_get
  have hob := hT.ob
  have hlt := hT.lt
  refine Call.bodyF b_table_parser_size rfl rfl ?_
  unfold c_table_parser_size
  by_cases hl2 : ws.length = 1
  · obtain ⟨a, rfl⟩ : ∃ a, ws = [a] := by
      match ws, hl2 with
      | [a], _ => exact ⟨a, rfl⟩
    have h0 : ([a] : List (List UInt8))[0]? = some a := rfl
    have hal := hw a (by simp)
    rw [sizeO]
    obtain ⟨ws, hws⟩ : ∃ ws, ws = [a] := ⟨_, rfl⟩
    rw [← hws] at h0 hl2 ⊢
    clear hws hw hl
    have hn1 : (ws.length : Int) = 1 := by omega
    clear hl2
    unfold tabC at hob
    by_cases hs : t.2.2.2 > 0
    · rw [if_pos hs]
      repeat' (first
    | ((with_reducible apply opsF.op rfl); (case hs => (first | exact tHT | exact tHS)))
    | with_reducible (first | apply opsF.nil | apply seqF.nn | apply vcF.seq | apply vcF.region | apply vcF.dregion | apply vcF.skip | apply vcF.ret | apply seqF.r | apply dopsF.nil | apply stabsF.nil | apply stabsF.cons | apply dopsF.cont)
    | ((with_reducible apply opsF.call); (case hx => exact tAG))
    | ((with_reducible apply opsF.want); (case hg => exact tEV); (case hb => exact tNB))
    | ((with_reducible apply opsF.skip); (case hg => exact tEV); (case hb => exact tNB))
    | (first | ((with_reducible apply opsF.case); (case hg => exact tEV)) | ((with_reducible apply vcF.cond); (case hx => exact tEV)) | ((with_reducible apply dopsF.case); (case hg => exact tEV))) <;> ((intro hc; try simp only [Int.reduceLT, Int.reduceLE, Int.reduceEq, Int.reduceNe, Int.cast_ofNat_Int, Int.reduceNeg, decide_true, decide_false, not_true_eq_false, not_false_eq_true, decide_eq_true_eq, decide_eq_false_iff_not, Bool.not_eq_true', Bool.not_eq_false', Bool.not_true, Bool.not_false, Bool.false_eq_true, Bool.true_eq_false, Bool.not_eq_true, Bool.not_eq_false, beq_iff_eq, beq_eq_false_iff_ne, bne_iff_ne, bne_eq_false_iff_eq, ne_eq, Int.not_lt, Int.not_le, ge_iff_le, gt_iff_lt, Decidable.not_not, reduceCtorEq, *] at hc) <;> (try (exfalso; omega)))
    | ((with_reducible apply opsF.und); (case hg => rfl))
    | ((with_reducible apply dopsF.op rfl); (case hs => (first | exact tHT | exact tHS)))
    | ((with_reducible apply dopsF.call); (case hx => exact tAG))
    | ((with_reducible apply dopsF.want); (case hg => exact tEV); (case hb => exact tNB))
    | ((with_reducible apply dopsF.skip); (case hg => exact tEV); (case hb => exact tNB))
    | ((with_reducible apply dopsF.und); (case hg => rfl))
    | ((with_reducible apply stabF.und); rfl)
    | ((with_reducible apply stabF.want); (case hg => exact tEV); (case hb => exact tNB))
    | ((with_reducible apply stabF.skip); (case hg => exact tEV); (case hb => exact tNB))
    | ((with_reducible apply stabF.op); (case hs => (first | exact tHT | exact tHS)); (case hv => exact tSV))
    | ((with_reducible apply retF.r); (case hv => exact tRS))
    | ((with_reducible apply retF.nn); (case hv => exact tRS)))
      all_goals exact methP_none (.of (.refl _))
    · rw [if_neg hs]
      have hX : ∀ cs, ExtI B id h (h.set id cs) := fun cs => ExtX.set (I := fun i => i = id) (i := id) (.of (.refl _)) (.inl rfl) _
      cases hA : Lib.atoiAll a with
      | ok n =>
        have hr := atoi_range hA
        have hat : ∀ h, Call P w0 strconv_Atoi [.v (.string (bs a))] h (fun v h' => v = .tup [.v (.int .i64 n), .v .nilIface] ∧ h' = h) := fun h => (atoiA_call hE a h (by omega)).mono fun v h' hq => by
          refine ⟨?_, hq.2⟩
          rcases hq.1 with ⟨m, hm, rfl⟩ | ⟨hm, _⟩
          · rw [hA] at hm; cases hm; rfl
          · exact absurd hA (hm n)
        have hit := fun h => itoa_call (w0 := w0) hP n h hr.1 hr.2
        have hsz : sizeN a = if decS n = a ∧ 1 ≤ n ∧ n ≤ 65536 then some n else none := by rw [sizeN, hA]
        rw [hsz]
        clear hsz hA
        by_cases hd : decS n = a
        · subst hd
          by_cases hr2 : 1 ≤ n ∧ n ≤ 65536
          · rw [if_pos ⟨rfl, hr2⟩]
            obtain ⟨g1, g2⟩ := hr2
            repeat' (first
    | ((with_reducible apply opsF.op rfl); (case hs => (first | exact tHT | exact tHS)))
    | with_reducible (first | apply opsF.nil | apply seqF.nn | apply vcF.seq | apply vcF.region | apply vcF.dregion | apply vcF.skip | apply vcF.ret | apply seqF.r | apply dopsF.nil | apply stabsF.nil | apply stabsF.cons | apply dopsF.cont)
    | ((with_reducible apply opsF.call); (case hx => exact tAG))
    | ((with_reducible apply opsF.want); (case hg => exact tEV); (case hb => exact tNB))
    | ((with_reducible apply opsF.skip); (case hg => exact tEV); (case hb => exact tNB))
    | (first | ((with_reducible apply opsF.case); (case hg => exact tEV)) | ((with_reducible apply vcF.cond); (case hx => exact tEV)) | ((with_reducible apply dopsF.case); (case hg => exact tEV))) <;> ((intro hc; try simp only [Int.reduceLT, Int.reduceLE, Int.reduceEq, Int.reduceNe, Int.cast_ofNat_Int, Int.reduceNeg, decide_true, decide_false, not_true_eq_false, not_false_eq_true, decide_eq_true_eq, decide_eq_false_iff_not, Bool.not_eq_true', Bool.not_eq_false', Bool.not_true, Bool.not_false, Bool.false_eq_true, Bool.true_eq_false, Bool.not_eq_true, Bool.not_eq_false, beq_iff_eq, beq_eq_false_iff_ne, bne_iff_ne, bne_eq_false_iff_eq, ne_eq, Int.not_lt, Int.not_le, ge_iff_le, gt_iff_lt, Decidable.not_not, reduceCtorEq, *] at hc) <;> (try (exfalso; omega)))
    | ((with_reducible apply opsF.und); (case hg => rfl))
    | ((with_reducible apply dopsF.op rfl); (case hs => (first | exact tHT | exact tHS)))
    | ((with_reducible apply dopsF.call); (case hx => exact tAG))
    | ((with_reducible apply dopsF.want); (case hg => exact tEV); (case hb => exact tNB))
    | ((with_reducible apply dopsF.skip); (case hg => exact tEV); (case hb => exact tNB))
    | ((with_reducible apply dopsF.und); (case hg => rfl))
    | ((with_reducible apply stabF.und); rfl)
    | ((with_reducible apply stabF.want); (case hg => exact tEV); (case hb => exact tNB))
    | ((with_reducible apply stabF.skip); (case hg => exact tEV); (case hb => exact tNB))
    | ((with_reducible apply stabF.op); (case hs => (first | exact tHT | exact tHS)); (case hv => exact tSV))
    | ((with_reducible apply retF.r); (case hv => exact tRS))
    | ((with_reducible apply retF.nn); (case hv => exact tRS))
    | ((refine Call.use (hat _) ?_))
    | ((refine Call.use (hit _) ?_)))
            refine ⟨rfl, hX _, fun t' ht => ?_⟩
            cases ht
            exact ⟨t1, t2, t3, hT.size n⟩
          · rw [if_neg (fun e => hr2 e.2)]
            rcases Int.lt_or_le n 1 with g1 | g1
            · repeat' (first
    | ((with_reducible apply opsF.op rfl); (case hs => (first | exact tHT | exact tHS)))
    | with_reducible (first | apply opsF.nil | apply seqF.nn | apply vcF.seq | apply vcF.region | apply vcF.dregion | apply vcF.skip | apply vcF.ret | apply seqF.r | apply dopsF.nil | apply stabsF.nil | apply stabsF.cons | apply dopsF.cont)
    | ((with_reducible apply opsF.call); (case hx => exact tAG))
    | ((with_reducible apply opsF.want); (case hg => exact tEV); (case hb => exact tNB))
    | ((with_reducible apply opsF.skip); (case hg => exact tEV); (case hb => exact tNB))
    | (first | ((with_reducible apply opsF.case); (case hg => exact tEV)) | ((with_reducible apply vcF.cond); (case hx => exact tEV)) | ((with_reducible apply dopsF.case); (case hg => exact tEV))) <;> ((intro hc; try simp only [Int.reduceLT, Int.reduceLE, Int.reduceEq, Int.reduceNe, Int.cast_ofNat_Int, Int.reduceNeg, decide_true, decide_false, not_true_eq_false, not_false_eq_true, decide_eq_true_eq, decide_eq_false_iff_not, Bool.not_eq_true', Bool.not_eq_false', Bool.not_true, Bool.not_false, Bool.false_eq_true, Bool.true_eq_false, Bool.not_eq_true, Bool.not_eq_false, beq_iff_eq, beq_eq_false_iff_ne, bne_iff_ne, bne_eq_false_iff_eq, ne_eq, Int.not_lt, Int.not_le, ge_iff_le, gt_iff_lt, Decidable.not_not, reduceCtorEq, *] at hc) <;> (try (exfalso; omega)))
    | ((with_reducible apply opsF.und); (case hg => rfl))
    | ((with_reducible apply dopsF.op rfl); (case hs => (first | exact tHT | exact tHS)))
    | ((with_reducible apply dopsF.call); (case hx => exact tAG))
    | ((with_reducible apply dopsF.want); (case hg => exact tEV); (case hb => exact tNB))
    | ((with_reducible apply dopsF.skip); (case hg => exact tEV); (case hb => exact tNB))
    | ((with_reducible apply dopsF.und); (case hg => rfl))
    | ((with_reducible apply stabF.und); rfl)
    | ((with_reducible apply stabF.want); (case hg => exact tEV); (case hb => exact tNB))
    | ((with_reducible apply stabF.skip); (case hg => exact tEV); (case hb => exact tNB))
    | ((with_reducible apply stabF.op); (case hs => (first | exact tHT | exact tHS)); (case hv => exact tSV))
    | ((with_reducible apply retF.r); (case hv => exact tRS))
    | ((with_reducible apply retF.nn); (case hv => exact tRS))
    | ((refine Call.use (hat _) ?_))
    | ((refine Call.use (hit _) ?_)))
              all_goals exact methP_none (hX _)
            · have g2 : 65536 < n := by omega
              repeat' (first
    | ((with_reducible apply opsF.op rfl); (case hs => (first | exact tHT | exact tHS)))
    | with_reducible (first | apply opsF.nil | apply seqF.nn | apply vcF.seq | apply vcF.region | apply vcF.dregion | apply vcF.skip | apply vcF.ret | apply seqF.r | apply dopsF.nil | apply stabsF.nil | apply stabsF.cons | apply dopsF.cont)
    | ((with_reducible apply opsF.call); (case hx => exact tAG))
    | ((with_reducible apply opsF.want); (case hg => exact tEV); (case hb => exact tNB))
    | ((with_reducible apply opsF.skip); (case hg => exact tEV); (case hb => exact tNB))
    | (first | ((with_reducible apply opsF.case); (case hg => exact tEV)) | ((with_reducible apply vcF.cond); (case hx => exact tEV)) | ((with_reducible apply dopsF.case); (case hg => exact tEV))) <;> ((intro hc; try simp only [Int.reduceLT, Int.reduceLE, Int.reduceEq, Int.reduceNe, Int.cast_ofNat_Int, Int.reduceNeg, decide_true, decide_false, not_true_eq_false, not_false_eq_true, decide_eq_true_eq, decide_eq_false_iff_not, Bool.not_eq_true', Bool.not_eq_false', Bool.not_true, Bool.not_false, Bool.false_eq_true, Bool.true_eq_false, Bool.not_eq_true, Bool.not_eq_false, beq_iff_eq, beq_eq_false_iff_ne, bne_iff_ne, bne_eq_false_iff_eq, ne_eq, Int.not_lt, Int.not_le, ge_iff_le, gt_iff_lt, Decidable.not_not, reduceCtorEq, *] at hc) <;> (try (exfalso; omega)))
    | ((with_reducible apply opsF.und); (case hg => rfl))
    | ((with_reducible apply dopsF.op rfl); (case hs => (first | exact tHT | exact tHS)))
    | ((with_reducible apply dopsF.call); (case hx => exact tAG))
    | ((with_reducible apply dopsF.want); (case hg => exact tEV); (case hb => exact tNB))
    | ((with_reducible apply dopsF.skip); (case hg => exact tEV); (case hb => exact tNB))
    | ((with_reducible apply dopsF.und); (case hg => rfl))
    | ((with_reducible apply stabF.und); rfl)
    | ((with_reducible apply stabF.want); (case hg => exact tEV); (case hb => exact tNB))
    | ((with_reducible apply stabF.skip); (case hg => exact tEV); (case hb => exact tNB))
    | ((with_reducible apply stabF.op); (case hs => (first | exact tHT | exact tHS)); (case hv => exact tSV))
    | ((with_reducible apply retF.r); (case hv => exact tRS))
    | ((with_reducible apply retF.nn); (case hv => exact tRS))
    | ((refine Call.use (hat _) ?_))
    | ((refine Call.use (hit _) ?_)))
              all_goals rw [decide_eq_false (by omega)]
              all_goals exact methP_none (hX _)
        · rw [if_neg (fun e => hd e.1)]
          repeat' (first
    | ((with_reducible apply opsF.op rfl); (case hs => (first | exact tHT | exact tHS)))
    | with_reducible (first | apply opsF.nil | apply seqF.nn | apply vcF.seq | apply vcF.region | apply vcF.dregion | apply vcF.skip | apply vcF.ret | apply seqF.r | apply dopsF.nil | apply stabsF.nil | apply stabsF.cons | apply dopsF.cont)
    | ((with_reducible apply opsF.call); (case hx => exact tAG))
    | ((with_reducible apply opsF.want); (case hg => exact tEV); (case hb => exact tNB))
    | ((with_reducible apply opsF.skip); (case hg => exact tEV); (case hb => exact tNB))
    | (first | ((with_reducible apply opsF.case); (case hg => exact tEV)) | ((with_reducible apply vcF.cond); (case hx => exact tEV)) | ((with_reducible apply dopsF.case); (case hg => exact tEV))) <;> ((intro hc; try simp only [Int.reduceLT, Int.reduceLE, Int.reduceEq, Int.reduceNe, Int.cast_ofNat_Int, Int.reduceNeg, decide_true, decide_false, not_true_eq_false, not_false_eq_true, decide_eq_true_eq, decide_eq_false_iff_not, Bool.not_eq_true', Bool.not_eq_false', Bool.not_true, Bool.not_false, Bool.false_eq_true, Bool.true_eq_false, Bool.not_eq_true, Bool.not_eq_false, beq_iff_eq, beq_eq_false_iff_ne, bne_iff_ne, bne_eq_false_iff_eq, ne_eq, Int.not_lt, Int.not_le, ge_iff_le, gt_iff_lt, Decidable.not_not, reduceCtorEq, *] at hc) <;> (try (exfalso; omega)))
    | ((with_reducible apply opsF.und); (case hg => rfl))
    | ((with_reducible apply dopsF.op rfl); (case hs => (first | exact tHT | exact tHS)))
    | ((with_reducible apply dopsF.call); (case hx => exact tAG))
    | ((with_reducible apply dopsF.want); (case hg => exact tEV); (case hb => exact tNB))
    | ((with_reducible apply dopsF.skip); (case hg => exact tEV); (case hb => exact tNB))
    | ((with_reducible apply dopsF.und); (case hg => rfl))
    | ((with_reducible apply stabF.und); rfl)
    | ((with_reducible apply stabF.want); (case hg => exact tEV); (case hb => exact tNB))
    | ((with_reducible apply stabF.skip); (case hg => exact tEV); (case hb => exact tNB))
    | ((with_reducible apply stabF.op); (case hs => (first | exact tHT | exact tHS)); (case hv => exact tSV))
    | ((with_reducible apply retF.r); (case hv => exact tRS))
    | ((with_reducible apply retF.nn); (case hv => exact tRS))
    | ((refine Call.use (hat _) ?_))
    | ((refine Call.use (hit _) ?_)))
          all_goals exact methP_none (hX _)
      | _ =>
        have hat : ∀ h, Call P w0 strconv_Atoi [.v (.string (bs a))] h (fun v h' => (∃ k te, v = .tup [.v (.int .i64 k), .iface te (.lptr [] 0)]) ∧ h' = h) := fun h => (atoiA_call hE a h (by omega)).mono fun v h' hq => by
          refine ⟨?_, hq.2⟩
          rcases hq.1 with ⟨m, hm, rfl⟩ | ⟨hm, hk⟩
          · rw [hA] at hm; cases hm
          · exact hk
        have hsz : sizeN a = none := by rw [sizeN, hA]
        rw [hsz]
        clear hsz hA
        repeat' (first
    | ((with_reducible apply opsF.op rfl); (case hs => (first | exact tHT | exact tHS)))
    | with_reducible (first | apply opsF.nil | apply seqF.nn | apply vcF.seq | apply vcF.region | apply vcF.dregion | apply vcF.skip | apply vcF.ret | apply seqF.r | apply dopsF.nil | apply stabsF.nil | apply stabsF.cons | apply dopsF.cont)
    | ((with_reducible apply opsF.call); (case hx => exact tAG))
    | ((with_reducible apply opsF.want); (case hg => exact tEV); (case hb => exact tNB))
    | ((with_reducible apply opsF.skip); (case hg => exact tEV); (case hb => exact tNB))
    | (first | ((with_reducible apply opsF.case); (case hg => exact tEV)) | ((with_reducible apply vcF.cond); (case hx => exact tEV)) | ((with_reducible apply dopsF.case); (case hg => exact tEV))) <;> ((intro hc; try simp only [Int.reduceLT, Int.reduceLE, Int.reduceEq, Int.reduceNe, Int.cast_ofNat_Int, Int.reduceNeg, decide_true, decide_false, not_true_eq_false, not_false_eq_true, decide_eq_true_eq, decide_eq_false_iff_not, Bool.not_eq_true', Bool.not_eq_false', Bool.not_true, Bool.not_false, Bool.false_eq_true, Bool.true_eq_false, Bool.not_eq_true, Bool.not_eq_false, beq_iff_eq, beq_eq_false_iff_ne, bne_iff_ne, bne_eq_false_iff_eq, ne_eq, Int.not_lt, Int.not_le, ge_iff_le, gt_iff_lt, Decidable.not_not, reduceCtorEq, *] at hc) <;> (try (exfalso; omega)))
    | ((with_reducible apply opsF.und); (case hg => rfl))
    | ((with_reducible apply dopsF.op rfl); (case hs => (first | exact tHT | exact tHS)))
    | ((with_reducible apply dopsF.call); (case hx => exact tAG))
    | ((with_reducible apply dopsF.want); (case hg => exact tEV); (case hb => exact tNB))
    | ((with_reducible apply dopsF.skip); (case hg => exact tEV); (case hb => exact tNB))
    | ((with_reducible apply dopsF.und); (case hg => rfl))
    | ((with_reducible apply stabF.und); rfl)
    | ((with_reducible apply stabF.want); (case hg => exact tEV); (case hb => exact tNB))
    | ((with_reducible apply stabF.skip); (case hg => exact tEV); (case hb => exact tNB))
    | ((with_reducible apply stabF.op); (case hs => (first | exact tHT | exact tHS)); (case hv => exact tSV))
    | ((with_reducible apply retF.r); (case hv => exact tRS))
    | ((with_reducible apply retF.nn); (case hv => exact tRS))
    | ((refine (hat _).mono fun v h1 hq => ?_); obtain ⟨⟨k, te, rfl⟩, rfl⟩ := hq))
        all_goals exact methP_none (hX _)
  · have hno : sizeO t ws = none := by
      unfold sizeO
      split
      · simp at hl2
      · rfl
    rw [hno]
    have hl2' : ¬ (ws.length : Int) = 1 := by omega
    repeat' (first
    | ((with_reducible apply opsF.op rfl); (case hs => (first | exact tHT | exact tHS)))
    | with_reducible (first | apply opsF.nil | apply seqF.nn | apply vcF.seq | apply vcF.region | apply vcF.dregion | apply vcF.skip | apply vcF.ret | apply seqF.r | apply dopsF.nil | apply stabsF.nil | apply stabsF.cons | apply dopsF.cont)
    | ((with_reducible apply opsF.call); (case hx => exact tAG))
    | ((with_reducible apply opsF.want); (case hg => exact tEV); (case hb => exact tNB))
    | ((with_reducible apply opsF.skip); (case hg => exact tEV); (case hb => exact tNB))
    | (first | ((with_reducible apply opsF.case); (case hg => exact tEV)) | ((with_reducible apply vcF.cond); (case hx => exact tEV)) | ((with_reducible apply dopsF.case); (case hg => exact tEV))) <;> ((intro hc; try simp only [Int.reduceLT, Int.reduceLE, Int.reduceEq, Int.reduceNe, Int.cast_ofNat_Int, Int.reduceNeg, decide_true, decide_false, not_true_eq_false, not_false_eq_true, decide_eq_true_eq, decide_eq_false_iff_not, Bool.not_eq_true', Bool.not_eq_false', Bool.not_true, Bool.not_false, Bool.false_eq_true, Bool.true_eq_false, Bool.not_eq_true, Bool.not_eq_false, beq_iff_eq, beq_eq_false_iff_ne, bne_iff_ne, bne_eq_false_iff_eq, ne_eq, Int.not_lt, Int.not_le, ge_iff_le, gt_iff_lt, Decidable.not_not, reduceCtorEq, *] at hc) <;> (try (exfalso; omega)))
    | ((with_reducible apply opsF.und); (case hg => rfl))
    | ((with_reducible apply dopsF.op rfl); (case hs => (first | exact tHT | exact tHS)))
    | ((with_reducible apply dopsF.call); (case hx => exact tAG))
    | ((with_reducible apply dopsF.want); (case hg => exact tEV); (case hb => exact tNB))
    | ((with_reducible apply dopsF.skip); (case hg => exact tEV); (case hb => exact tNB))
    | ((with_reducible apply dopsF.und); (case hg => rfl))
    | ((with_reducible apply stabF.und); rfl)
    | ((with_reducible apply stabF.want); (case hg => exact tEV); (case hb => exact tNB))
    | ((with_reducible apply stabF.skip); (case hg => exact tEV); (case hb => exact tNB))
    | ((with_reducible apply stabF.op); (case hs => (first | exact tHT | exact tHS)); (case hv => exact tSV))
    | ((with_reducible apply retF.r); (case hv => exact tRS))
    | ((with_reducible apply retF.nn); (case hv => exact tRS)))
    all_goals exact methP_none (.of (.refl _))
theorem bs_beq (a b : List UInt8) : (bs a == bs b) = decide (a = b) := by
  have e : (bs a == bs b) = (a.toArray == b.toArray) := rfl
  rw [e, Bool.eq_iff_iff, beq_iff_eq, decide_eq_true_iff]
  exact ⟨fun h => by simpa using h, fun h => by rw [h]⟩
theorem findK_cons (w k : List UInt8) (a : AV) (es : List (Value × AV)) (i : Nat) : findK .str (.string (bs w)) ((.string (bs k), a) :: es) i = if w = k then some (some (i, a)) else findK .str (.string (bs w)) es (i + 1) := by
  simp only [findK, sameKey, bs_beq]
  by_cases h : w = k
  · rw [if_pos h, decide_eq_true h]
  · rw [if_neg h, decide_eq_false h]
theorem is_upd {σ : Fm} {h : AH} {ck : CK} {m k x : Opd} {id : Nat} {kv : Value} {a : AV} {es es' : List (Value × AV)} (hm : evF σ m = .mapr id) (hk : evF σ k = .v kv) (hx : evF σ x = a) (ho : h.objs id = some (.map es)) (hf : findK ck kv es 0 = some none) (he : es ++ [(kv, a)] = es') :
    istep (.upd ck m k x) (evF σ) h = some (.v undef, h.set id (.map es')) := by
  subst he
  simp only [istep, hm, hk, hx, ho, updA, hf, Option.map_some]
theorem is_look {σ : Fm} {h : AH} {ck : CK} {z : AV} {x k : Opd} {id i : Nat} {kv : Value} {a : AV} {es : List (Value × AV)} (hx : evF σ x = .mapr id) (hk : evF σ k = .v kv) (ho : h.objs id = some (.map es)) (hf : findK ck kv es 0 = some (some (i, a))) :
    istep (.look ck z true x k) (evF σ) h = some (.tup [a, .v (.bool true)], h) := by
  simp only [istep, hx, hk, lookA, ho, hf, Option.map_some, if_true]
theorem is_look0 {σ : Fm} {h : AH} {ck : CK} {z : AV} {x k : Opd} {id : Nat} {kv : Value} {es : List (Value × AV)} (hx : evF σ x = .mapr id) (hk : evF σ k = .v kv) (ho : h.objs id = some (.map es)) (hf : findK ck kv es 0 = some none) :
    istep (.look ck z true x k) (evF σ) h = some (.tup [z, .v (.bool false)], h) := by
  simp only [istep, hx, hk, lookA, ho, hf, Option.map_some, if_true]
def ways (id : Nat) : List (Value × AV) := [(.string (bs [97, 108, 105, 97, 115]), .func (.func table_parser_alias) [.ptr id 0] []), (.string (bs [104, 111, 112]), .func (.func table_parser_hop) [.ptr id 0] []), (.string (bs [98, 97, 110]), .func (.func table_parser_ban) [.ptr id 0] []), (.string (bs [115, 105, 122, 101]), .func (.func table_parser_size) [.ptr id 0] [])]
/-- What a line does to a parser's tables and number of entries. -/
def lineN (n : Nat) : Option TB → Option (TB × Nat)
  | some t' => if n + 1 ≤ 200 then some (t', n + 1) else none
  | none => none
def lineO (l : List UInt8) (t : TB) (n : Nat) : Option (TB × Nat) := if skipB l then some (t, n) else lineN n (entryO t (splB 32 l))
def nR (n : Nat) : List AV := [.v (.int .i64 (n : Nat))]
def LineP (B : Nat) (h : AH) (id : Nat) (o : Option (TB × Nat)) (v : AV) (h' : AH) : Prop :=
  v = .v (.bool o.isSome) ∧ ExtI B id h h' ∧ ∀ t' n', o = some (t', n') → ∃ t1 t2 t3, TS B h' id t' (nR n') t1 t2 t3
theorem lineP_none {B : Nat} {h h' : AH} {id : Nat} (hE : ExtI B id h h') : LineP B h id none (.v (.bool false)) h' := ⟨rfl, hE, fun t' n' ht => by cases ht⟩
theorem TS.num {B : Nat} {h h2 : AH} {id : Nat} {t : TB} {rest rest2 : List AV} {t1 t2 t3 : Tok} (hT : TS B h id t rest t1 t2 t3) (hE : Ext h h2) : TS B (h2.set id (.cells (tabC t t1 t2 t3 ++ rest2))) id t rest2 t1 t2 t3 :=
  ⟨by rw [set_at, if_pos rfl], by rw [set_n]; exact Nat.lt_of_lt_of_le hT.lt hE.n, Nat.le_trans hT.nt hE.nt, (hT.u1.ext hE).set, (hT.u2.ext hE).set, (hT.u3.ext hE).set, hT.d12, hT.d13, hT.d23, hT.b1, hT.b2, hT.b3⟩
theorem line_way (fm : FuncId) (B : Nat) (id : Nat) (t : TB) (n : Nat) (t1 t2 t3 : Tok) (l w : List UInt8) (ws : List (List UInt8)) (o : Option TB) (h : AH) (hT : TS B h id t (nR n) t1 t2 t3) (hl : l.length ≤ 100000) (hn : n ≤ 1000) (hsk : skipB l = false) (hsp : splB 32 l = w :: ws) (j : Nat) (hf : findK .str (.string (bs w)) (ways id) 0 = some (some (j, .func (.func fm) [.ptr id 0] [])))
    (hm : ∀ (h2 : AH) tk, TS B h2 id t (nR (n + 1)) t1 t2 t3 → Call P w0 fm [.ptr id 0, .list 1 (srows ws) tk] h2 (MethP B h2 id o (nR (n + 1)))) :
    Call P w0 table_parser_line [.ptr id 0, .v (.string (bs l))] h (LineP B h id (lineN n o)) := by
  have xl := srows_len
  have xg := srows_get
  have hob := hT.ob
  have hlt := hT.lt
  have hspl := fun h => spl_call (w0 := w0) l 32 h (by omega)
  rw [hsp] at hspl
  have h0 : (w :: ws)[0]? = some w := rfl
  have hd1 : (srows (w :: ws)).drop 1 = srows ws := rfl
  have hln : (w :: ws).length = ws.length + 1 := rfl
  obtain ⟨c, l', rfl⟩ : ∃ c l', l = c :: l' := by
    cases l with
    | nil => simp [skipB] at hsk
    | cons c l' => exact ⟨c, l', rfl⟩
  have hc : ¬ (c.toNat : Int) = 35 := by
    intro e
    have : c = 35 := UInt8.toNat_inj.1 (by simpa using (by omega : c.toNat = 35))
    subst this
    simp [skipB] at hsk
  have hl0 : (c :: l')[0]? = some c := rfl
  have hne : ¬ (c :: l') = [] := by simp
  unfold tabC nR at hob
  unfold ways at hf
  refine Call.bodyF b_table_parser_line rfl rfl ?_
  unfold c_table_parser_line
  have htk : List.take (ws.length + 1 - 1) (srows ws) = srows ws := List.take_of_length_le (by rw [srows_len]; omega)
  generalize w :: ws = W at *
  generalize c :: l' = L at *
  have hXS : ∀ (h2 : AH) (o5 : AObj), Ext h h2 → ExtI B id h (h2.set id o5) := fun h2 o5 e => ExtX.set (I := fun i => i = id) (i := id) (.of e) (.inl rfl) _
  cases o with
  | none =>
    repeat' (first
    | ((with_reducible apply opsF.op rfl); (case hs => (first | exact tHT | exact tHS)))
    | with_reducible (first | apply opsF.nil | apply seqF.nn | apply vcF.seq | apply vcF.region | apply vcF.skip | apply vcF.ret | apply seqF.r)
    | ((with_reducible apply opsF.call); (case hx => exact tAG))
    | ((with_reducible apply opsF.want); (case hg => exact tEV); (case hb => exact tNB))
    | ((with_reducible apply opsF.skip); (case hg => exact tEV); (case hb => exact tNB))
    | (first | ((with_reducible apply opsF.case); (case hg => exact tEV)) | ((with_reducible apply vcF.cond); (case hx => exact tEV))) <;> ((intro hc; try simp only [Int.reduceLT, Int.reduceLE, Int.reduceEq, Int.reduceNe, Int.cast_ofNat_Int, Int.reduceNeg, decide_true, decide_false, not_true_eq_false, not_false_eq_true, decide_eq_true_eq, decide_eq_false_iff_not, Bool.not_eq_true', Bool.not_eq_false', Bool.not_true, Bool.not_false, Bool.false_eq_true, Bool.true_eq_false, Bool.not_eq_true, Bool.not_eq_false, beq_iff_eq, beq_eq_false_iff_ne, bne_iff_ne, bne_eq_false_iff_eq, ne_eq, Int.not_lt, Int.not_le, ge_iff_le, gt_iff_lt, Decidable.not_not, reduceCtorEq, *] at hc) <;> (try (exfalso; omega)))
    | ((with_reducible apply opsF.und); (case hg => rfl))
    | ((with_reducible apply opsF.callv); (case hf => exact tEV); (case hx => exact tCV))
    | ((with_reducible apply retF.r); (case hv => exact tRS))
    | ((with_reducible apply retF.nn); (case hv => exact tRS))
    | ((with_reducible apply opsF.op rfl); (case hs => ((with_reducible apply is_upd); (case hm => exact tEV); (case hk => exact tEV); (case hx => exact tEV); (case ho => exact tHE); (case hf => kernel_rfl); (case he => (simp only [List.nil_append, List.cons_append]; rfl)))))
    | ((with_reducible apply opsF.op rfl); (case hs => ((with_reducible apply is_look); (case hx => exact tEV); (case hk => exact tEV); (case ho => exact tHE); (case hf => exact hf))))
    | ((refine (hspl _).mono fun v h1 hq => ?_); obtain ⟨rfl, he⟩ := hq; have hN := he.n; have hO := he.objs; (try simp only [alloc_n, set_n, newTok_n, bump_n] at hN hO); have EXm : ∀ o0 o1 o2 o3 o4 : AObj, Ext h (((((h1.alloc o0).set h1.n o1).set h1.n o2).set h1.n o3).set h1.n o4) := fun o0 o1 o2 o3 o4 => ((((he.trans (Ext.alloc _ _)).set he.n _).set he.n _).set he.n _).set he.n _)
    | ((refine (hm _ _ (hT.num (EXm _ _ _ _ _))).mono fun v h3 hq => ?_); obtain ⟨rfl, hE3, hS3⟩ := hq))
    all_goals exact lineP_none ((hXS _ _ (EXm _ _ _ _ _)).trans hE3)
  | some t' =>
    by_cases hn2 : n + 1 ≤ 200
    · simp only [lineN, if_pos hn2]
      repeat' (first
    | ((with_reducible apply opsF.op rfl); (case hs => (first | exact tHT | exact tHS)))
    | with_reducible (first | apply opsF.nil | apply seqF.nn | apply vcF.seq | apply vcF.region | apply vcF.skip | apply vcF.ret | apply seqF.r)
    | ((with_reducible apply opsF.call); (case hx => exact tAG))
    | ((with_reducible apply opsF.want); (case hg => exact tEV); (case hb => exact tNB))
    | ((with_reducible apply opsF.skip); (case hg => exact tEV); (case hb => exact tNB))
    | (first | ((with_reducible apply opsF.case); (case hg => exact tEV)) | ((with_reducible apply vcF.cond); (case hx => exact tEV))) <;> ((intro hc; try simp only [Int.reduceLT, Int.reduceLE, Int.reduceEq, Int.reduceNe, Int.cast_ofNat_Int, Int.reduceNeg, decide_true, decide_false, not_true_eq_false, not_false_eq_true, decide_eq_true_eq, decide_eq_false_iff_not, Bool.not_eq_true', Bool.not_eq_false', Bool.not_true, Bool.not_false, Bool.false_eq_true, Bool.true_eq_false, Bool.not_eq_true, Bool.not_eq_false, beq_iff_eq, beq_eq_false_iff_ne, bne_iff_ne, bne_eq_false_iff_eq, ne_eq, Int.not_lt, Int.not_le, ge_iff_le, gt_iff_lt, Decidable.not_not, reduceCtorEq, *] at hc) <;> (try (exfalso; omega)))
    | ((with_reducible apply opsF.und); (case hg => rfl))
    | ((with_reducible apply opsF.callv); (case hf => exact tEV); (case hx => exact tCV))
    | ((with_reducible apply retF.r); (case hv => exact tRS))
    | ((with_reducible apply retF.nn); (case hv => exact tRS))
    | ((with_reducible apply opsF.op rfl); (case hs => ((with_reducible apply is_upd); (case hm => exact tEV); (case hk => exact tEV); (case hx => exact tEV); (case ho => exact tHE); (case hf => kernel_rfl); (case he => (simp only [List.nil_append, List.cons_append]; rfl)))))
    | ((with_reducible apply opsF.op rfl); (case hs => ((with_reducible apply is_look); (case hx => exact tEV); (case hk => exact tEV); (case ho => exact tHE); (case hf => exact hf))))
    | ((refine (hspl _).mono fun v h1 hq => ?_); obtain ⟨rfl, he⟩ := hq; have hN := he.n; have hO := he.objs; (try simp only [alloc_n, set_n, newTok_n, bump_n] at hN hO); have EXm : ∀ o0 o1 o2 o3 o4 : AObj, Ext h (((((h1.alloc o0).set h1.n o1).set h1.n o2).set h1.n o3).set h1.n o4) := fun o0 o1 o2 o3 o4 => ((((he.trans (Ext.alloc _ _)).set he.n _).set he.n _).set he.n _).set he.n _)
    | ((refine (hm _ _ (hT.num (EXm _ _ _ _ _))).mono fun v h3 hq => ?_); obtain ⟨rfl, hE3, hS3⟩ := hq; obtain ⟨u1, u2, u3, hT3⟩ := hS3 t' rfl; have hob3 := hT3.ob; unfold tabC nR at hob3))
      refine ⟨?_, (hXS _ _ (EXm _ _ _ _ _)).trans hE3, fun t2 n2 h => by cases h; exact ⟨u1, u2, u3, hT3⟩⟩
      simp only [Option.isSome_some]
      congr 3
      first | exact decide_eq_true (by omega) | rfl
    · simp only [lineN, if_neg hn2]
      repeat' (first
    | ((with_reducible apply opsF.op rfl); (case hs => (first | exact tHT | exact tHS)))
    | with_reducible (first | apply opsF.nil | apply seqF.nn | apply vcF.seq | apply vcF.region | apply vcF.skip | apply vcF.ret | apply seqF.r)
    | ((with_reducible apply opsF.call); (case hx => exact tAG))
    | ((with_reducible apply opsF.want); (case hg => exact tEV); (case hb => exact tNB))
    | ((with_reducible apply opsF.skip); (case hg => exact tEV); (case hb => exact tNB))
    | (first | ((with_reducible apply opsF.case); (case hg => exact tEV)) | ((with_reducible apply vcF.cond); (case hx => exact tEV))) <;> ((intro hc; try simp only [Int.reduceLT, Int.reduceLE, Int.reduceEq, Int.reduceNe, Int.cast_ofNat_Int, Int.reduceNeg, decide_true, decide_false, not_true_eq_false, not_false_eq_true, decide_eq_true_eq, decide_eq_false_iff_not, Bool.not_eq_true', Bool.not_eq_false', Bool.not_true, Bool.not_false, Bool.false_eq_true, Bool.true_eq_false, Bool.not_eq_true, Bool.not_eq_false, beq_iff_eq, beq_eq_false_iff_ne, bne_iff_ne, bne_eq_false_iff_eq, ne_eq, Int.not_lt, Int.not_le, ge_iff_le, gt_iff_lt, Decidable.not_not, reduceCtorEq, *] at hc) <;> (try (exfalso; omega)))
    | ((with_reducible apply opsF.und); (case hg => rfl))
    | ((with_reducible apply opsF.callv); (case hf => exact tEV); (case hx => exact tCV))
    | ((with_reducible apply retF.r); (case hv => exact tRS))
    | ((with_reducible apply retF.nn); (case hv => exact tRS))
    | ((with_reducible apply opsF.op rfl); (case hs => ((with_reducible apply is_upd); (case hm => exact tEV); (case hk => exact tEV); (case hx => exact tEV); (case ho => exact tHE); (case hf => kernel_rfl); (case he => (simp only [List.nil_append, List.cons_append]; rfl)))))
    | ((with_reducible apply opsF.op rfl); (case hs => ((with_reducible apply is_look); (case hx => exact tEV); (case hk => exact tEV); (case ho => exact tHE); (case hf => exact hf))))
    | ((refine (hspl _).mono fun v h1 hq => ?_); obtain ⟨rfl, he⟩ := hq; have hN := he.n; have hO := he.objs; (try simp only [alloc_n, set_n, newTok_n, bump_n] at hN hO); have EXm : ∀ o0 o1 o2 o3 o4 : AObj, Ext h (((((h1.alloc o0).set h1.n o1).set h1.n o2).set h1.n o3).set h1.n o4) := fun o0 o1 o2 o3 o4 => ((((he.trans (Ext.alloc _ _)).set he.n _).set he.n _).set he.n _).set he.n _)
    | ((refine (hm _ _ (hT.num (EXm _ _ _ _ _))).mono fun v h3 hq => ?_); obtain ⟨rfl, hE3, hS3⟩ := hq; obtain ⟨u1, u2, u3, hT3⟩ := hS3 t' rfl; have hob3 := hT3.ob; unfold tabC nR at hob3))
      all_goals first | rw [decide_eq_false (by omega)] | skip
      all_goals exact lineP_none ((hXS _ _ (EXm _ _ _ _ _)).trans hE3)
theorem line_call (hP : PowTab w0) (hEv : ErrVars w0) (B : Nat) (id : Nat) (t : TB) (n : Nat) (t1 t2 t3 : Tok) (l : List UInt8) (h : AH) (hT : TS B h id t (nR n) t1 t2 t3) (hl : l.length ≤ 100000) (hn : n ≤ 1000) (hb : t.1.length ≤ 1000 ∧ t.2.1.length ≤ 1000 ∧ t.2.2.1.length ≤ 1000) :
    Call P w0 table_parser_line [.ptr id 0, .v (.string (bs l))] h (LineP B h id (lineO l t n)) := by
  obtain ⟨hb1, hb2, hb3⟩ := hb
  cases hsk : skipB l with
  | true =>
    have hlo : lineO l t n = some (t, n) := by rw [lineO, hsk]; rfl
    rw [hlo]
    refine Call.bodyF b_table_parser_line rfl rfl ?_
    unfold c_table_parser_line
    have fin : LineP B h id (some (t, n)) (.v (.bool true)) h := ⟨rfl, .of (.refl _), fun t' n' e => by cases e; exact ⟨t1, t2, t3, hT⟩⟩
    cases l with
    | nil =>
      repeat' (first
    | ((with_reducible apply opsF.op rfl); (case hs => (first | exact tHT | exact tHS)))
    | with_reducible (first | apply opsF.nil | apply seqF.nn | apply vcF.seq | apply vcF.region | apply vcF.skip | apply vcF.ret | apply seqF.r)
    | ((with_reducible apply opsF.call); (case hx => exact tAG))
    | ((with_reducible apply opsF.want); (case hg => exact tEV); (case hb => exact tNB))
    | ((with_reducible apply opsF.skip); (case hg => exact tEV); (case hb => exact tNB))
    | (first | ((with_reducible apply opsF.case); (case hg => exact tEV)) | ((with_reducible apply vcF.cond); (case hx => exact tEV))) <;> ((intro hc; try simp only [Int.reduceLT, Int.reduceLE, Int.reduceEq, Int.reduceNe, Int.cast_ofNat_Int, Int.reduceNeg, decide_true, decide_false, not_true_eq_false, not_false_eq_true, decide_eq_true_eq, decide_eq_false_iff_not, Bool.not_eq_true', Bool.not_eq_false', Bool.not_true, Bool.not_false, Bool.false_eq_true, Bool.true_eq_false, Bool.not_eq_true, Bool.not_eq_false, beq_iff_eq, beq_eq_false_iff_ne, bne_iff_ne, bne_eq_false_iff_eq, ne_eq, Int.not_lt, Int.not_le, ge_iff_le, gt_iff_lt, Decidable.not_not, reduceCtorEq, *] at hc) <;> (try (exfalso; omega)))
    | ((with_reducible apply opsF.und); (case hg => rfl))
    | ((with_reducible apply opsF.callv); (case hf => exact tEV); (case hx => exact tCV))
    | ((with_reducible apply retF.r); (case hv => exact tRS))
    | ((with_reducible apply retF.nn); (case hv => exact tRS)))
      all_goals exact fin
    | cons c l' =>
      have hc : c = 35 := by simpa [skipB] using hsk
      subst hc
      have hl0 : (35 :: l')[0]? = some (35 : UInt8) := rfl
      have hne : ¬ ((35 : UInt8) :: l') = [] := by simp
      have e35 : ((35 : UInt8).toNat : Int) = 35 := rfl
      generalize ((35 : UInt8) :: l') = L at *
      repeat' (first
    | ((with_reducible apply opsF.op rfl); (case hs => (first | exact tHT | exact tHS)))
    | with_reducible (first | apply opsF.nil | apply seqF.nn | apply vcF.seq | apply vcF.region | apply vcF.skip | apply vcF.ret | apply seqF.r)
    | ((with_reducible apply opsF.call); (case hx => exact tAG))
    | ((with_reducible apply opsF.want); (case hg => exact tEV); (case hb => exact tNB))
    | ((with_reducible apply opsF.skip); (case hg => exact tEV); (case hb => exact tNB))
    | (first | ((with_reducible apply opsF.case); (case hg => exact tEV)) | ((with_reducible apply vcF.cond); (case hx => exact tEV))) <;> ((intro hc; try simp only [Int.reduceLT, Int.reduceLE, Int.reduceEq, Int.reduceNe, Int.cast_ofNat_Int, Int.reduceNeg, decide_true, decide_false, not_true_eq_false, not_false_eq_true, decide_eq_true_eq, decide_eq_false_iff_not, Bool.not_eq_true', Bool.not_eq_false', Bool.not_true, Bool.not_false, Bool.false_eq_true, Bool.true_eq_false, Bool.not_eq_true, Bool.not_eq_false, beq_iff_eq, beq_eq_false_iff_ne, bne_iff_ne, bne_eq_false_iff_eq, ne_eq, Int.not_lt, Int.not_le, ge_iff_le, gt_iff_lt, Decidable.not_not, reduceCtorEq, *] at hc) <;> (try (exfalso; omega)))
    | ((with_reducible apply opsF.und); (case hg => rfl))
    | ((with_reducible apply opsF.callv); (case hf => exact tEV); (case hx => exact tCV))
    | ((with_reducible apply retF.r); (case hv => exact tRS))
    | ((with_reducible apply retF.nn); (case hv => exact tRS)))
      all_goals exact fin
  | false =>
    have hlo : lineO l t n = lineN n (entryO t (splB 32 l)) := by rw [lineO, hsk]; rfl
    rw [hlo]
    have hne := splB_ne 32 l
    have hsl := splB_len (c := 32) l.length (Nat.le_refl _)
    have hwm : ∀ w ∈ splB 32 l, w.length ≤ 1000000 := fun w hw => by
      have := splB_mem l.length (Nat.le_refl _) hw
      omega
    cases hsp : splB 32 l with
    | nil => exact absurd hsp hne
    | cons w ws =>
      rw [hsp] at hsl hwm
      simp only [List.length_cons] at hsl
      have hwm2 : ∀ x ∈ ws, x.length ≤ 1000000 := fun x hx => hwm x (by simp [hx])
      by_cases k1 : w = [97, 108, 105, 97, 115]
      · refine line_way table_parser_alias B id t n t1 t2 t3 l w ws _ h hT hl hn hsk hsp 0 (by rw [ways, findK_cons, if_pos k1]) fun h2 tk hT2 => ?_
        rw [entryO, if_pos k1]
        exact alias_call B id t _ t1 t2 t3 ws tk h2 hT2 hwm2 (by omega) (by omega)
      by_cases k2 : w = [104, 111, 112]
      · refine line_way table_parser_hop B id t n t1 t2 t3 l w ws _ h hT hl hn hsk hsp 1 (by rw [ways, findK_cons, if_neg k1, findK_cons, if_pos k2]) fun h2 tk hT2 => ?_
        rw [entryO, if_neg k1, if_pos k2]
        exact hop_call B id t _ t1 t2 t3 ws tk h2 hT2 hwm2 (by omega) (by omega)
      by_cases k3 : w = [98, 97, 110]
      · refine line_way table_parser_ban B id t n t1 t2 t3 l w ws _ h hT hl hn hsk hsp 2 (by rw [ways, findK_cons, if_neg k1, findK_cons, if_neg k2, findK_cons, if_pos k3]) fun h2 tk hT2 => ?_
        rw [entryO, if_neg k1, if_neg k2, if_pos k3]
        exact ban_call B id t _ t1 t2 t3 ws tk h2 hT2 hwm2 (by omega) (by omega)
      by_cases k4 : w = [115, 105, 122, 101]
      · refine line_way table_parser_size B id t n t1 t2 t3 l w ws _ h hT hl hn hsk hsp 3 (by rw [ways, findK_cons, if_neg k1, findK_cons, if_neg k2, findK_cons, if_neg k3, findK_cons, if_pos k4]) fun h2 tk hT2 => ?_
        rw [entryO, if_neg k1, if_neg k2, if_neg k3, if_pos k4]
        exact size_call hP hEv B id t _ t1 t2 t3 ws tk h2 hT2 hwm2 (by omega)
      have hf : findK .str (.string (bs w)) (ways id) 0 = some none := by rw [ways, findK_cons, if_neg k1, findK_cons, if_neg k2, findK_cons, if_neg k3, findK_cons, if_neg k4]; rfl
      rw [entryO, if_neg k1, if_neg k2, if_neg k3, if_neg k4]
      clear k1 k2 k3 k4
      have xl := srows_len
      have xg := srows_get
      have hob := hT.ob
      have hlt := hT.lt
      have hspl := fun h => spl_call (w0 := w0) l 32 h (by omega)
      rw [hsp] at hspl
      have h0 : (w :: ws)[0]? = some w := rfl
      have hd1 : (srows (w :: ws)).drop 1 = srows ws := rfl
      have hln : (w :: ws).length = ws.length + 1 := rfl
      obtain ⟨c, l', rfl⟩ : ∃ c l', l = c :: l' := by
        cases l with
        | nil => simp [skipB] at hsk
        | cons c l' => exact ⟨c, l', rfl⟩
      have hc : ¬ (c.toNat : Int) = 35 := by
        intro e
        have : c = 35 := UInt8.toNat_inj.1 (by simpa using (by omega : c.toNat = 35))
        subst this
        simp [skipB] at hsk
      have hl0 : (c :: l')[0]? = some c := rfl
      have hne2 : ¬ (c :: l') = [] := by simp
      unfold tabC nR at hob
      unfold ways at hf
      refine Call.bodyF b_table_parser_line rfl rfl ?_
      unfold c_table_parser_line
      clear hwm hwm2 hne
      generalize w :: ws = W at *
      generalize c :: l' = L at *
      have hXS : ∀ (h2 : AH) (o5 : AObj), Ext h h2 → ExtI B id h (h2.set id o5) := fun h2 o5 e => ExtX.set (I := fun i => i = id) (i := id) (.of e) (.inl rfl) _
      repeat' (first
    | ((with_reducible apply opsF.op rfl); (case hs => (first | exact tHT | exact tHS)))
    | with_reducible (first | apply opsF.nil | apply seqF.nn | apply vcF.seq | apply vcF.region | apply vcF.skip | apply vcF.ret | apply seqF.r)
    | ((with_reducible apply opsF.call); (case hx => exact tAG))
    | ((with_reducible apply opsF.want); (case hg => exact tEV); (case hb => exact tNB))
    | ((with_reducible apply opsF.skip); (case hg => exact tEV); (case hb => exact tNB))
    | (first | ((with_reducible apply opsF.case); (case hg => exact tEV)) | ((with_reducible apply vcF.cond); (case hx => exact tEV))) <;> ((intro hc; try simp only [Int.reduceLT, Int.reduceLE, Int.reduceEq, Int.reduceNe, Int.cast_ofNat_Int, Int.reduceNeg, decide_true, decide_false, not_true_eq_false, not_false_eq_true, decide_eq_true_eq, decide_eq_false_iff_not, Bool.not_eq_true', Bool.not_eq_false', Bool.not_true, Bool.not_false, Bool.false_eq_true, Bool.true_eq_false, Bool.not_eq_true, Bool.not_eq_false, beq_iff_eq, beq_eq_false_iff_ne, bne_iff_ne, bne_eq_false_iff_eq, ne_eq, Int.not_lt, Int.not_le, ge_iff_le, gt_iff_lt, Decidable.not_not, reduceCtorEq, *] at hc) <;> (try (exfalso; omega)))
    | ((with_reducible apply opsF.und); (case hg => rfl))
    | ((with_reducible apply opsF.callv); (case hf => exact tEV); (case hx => exact tCV))
    | ((with_reducible apply retF.r); (case hv => exact tRS))
    | ((with_reducible apply retF.nn); (case hv => exact tRS))
    | ((with_reducible apply opsF.op rfl); (case hs => ((with_reducible apply is_upd); (case hm => exact tEV); (case hk => exact tEV); (case hx => exact tEV); (case ho => exact tHE); (case hf => kernel_rfl); (case he => (simp only [List.nil_append, List.cons_append]; rfl)))))
    | ((with_reducible apply opsF.op rfl); (case hs => ((with_reducible apply is_look0); (case hx => exact tEV); (case hk => exact tEV); (case ho => exact tHE); (case hf => exact hf))))
    | ((refine (hspl _).mono fun v h1 hq => ?_); obtain ⟨rfl, he⟩ := hq; have hN := he.n; have hO := he.objs; (try simp only [alloc_n, set_n, newTok_n, bump_n] at hN hO); have EXm : ∀ o0 o1 o2 o3 o4 : AObj, Ext h (((((h1.alloc o0).set h1.n o1).set h1.n o2).set h1.n o3).set h1.n o4) := fun o0 o1 o2 o3 o4 => ((((he.trans (Ext.alloc _ _)).set he.n _).set he.n _).set he.n _).set he.n _))
      all_goals exact lineP_none (hXS _ _ (EXm _ _ _ _ _))
end Go.Abs.F
