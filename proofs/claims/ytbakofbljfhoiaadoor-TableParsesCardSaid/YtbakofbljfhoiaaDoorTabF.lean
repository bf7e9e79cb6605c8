/- Tables: the reference's bans, sizes; its Parse. -/
import Derived.Test.YtbakofbljfhoiaaDoorTabE
import Derived.Test.YtbakofbljfhoiaaDoorTabD
import Derived.Test.YtbakofbljfhoiaaDoorDig
namespace Go.Abs.F
open Go Go.Abs
set_option maxRecDepth 10000
set_option maxHeartbeats 20000000
set_option linter.unusedSimpArgs false
set_option linter.unusedVariables false
variable {w0 : World}
theorem sizeN_eq (w : List UInt8) : sizeN w = if w ≠ [] ∧ w.length ≤ 5 ∧ w.head? ≠ some 48 ∧ w.all digB = true ∧ 1 ≤ valB 0 w ∧ valB 0 w ≤ 65536 then some ((valB 0 w : Nat) : Int) else none := by
  by_cases hc : w ≠ [] ∧ w.length ≤ 5 ∧ w.head? ≠ some 48 ∧ w.all digB = true
  · obtain ⟨h1, h2, h3, h4⟩ := hc
    obtain ⟨h5, h6⟩ := udecS_val w.length w rfl h1 h3 h4
    rw [sizeN, atoi_dig h1 (by omega) h4]
    simp only [decS_nat, h5, true_and]
    by_cases h7 : valB 0 w ≤ 65536
    · rw [if_pos ⟨by omega, by omega⟩, if_pos ⟨h1, h2, h3, h4, h6, h7⟩]
    · rw [if_neg (fun e => h7 (by omega)), if_neg (fun e => h7 e.2.2.2.2.2)]
  · rw [if_neg (fun e => hc ⟨e.1, e.2.1, e.2.2.1, e.2.2.2.1⟩)]
    rw [sizeN]
    split
    · rename_i n hn
      rw [if_neg]
      rintro ⟨e1, e2, e3⟩
      apply hc
      have hw : w = udecS n.toNat := by rw [← e1, ← decS_nat, Int.toNat_of_nonneg (by omega)]
      have hl := udecS_len 4 n.toNat (by omega)
      rw [hw]
      exact ⟨udecS_ne _, by omega, udecS_head _ (by omega), udecS_dig _⟩
    · rfl
theorem dom_at {w : List UInt8} (h : (64 : UInt8) ∈ w) : domainS w = false := by
  have hp : ∀ n (w : List UInt8), w.length ≤ n → (64 : UInt8) ∈ w → ∃ p ∈ splB 46 w, (64 : UInt8) ∈ p := by
    intro n
    induction n with
    | zero =>
      intro w hl hm
      cases w with
      | nil => cases hm
      | cons a b => simp at hl
    | succ n ih =>
      intro w hl hm
      rcases cutB_cases 46 w with ⟨g1, _⟩ | ⟨a, r, rfl, g2, _⟩
      · rw [splB_miss g1]; exact ⟨w, by simp, hm⟩
      · rw [splB_hit g2]
        rcases List.mem_append.1 hm with hm | hm
        · exact ⟨a, by simp, hm⟩
        · rcases List.mem_cons.1 hm with hm | hm
          · exact absurd hm (by decide)
          · obtain ⟨p, hp, hm2⟩ := ih r (by simp at hl; omega) hm
            exact ⟨p, by simp [hp], hm2⟩
  obtain ⟨p, hp1, hp2⟩ := hp w.length w (Nat.le_refl _) h
  have hl : labelS p = false := by
    have : fullP innerB p = false := by
      have hi : innerB 64 = false := by decide
      rw [fullP]
      have : p.all innerB = false := by
        rw [List.all_eq_false]; exact ⟨64, hp2, by simp [hi]⟩
      rw [this, Bool.and_false]
    rw [labelS, this, Bool.and_false, Bool.false_and, Bool.false_and]
  rw [domainS]
  have : (splB 46 w).all labelS = false := by
    rw [List.all_eq_false]; exact ⟨p, hp1, by simp [hl]⟩
  rw [this, Bool.and_false]
theorem canon_no {w : List UInt8} (h : (64 : UInt8) ∉ w) : canonO w = none := by
  have hc : cutB 64 w = (w, [], false) := by
    rcases cutB_cases 64 w with ⟨_, g⟩ | ⟨a, r, rfl, _, _⟩
    · exact g
    · exact absurd (by simp) h
  rw [canonO, splitO, hc]
  simp
theorem banN_eq (w : List UInt8) : banN w = match canonO w with
    | some c => some c
    | none => if domainS w then some (lowerS w) else none := by
  rw [banN]
  by_cases h : (64 : UInt8) ∈ w
  · rw [show w.contains 64 = true by simpa using h, dom_at h]
    cases canonO w <;> rfl
  · rw [show w.contains 64 = false by simpa using h, canon_no h]
    rfl
theorem rban_any (B : Nat) (id : Nat) (t : TB) (rest : List AV) (t1 t2 t3 : Tok) (ws : List (List UInt8)) (tkw : Tok) (h : AH) (hT : TS B h id t rest t1 t2 t3) (hw : ∀ w ∈ ws, w.length ≤ 1000000) (hl : ws.length ≤ 1000000) (htl : t.2.2.1.length ≤ 1000000) :
    Call P w0 ref14_entry [.ptr id 0, .list 1 (srows ([98, 97, 110] :: ws)) tkw] h (MethP B h id (banO t ws) rest) := by
  have xl := srows_len
  have xg := srows_get
  have hob := hT.ob
  have hlt := hT.lt
  unfold tabC at hob
  have k1 : ¬ ([98, 97, 110] : List UInt8) = [97, 108, 105, 97, 115] := by decide
  have k2 : ¬ ([98, 97, 110] : List UInt8) = [104, 111, 112] := by decide
  have hW0 : ([98, 97, 110] :: ws : List (List UInt8))[0]? = some [98, 97, 110] := rfl
  have hWn : ([98, 97, 110] :: ws : List (List UInt8)).length = ws.length + 1 := rfl
  refine Call.bodyF b_ref14_entry rfl rfl ?_
  unfold c_ref14_entry
  by_cases hl2 : ws.length = 2
  · obtain ⟨a, b, rfl⟩ : ∃ a b, ws = [a, b] := by
      match ws, hl2 with
      | [a, b], _ => exact ⟨a, b, rfl⟩
    have hW1 : ([98, 97, 110] :: [a, b] : List (List UInt8))[1]? = some a := rfl
    have hW2 : ([98, 97, 110] :: [a, b] : List (List UInt8))[2]? = some b := rfl
    have hW3 : (([98, 97, 110] :: [a, b] : List (List UInt8)).length : Int) = 3 := rfl
    have hal := hw a (by simp)
    have hbl := hw b (by simp)
    have hdb := fun h => rdom_p (w0 := w0) b h (by omega)
    have hlb := fun h => rlow_p (w0 := w0) b h (by omega)
    have hcb := fun h => rcanon_p (w0 := w0) b h (by omega)
    rw [banO, banN_eq]
    clear hw hl hl2 hWn
    generalize ([98, 97, 110] :: [a, b] : List (List UInt8)) = W at *
    obtain ⟨tok1, h6, hap, hT2, hT3, hT4, hT5, hT6⟩ := hT.u3.app
    have hX : ∀ cs, ExtI B id h (h6.set id cs) := fun cs => ExtX.set (I := fun i => i = id) (i := id) ((hT6.mono (fun _ x => x.elim) fun x hx => hT.b3 x hx)) (.inl rfl) _
    by_cases ha : a = [102, 114, 111, 109] ∨ a = [116, 111]
    · rw [if_pos ha]
      rcases Classical.em (a = [102, 114, 111, 109]) with ha1 | ha1
      · rw [decide_eq_true ha1]
        have ha2 : (a = [102, 114, 111, 109]) = True := eq_true ha1
        clear ha ha1
        cases hcn : canonO b with
        | some n =>
          rw [hcn] at hcb
          simp only [optV] at hcb
          repeat' (first
    | ((with_reducible apply opsF.op rfl); (case hs => (first | exact tHT | exact tHS)))
    | with_reducible (first | apply opsF.nil | apply seqF.nn | apply vcF.seq | apply vcF.region | apply vcF.dregion | apply vcF.skip | apply vcF.block | apply vcF.exit | apply vcF.ret | apply vcF.loop | apply seqF.e | apply seqF.r | apply blkF.nn | apply blkF.e | apply blkF.r | apply blkF.o rfl | apply dopsF.nil | apply stabsF.nil | apply stabsF.cons | apply dopsF.cont)
    | ((with_reducible apply opsF.call); (case hx => exact tAG))
    | ((with_reducible apply opsF.want); (case hg => exact tEV); (case hb => exact tNB))
    | ((with_reducible apply opsF.skip); (case hg => exact tEV); (case hb => exact tNB))
    | (first | ((with_reducible apply opsF.case); (case hg => exact tEV)) | ((with_reducible apply vcF.cond); (case hx => exact tEV)) | ((with_reducible apply dopsF.case); (case hg => exact tEV))) <;> ((intro hc; try simp only [Int.reduceLT, Int.reduceLE, Int.reduceEq, Int.reduceNe, Int.cast_ofNat_Int, Int.reduceNeg, decide_true, decide_false, not_true_eq_false, not_false_eq_true, decide_eq_true_eq, decide_eq_false_iff_not, Bool.not_eq_true', Bool.not_eq_false', Bool.not_true, Bool.not_false, Bool.false_eq_true, Bool.true_eq_false, Bool.not_eq_true, Bool.not_eq_false, beq_iff_eq, beq_eq_false_iff_ne, bne_iff_ne, bne_eq_false_iff_eq, ne_eq, Int.not_lt, Int.not_le, ge_iff_le, gt_iff_lt, Decidable.not_not, reduceCtorEq, *] at hc) <;> (try (exfalso; omega)))
    | ((with_reducible apply opsF.und); (case hg => rfl))
    | ((with_reducible apply dopsF.op rfl); (case hs => (first | exact tHT | exact tHS)))
    | ((with_reducible apply dopsF.call); (case hx => exact tAG))
    | ((with_reducible apply dopsF.want); (case hg => exact tEV); (case hb => exact tNB))
    | ((with_reducible apply dopsF.skip); (case hg => exact tEV); (case hb => exact tNB))
    | ((with_reducible apply dopsF.und); (case hg => rfl))
    | ((with_reducible apply stabF.und); rfl)
    | ((with_reducible apply stabF.want); (case hg => exact tEV); (case hb => exact tNB))
    | ((with_reducible apply stabF.skip); (case hg => exact tEV); (case hb => exact tNB))
    | ((with_reducible apply stabF.op); (case hs => (first | exact tHT | exact tHS)); (case hv => exact tSV))
    | ((with_reducible apply retF.r); (case hv => exact tRS))
    | ((with_reducible apply retF.nn); (case hv => exact tRS))
    | ((refine Call.use (hdb _) ?_))
    | ((refine Call.use (hlb _) ?_))
    | ((refine Call.use (hcb _) ?_)))
          have k := TS.up3 hT (.refl _) hT2 hT3 hT5 hT6 (true, n)
          simpa only [tabC, List.map_append, List.map_cons, List.map_nil, brow, List.cons_append, List.nil_append, List.set_cons_succ, List.set_cons_zero, Option.map_some, if_true, decide_true, decide_false] using k
        | none =>
          rw [hcn] at hcb
          simp only [optV] at hcb
          cases hd : domainS b
          · rw [hd] at hdb
            repeat' (first
    | ((with_reducible apply opsF.op rfl); (case hs => (first | exact tHT | exact tHS)))
    | with_reducible (first | apply opsF.nil | apply seqF.nn | apply vcF.seq | apply vcF.region | apply vcF.dregion | apply vcF.skip | apply vcF.block | apply vcF.exit | apply vcF.ret | apply vcF.loop | apply seqF.e | apply seqF.r | apply blkF.nn | apply blkF.e | apply blkF.r | apply blkF.o rfl | apply dopsF.nil | apply stabsF.nil | apply stabsF.cons | apply dopsF.cont)
    | ((with_reducible apply opsF.call); (case hx => exact tAG))
    | ((with_reducible apply opsF.want); (case hg => exact tEV); (case hb => exact tNB))
    | ((with_reducible apply opsF.skip); (case hg => exact tEV); (case hb => exact tNB))
    | (first | ((with_reducible apply opsF.case); (case hg => exact tEV)) | ((with_reducible apply vcF.cond); (case hx => exact tEV)) | ((with_reducible apply dopsF.case); (case hg => exact tEV))) <;> ((intro hc; try simp only [Int.reduceLT, Int.reduceLE, Int.reduceEq, Int.reduceNe, Int.cast_ofNat_Int, Int.reduceNeg, decide_true, decide_false, not_true_eq_false, not_false_eq_true, decide_eq_true_eq, decide_eq_false_iff_not, Bool.not_eq_true', Bool.not_eq_false', Bool.not_true, Bool.not_false, Bool.false_eq_true, Bool.true_eq_false, Bool.not_eq_true, Bool.not_eq_false, beq_iff_eq, beq_eq_false_iff_ne, bne_iff_ne, bne_eq_false_iff_eq, ne_eq, Int.not_lt, Int.not_le, ge_iff_le, gt_iff_lt, Decidable.not_not, reduceCtorEq, *] at hc) <;> (try (exfalso; omega)))
    | ((with_reducible apply opsF.und); (case hg => rfl))
    | ((with_reducible apply dopsF.op rfl); (case hs => (first | exact tHT | exact tHS)))
    | ((with_reducible apply dopsF.call); (case hx => exact tAG))
    | ((with_reducible apply dopsF.want); (case hg => exact tEV); (case hb => exact tNB))
    | ((with_reducible apply dopsF.skip); (case hg => exact tEV); (case hb => exact tNB))
    | ((with_reducible apply dopsF.und); (case hg => rfl))
    | ((with_reducible apply stabF.und); rfl)
    | ((with_reducible apply stabF.want); (case hg => exact tEV); (case hb => exact tNB))
    | ((with_reducible apply stabF.skip); (case hg => exact tEV); (case hb => exact tNB))
    | ((with_reducible apply stabF.op); (case hs => (first | exact tHT | exact tHS)); (case hv => exact tSV))
    | ((with_reducible apply retF.r); (case hv => exact tRS))
    | ((with_reducible apply retF.nn); (case hv => exact tRS))
    | ((refine Call.use (hdb _) ?_))
    | ((refine Call.use (hlb _) ?_))
    | ((refine Call.use (hcb _) ?_)))
            all_goals exact methP_none (hX _)
          · rw [hd] at hdb
            repeat' (first
    | ((with_reducible apply opsF.op rfl); (case hs => (first | exact tHT | exact tHS)))
    | with_reducible (first | apply opsF.nil | apply seqF.nn | apply vcF.seq | apply vcF.region | apply vcF.dregion | apply vcF.skip | apply vcF.block | apply vcF.exit | apply vcF.ret | apply vcF.loop | apply seqF.e | apply seqF.r | apply blkF.nn | apply blkF.e | apply blkF.r | apply blkF.o rfl | apply dopsF.nil | apply stabsF.nil | apply stabsF.cons | apply dopsF.cont)
    | ((with_reducible apply opsF.call); (case hx => exact tAG))
    | ((with_reducible apply opsF.want); (case hg => exact tEV); (case hb => exact tNB))
    | ((with_reducible apply opsF.skip); (case hg => exact tEV); (case hb => exact tNB))
    | (first | ((with_reducible apply opsF.case); (case hg => exact tEV)) | ((with_reducible apply vcF.cond); (case hx => exact tEV)) | ((with_reducible apply dopsF.case); (case hg => exact tEV))) <;> ((intro hc; try simp only [Int.reduceLT, Int.reduceLE, Int.reduceEq, Int.reduceNe, Int.cast_ofNat_Int, Int.reduceNeg, decide_true, decide_false, not_true_eq_false, not_false_eq_true, decide_eq_true_eq, decide_eq_false_iff_not, Bool.not_eq_true', Bool.not_eq_false', Bool.not_true, Bool.not_false, Bool.false_eq_true, Bool.true_eq_false, Bool.not_eq_true, Bool.not_eq_false, beq_iff_eq, beq_eq_false_iff_ne, bne_iff_ne, bne_eq_false_iff_eq, ne_eq, Int.not_lt, Int.not_le, ge_iff_le, gt_iff_lt, Decidable.not_not, reduceCtorEq, *] at hc) <;> (try (exfalso; omega)))
    | ((with_reducible apply opsF.und); (case hg => rfl))
    | ((with_reducible apply dopsF.op rfl); (case hs => (first | exact tHT | exact tHS)))
    | ((with_reducible apply dopsF.call); (case hx => exact tAG))
    | ((with_reducible apply dopsF.want); (case hg => exact tEV); (case hb => exact tNB))
    | ((with_reducible apply dopsF.skip); (case hg => exact tEV); (case hb => exact tNB))
    | ((with_reducible apply dopsF.und); (case hg => rfl))
    | ((with_reducible apply stabF.und); rfl)
    | ((with_reducible apply stabF.want); (case hg => exact tEV); (case hb => exact tNB))
    | ((with_reducible apply stabF.skip); (case hg => exact tEV); (case hb => exact tNB))
    | ((with_reducible apply stabF.op); (case hs => (first | exact tHT | exact tHS)); (case hv => exact tSV))
    | ((with_reducible apply retF.r); (case hv => exact tRS))
    | ((with_reducible apply retF.nn); (case hv => exact tRS))
    | ((refine Call.use (hdb _) ?_))
    | ((refine Call.use (hlb _) ?_))
    | ((refine Call.use (hcb _) ?_)))
            have k := TS.up3 hT (.refl _) hT2 hT3 hT5 hT6 (true, lowerS b)
            simpa only [tabC, List.map_append, List.map_cons, List.map_nil, brow, List.cons_append, List.nil_append, List.set_cons_succ, List.set_cons_zero, Option.map_some, if_true, decide_true, decide_false] using k
      · rw [decide_eq_false ha1]
        have ha2 : (a = [116, 111]) = True := eq_true (ha.resolve_left ha1)
        clear ha
        cases hcn : canonO b with
        | some n =>
          rw [hcn] at hcb
          simp only [optV] at hcb
          repeat' (first
    | ((with_reducible apply opsF.op rfl); (case hs => (first | exact tHT | exact tHS)))
    | with_reducible (first | apply opsF.nil | apply seqF.nn | apply vcF.seq | apply vcF.region | apply vcF.dregion | apply vcF.skip | apply vcF.block | apply vcF.exit | apply vcF.ret | apply vcF.loop | apply seqF.e | apply seqF.r | apply blkF.nn | apply blkF.e | apply blkF.r | apply blkF.o rfl | apply dopsF.nil | apply stabsF.nil | apply stabsF.cons | apply dopsF.cont)
    | ((with_reducible apply opsF.call); (case hx => exact tAG))
    | ((with_reducible apply opsF.want); (case hg => exact tEV); (case hb => exact tNB))
    | ((with_reducible apply opsF.skip); (case hg => exact tEV); (case hb => exact tNB))
    | (first | ((with_reducible apply opsF.case); (case hg => exact tEV)) | ((with_reducible apply vcF.cond); (case hx => exact tEV)) | ((with_reducible apply dopsF.case); (case hg => exact tEV))) <;> ((intro hc; try simp only [Int.reduceLT, Int.reduceLE, Int.reduceEq, Int.reduceNe, Int.cast_ofNat_Int, Int.reduceNeg, decide_true, decide_false, not_true_eq_false, not_false_eq_true, decide_eq_true_eq, decide_eq_false_iff_not, Bool.not_eq_true', Bool.not_eq_false', Bool.not_true, Bool.not_false, Bool.false_eq_true, Bool.true_eq_false, Bool.not_eq_true, Bool.not_eq_false, beq_iff_eq, beq_eq_false_iff_ne, bne_iff_ne, bne_eq_false_iff_eq, ne_eq, Int.not_lt, Int.not_le, ge_iff_le, gt_iff_lt, Decidable.not_not, reduceCtorEq, *] at hc) <;> (try (exfalso; omega)))
    | ((with_reducible apply opsF.und); (case hg => rfl))
    | ((with_reducible apply dopsF.op rfl); (case hs => (first | exact tHT | exact tHS)))
    | ((with_reducible apply dopsF.call); (case hx => exact tAG))
    | ((with_reducible apply dopsF.want); (case hg => exact tEV); (case hb => exact tNB))
    | ((with_reducible apply dopsF.skip); (case hg => exact tEV); (case hb => exact tNB))
    | ((with_reducible apply dopsF.und); (case hg => rfl))
    | ((with_reducible apply stabF.und); rfl)
    | ((with_reducible apply stabF.want); (case hg => exact tEV); (case hb => exact tNB))
    | ((with_reducible apply stabF.skip); (case hg => exact tEV); (case hb => exact tNB))
    | ((with_reducible apply stabF.op); (case hs => (first | exact tHT | exact tHS)); (case hv => exact tSV))
    | ((with_reducible apply retF.r); (case hv => exact tRS))
    | ((with_reducible apply retF.nn); (case hv => exact tRS))
    | ((refine Call.use (hdb _) ?_))
    | ((refine Call.use (hlb _) ?_))
    | ((refine Call.use (hcb _) ?_)))
          have k := TS.up3 hT (.refl _) hT2 hT3 hT5 hT6 (false, n)
          simpa only [tabC, List.map_append, List.map_cons, List.map_nil, brow, List.cons_append, List.nil_append, List.set_cons_succ, List.set_cons_zero, Option.map_some, if_true, decide_true, decide_false, ha1] using k
        | none =>
          rw [hcn] at hcb
          simp only [optV] at hcb
          cases hd : domainS b
          · rw [hd] at hdb
            repeat' (first
    | ((with_reducible apply opsF.op rfl); (case hs => (first | exact tHT | exact tHS)))
    | with_reducible (first | apply opsF.nil | apply seqF.nn | apply vcF.seq | apply vcF.region | apply vcF.dregion | apply vcF.skip | apply vcF.block | apply vcF.exit | apply vcF.ret | apply vcF.loop | apply seqF.e | apply seqF.r | apply blkF.nn | apply blkF.e | apply blkF.r | apply blkF.o rfl | apply dopsF.nil | apply stabsF.nil | apply stabsF.cons | apply dopsF.cont)
    | ((with_reducible apply opsF.call); (case hx => exact tAG))
    | ((with_reducible apply opsF.want); (case hg => exact tEV); (case hb => exact tNB))
    | ((with_reducible apply opsF.skip); (case hg => exact tEV); (case hb => exact tNB))
    | (first | ((with_reducible apply opsF.case); (case hg => exact tEV)) | ((with_reducible apply vcF.cond); (case hx => exact tEV)) | ((with_reducible apply dopsF.case); (case hg => exact tEV))) <;> ((intro hc; try simp only [Int.reduceLT, Int.reduceLE, Int.reduceEq, Int.reduceNe, Int.cast_ofNat_Int, Int.reduceNeg, decide_true, decide_false, not_true_eq_false, not_false_eq_true, decide_eq_true_eq, decide_eq_false_iff_not, Bool.not_eq_true', Bool.not_eq_false', Bool.not_true, Bool.not_false, Bool.false_eq_true, Bool.true_eq_false, Bool.not_eq_true, Bool.not_eq_false, beq_iff_eq, beq_eq_false_iff_ne, bne_iff_ne, bne_eq_false_iff_eq, ne_eq, Int.not_lt, Int.not_le, ge_iff_le, gt_iff_lt, Decidable.not_not, reduceCtorEq, *] at hc) <;> (try (exfalso; omega)))
    | ((with_reducible apply opsF.und); (case hg => rfl))
    | ((with_reducible apply dopsF.op rfl); (case hs => (first | exact tHT | exact tHS)))
    | ((with_reducible apply dopsF.call); (case hx => exact tAG))
    | ((with_reducible apply dopsF.want); (case hg => exact tEV); (case hb => exact tNB))
    | ((with_reducible apply dopsF.skip); (case hg => exact tEV); (case hb => exact tNB))
    | ((with_reducible apply dopsF.und); (case hg => rfl))
    | ((with_reducible apply stabF.und); rfl)
    | ((with_reducible apply stabF.want); (case hg => exact tEV); (case hb => exact tNB))
    | ((with_reducible apply stabF.skip); (case hg => exact tEV); (case hb => exact tNB))
    | ((with_reducible apply stabF.op); (case hs => (first | exact tHT | exact tHS)); (case hv => exact tSV))
    | ((with_reducible apply retF.r); (case hv => exact tRS))
    | ((with_reducible apply retF.nn); (case hv => exact tRS))
    | ((refine Call.use (hdb _) ?_))
    | ((refine Call.use (hlb _) ?_))
    | ((refine Call.use (hcb _) ?_)))
            all_goals exact methP_none (hX _)
          · rw [hd] at hdb
            repeat' (first
    | ((with_reducible apply opsF.op rfl); (case hs => (first | exact tHT | exact tHS)))
    | with_reducible (first | apply opsF.nil | apply seqF.nn | apply vcF.seq | apply vcF.region | apply vcF.dregion | apply vcF.skip | apply vcF.block | apply vcF.exit | apply vcF.ret | apply vcF.loop | apply seqF.e | apply seqF.r | apply blkF.nn | apply blkF.e | apply blkF.r | apply blkF.o rfl | apply dopsF.nil | apply stabsF.nil | apply stabsF.cons | apply dopsF.cont)
    | ((with_reducible apply opsF.call); (case hx => exact tAG))
    | ((with_reducible apply opsF.want); (case hg => exact tEV); (case hb => exact tNB))
    | ((with_reducible apply opsF.skip); (case hg => exact tEV); (case hb => exact tNB))
    | (first | ((with_reducible apply opsF.case); (case hg => exact tEV)) | ((with_reducible apply vcF.cond); (case hx => exact tEV)) | ((with_reducible apply dopsF.case); (case hg => exact tEV))) <;> ((intro hc; try simp only [Int.reduceLT, Int.reduceLE, Int.reduceEq, Int.reduceNe, Int.cast_ofNat_Int, Int.reduceNeg, decide_true, decide_false, not_true_eq_false, not_false_eq_true, decide_eq_true_eq, decide_eq_false_iff_not, Bool.not_eq_true', Bool.not_eq_false', Bool.not_true, Bool.not_false, Bool.false_eq_true, Bool.true_eq_false, Bool.not_eq_true, Bool.not_eq_false, beq_iff_eq, beq_eq_false_iff_ne, bne_iff_ne, bne_eq_false_iff_eq, ne_eq, Int.not_lt, Int.not_le, ge_iff_le, gt_iff_lt, Decidable.not_not, reduceCtorEq, *] at hc) <;> (try (exfalso; omega)))
    | ((with_reducible apply opsF.und); (case hg => rfl))
    | ((with_reducible apply dopsF.op rfl); (case hs => (first | exact tHT | exact tHS)))
    | ((with_reducible apply dopsF.call); (case hx => exact tAG))
    | ((with_reducible apply dopsF.want); (case hg => exact tEV); (case hb => exact tNB))
    | ((with_reducible apply dopsF.skip); (case hg => exact tEV); (case hb => exact tNB))
    | ((with_reducible apply dopsF.und); (case hg => rfl))
    | ((with_reducible apply stabF.und); rfl)
    | ((with_reducible apply stabF.want); (case hg => exact tEV); (case hb => exact tNB))
    | ((with_reducible apply stabF.skip); (case hg => exact tEV); (case hb => exact tNB))
    | ((with_reducible apply stabF.op); (case hs => (first | exact tHT | exact tHS)); (case hv => exact tSV))
    | ((with_reducible apply retF.r); (case hv => exact tRS))
    | ((with_reducible apply retF.nn); (case hv => exact tRS))
    | ((refine Call.use (hdb _) ?_))
    | ((refine Call.use (hlb _) ?_))
    | ((refine Call.use (hcb _) ?_)))
            have k := TS.up3 hT (.refl _) hT2 hT3 hT5 hT6 (false, lowerS b)
            simpa only [tabC, List.map_append, List.map_cons, List.map_nil, brow, List.cons_append, List.nil_append, List.set_cons_succ, List.set_cons_zero, Option.map_some, if_true, decide_true, decide_false, ha1] using k
    · rw [if_neg ha]
      have ha1 : ¬ a = [102, 114, 111, 109] := fun e => ha (.inl e)
      have ha2 : ¬ a = [116, 111] := fun e => ha (.inr e)
      clear ha
      repeat' (first
    | ((with_reducible apply opsF.op rfl); (case hs => (first | exact tHT | exact tHS)))
    | with_reducible (first | apply opsF.nil | apply seqF.nn | apply vcF.seq | apply vcF.region | apply vcF.dregion | apply vcF.skip | apply vcF.block | apply vcF.exit | apply vcF.ret | apply vcF.loop | apply seqF.e | apply seqF.r | apply blkF.nn | apply blkF.e | apply blkF.r | apply blkF.o rfl | apply dopsF.nil | apply stabsF.nil | apply stabsF.cons | apply dopsF.cont)
    | ((with_reducible apply opsF.call); (case hx => exact tAG))
    | ((with_reducible apply opsF.want); (case hg => exact tEV); (case hb => exact tNB))
    | ((with_reducible apply opsF.skip); (case hg => exact tEV); (case hb => exact tNB))
    | (first | ((with_reducible apply opsF.case); (case hg => exact tEV)) | ((with_reducible apply vcF.cond); (case hx => exact tEV)) | ((with_reducible apply dopsF.case); (case hg => exact tEV))) <;> ((intro hc; try simp only [Int.reduceLT, Int.reduceLE, Int.reduceEq, Int.reduceNe, Int.cast_ofNat_Int, Int.reduceNeg, decide_true, decide_false, not_true_eq_false, not_false_eq_true, decide_eq_true_eq, decide_eq_false_iff_not, Bool.not_eq_true', Bool.not_eq_false', Bool.not_true, Bool.not_false, Bool.false_eq_true, Bool.true_eq_false, Bool.not_eq_true, Bool.not_eq_false, beq_iff_eq, beq_eq_false_iff_ne, bne_iff_ne, bne_eq_false_iff_eq, ne_eq, Int.not_lt, Int.not_le, ge_iff_le, gt_iff_lt, Decidable.not_not, reduceCtorEq, *] at hc) <;> (try (exfalso; omega)))
    | ((with_reducible apply opsF.und); (case hg => rfl))
    | ((with_reducible apply dopsF.op rfl); (case hs => (first | exact tHT | exact tHS)))
    | ((with_reducible apply dopsF.call); (case hx => exact tAG))
    | ((with_reducible apply dopsF.want); (case hg => exact tEV); (case hb => exact tNB))
    | ((with_reducible apply dopsF.skip); (case hg => exact tEV); (case hb => exact tNB))
    | ((with_reducible apply dopsF.und); (case hg => rfl))
    | ((with_reducible apply stabF.und); rfl)
    | ((with_reducible apply stabF.want); (case hg => exact tEV); (case hb => exact tNB))
    | ((with_reducible apply stabF.skip); (case hg => exact tEV); (case hb => exact tNB))
    | ((with_reducible apply stabF.op); (case hs => (first | exact tHT | exact tHS)); (case hv => exact tSV))
    | ((with_reducible apply retF.r); (case hv => exact tRS))
    | ((with_reducible apply retF.nn); (case hv => exact tRS)))
      all_goals exact methP_none (.of (.refl _))
  · have hno : banO t ws = none := by
      unfold banO
      split
      · simp at hl2
      · rfl
    rw [hno]
    have hl2' : ¬ ((ws.length + 1 : Nat) : Int) = 3 := by omega
    generalize ([98, 97, 110] :: ws : List (List UInt8)) = W at *
    repeat' (first
    | ((with_reducible apply opsF.op rfl); (case hs => (first | exact tHT | exact tHS)))
    | with_reducible (first | apply opsF.nil | apply seqF.nn | apply vcF.seq | apply vcF.region | apply vcF.dregion | apply vcF.skip | apply vcF.block | apply vcF.exit | apply vcF.ret | apply vcF.loop | apply seqF.e | apply seqF.r | apply blkF.nn | apply blkF.e | apply blkF.r | apply blkF.o rfl | apply dopsF.nil | apply stabsF.nil | apply stabsF.cons | apply dopsF.cont)
    | ((with_reducible apply opsF.call); (case hx => exact tAG))
    | ((with_reducible apply opsF.want); (case hg => exact tEV); (case hb => exact tNB))
    | ((with_reducible apply opsF.skip); (case hg => exact tEV); (case hb => exact tNB))
    | (first | ((with_reducible apply opsF.case); (case hg => exact tEV)) | ((with_reducible apply vcF.cond); (case hx => exact tEV)) | ((with_reducible apply dopsF.case); (case hg => exact tEV))) <;> ((intro hc; try simp only [Int.reduceLT, Int.reduceLE, Int.reduceEq, Int.reduceNe, Int.cast_ofNat_Int, Int.reduceNeg, decide_true, decide_false, not_true_eq_false, not_false_eq_true, decide_eq_true_eq, decide_eq_false_iff_not, Bool.not_eq_true', Bool.not_eq_false', Bool.not_true, Bool.not_false, Bool.false_eq_true, Bool.true_eq_false, Bool.not_eq_true, Bool.not_eq_false, beq_iff_eq, beq_eq_false_iff_ne, bne_iff_ne, bne_eq_false_iff_eq, ne_eq, Int.not_lt, Int.not_le, ge_iff_le, gt_iff_lt, Decidable.not_not, reduceCtorEq, *] at hc) <;> (try (exfalso; omega)))
    | ((with_reducible apply opsF.und); (case hg => rfl))
    | ((with_reducible apply dopsF.op rfl); (case hs => (first | exact tHT | exact tHS)))
    | ((with_reducible apply dopsF.call); (case hx => exact tAG))
    | ((with_reducible apply dopsF.want); (case hg => exact tEV); (case hb => exact tNB))
    | ((with_reducible apply dopsF.skip); (case hg => exact tEV); (case hb => exact tNB))
    | ((with_reducible apply dopsF.und); (case hg => rfl))
    | ((with_reducible apply stabF.und); rfl)
    | ((with_reducible apply stabF.want); (case hg => exact tEV); (case hb => exact tNB))
    | ((with_reducible apply stabF.skip); (case hg => exact tEV); (case hb => exact tNB))
    | ((with_reducible apply stabF.op); (case hs => (first | exact tHT | exact tHS)); (case hv => exact tSV))
    | ((with_reducible apply retF.r); (case hv => exact tRS))
    | ((with_reducible apply retF.nn); (case hv => exact tRS)))
    all_goals exact methP_none (.of (.refl _))
end Go.Abs.F
