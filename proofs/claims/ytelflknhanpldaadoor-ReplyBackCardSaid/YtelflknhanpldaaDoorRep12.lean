/- Layer 4: a formatted reply is read again. -/
import Derived.Test.YtelflknhanpldaaDoorRep11
namespace Go.Abs.F
open Go Go.Abs
set_option maxRecDepth 10000
set_option maxHeartbeats 20000000
set_option linter.unusedSimpArgs false
set_option linter.unusedVariables false
theorem back_main (W : World) (hT : PowTab W) (c : Int) (ls : List (List UInt8)) (hl : ls.length ≤ 140737488351232) (hsz : ∀ s ∈ ls, s.length ≤ 140737488351232) :
    Call P W law04_ReplyBack [.agg [.v (.int .i64 c), .list 1 (srows ls) .no]] AH.start fun v _ => v = .v (.bool true) := by
  have xl := srows_len
  have xll := lrows_len
  have xlg := lrows_get
  have xbl := brows_len
  refine Call.bodyF b_law04_ReplyBack rfl rfl ?_
  unfold c_law04_ReplyBack
  by_cases hok : fmtOk c ls = true
  · have hv : fmtV c ls = .tup [.v (.string (bs (fmtGo c.toNat ls))), .v (.int .i64 0)] := by rw [fmtV, hok]; rfl
    simp only [fmtOk, Bool.and_eq_true, decide_eq_true_eq, Bool.not_eq_true', List.isEmpty_eq_false_iff] at hok
    obtain ⟨⟨⟨hc1, hc2⟩, hne⟩, hall⟩ := hok
    obtain ⟨n, rfl⟩ : ∃ n : Nat, c = n := ⟨c.toNat, by omega⟩
    rw [Int.toNat_natCast] at hv
    have hlin : linesS 1000 [] (fmtGo n ls) = (fmtLines n ls, []) := linesS_fmt (by omega) (by omega) ls hall
    have hfl : (fmtGo n ls).length ≤ 500 * ls.length := fmtGo_len n (by omega) ls hall
    have xfl := fmtLines_len n
    repeat' (first
    | ((with_reducible apply opsF.op rfl); (case hs => (first | exact tHT | exact tHS)))
    | with_reducible (first | apply opsF.nil | apply seqF.nn | apply vcF.seq | apply vcF.region | apply vcF.dregion | apply vcF.skip | apply vcF.block | apply vcF.exit | apply vcF.ret | apply vcF.loop | apply seqF.e | apply seqF.r | apply blkF.nn | apply blkF.e | apply blkF.r | apply blkF.o rfl | apply dopsF.nil | apply stabsF.nil | apply stabsF.cons | apply dopsF.cont)
    | ((with_reducible apply opsF.call); (case hx => exact tAG))
    | ((with_reducible apply opsF.want); (case hg => exact tEV); (case hb => exact tNB))
    | ((with_reducible apply opsF.skip); (case hg => exact tEV); (case hb => exact tNB))
    | (first | ((with_reducible apply opsF.case); (case hg => exact tEV)) | ((with_reducible apply vcF.cond); (case hx => exact tEV)) | ((with_reducible apply dopsF.case); (case hg => exact tEV))) <;> ((intro hc; try simp only [Int.reduceLT, Int.reduceLE, Int.reduceEq, Int.reduceNe, Int.cast_ofNat_Int, Int.reduceNeg, decide_true, decide_false, not_true_eq_false, not_false_eq_true, decide_eq_true_eq, decide_eq_false_iff_not, Bool.not_eq_true', Bool.not_eq_false', Bool.not_true, Bool.not_false, Bool.false_eq_true, Bool.true_eq_false, Bool.not_eq_true, Bool.not_eq_false, beq_iff_eq, beq_eq_false_iff_ne, bne_iff_ne, bne_eq_false_iff_eq, ne_eq, Int.not_lt, Int.not_le, ge_iff_le, gt_iff_lt, Decidable.not_not, reduceCtorEq, *] at hc) <;> (try (exfalso; omega)))
    | ((with_reducible apply opsF.und); (case hg => rfl))
    | ((with_reducible apply opsF.callv); (case hf => exact tEV); (case hx => exact tCV))
    | ((with_reducible apply dopsF.op rfl); (case hs => (first | exact tHT | exact tHS)))
    | ((with_reducible apply dopsF.call); (case hx => exact tAG))
    | ((with_reducible apply dopsF.want); (case hg => exact tEV); (case hb => exact tNB))
    | ((with_reducible apply dopsF.skip); (case hg => exact tEV); (case hb => exact tNB))
    | ((with_reducible apply dopsF.und); (case hg => rfl))
    | ((with_reducible apply stabF.und); rfl)
    | ((with_reducible apply stabF.want); (case hg => exact tEV); (case hb => exact tNB))
    | ((with_reducible apply stabF.skip); (case hg => exact tEV); (case hb => exact tNB))
    | ((with_reducible apply stabF.op); (case hs => (first | exact tHT | exact tHS)); (case hv => exact tSV))
    | ((with_reducible apply retF.r); (case hv => exact tRS))
    | ((with_reducible apply retF.nn); (case hv => exact tRS))
    | ((refine (answers_call _).mono fun v h' hp => ?_); obtain ⟨rfl, he⟩ := hp; have hN := he.n; have hO := he.objs; (try simp only [alloc_n, set_n, newTok_n, bump_n] at hN hO))
    | ((refine (pformat_call hT _ _ _ _ (by omega) hsz).mono fun v h' hp => ?_); rw [hv] at hp; obtain ⟨rfl, he⟩ := hp; have hN := he.n; have hO := he.objs; (try simp only [alloc_n, set_n, newTok_n, bump_n] at hN hO))
    | ((refine (lines_call (fmtGo n ls) 1000 .no _ (by omega) rfl).mono fun v h5 hp => ?_); rw [hlin] at hp; obtain ⟨tk5, rfl, he⟩ := hp; have hN := he.n; have hO := he.objs; (try simp only [alloc_n, set_n, newTok_n, bump_n] at hN hO))
    | ((refine (reply_New_call _).mono fun v h' hp => ?_); obtain ⟨rfl, rfl⟩ := hp))
    · rfl
    · refine LpF.ind rfl (fun i : Nat => ls.length - i) (fun i σ h' => σ 8 = .v (.int .i64 (i : Nat)) ∧ σ 5 = .list 2 (lrows (fmtLines n ls)) tk5 ∧ σ 6 = .list 1 (brows []) .no ∧ i ≤ ls.length ∧ ∃ rid xid, σ 7 = .ptr rid 0 ∧ σ 1 = .ptr xid 0 ∧ xid ≠ rid ∧ h'.objs xid = some (.cells [.v (.int .i64 n), .list 1 (srows ls) .no]) ∧ xid < h'.n ∧ (i < ls.length → ∃ c tok, Rd h' rid c (ls.take i) tok ∧ (i ≠ 0 → c = n))) ?_ (i := 0) ?_
      · rintro i σ h' ⟨h17, h15, h14, hi, rid, xid, h11, h3, hrx, hx, hxl, hR⟩
        rcases Nat.lt_or_ge i ls.length with hlt | hge
        · obtain ⟨c, tok, hrd, hcn⟩ := hR hlt
          have hrl := hrd.lt
          obtain ⟨s', hs⟩ : ∃ s, ls[i]? = some s := ⟨_, List.getElem?_eq_getElem hlt⟩
          have hgL := fmtLines_get n ls i s' hs
          have hfd := feed_fmt (n := n) (by omega) (by omega) hs hcn
          have hsl' : (udecS n ++ [if i + 1 = ls.length then 32 else 45] ++ s').length ≤ 1000 := by
            have h1 := udecS_20 n (by omega)
            have h2 := List.all_eq_true.1 hall s' (List.mem_of_getElem? hs)
            simp only [lineOk, Bool.and_eq_true, decide_eq_true_eq] at h2
            simp only [List.length_append, List.length_cons, List.length_nil]
            omega
          generalize udecS n ++ [if i + 1 = ls.length then 32 else 45] ++ s' = seg at hgL hfd hsl'
          have htl : (ls.take i).length ≤ 1000000000 := by rw [List.length_take]; omega
          by_cases hq : i + 1 = ls.length
          · rw [if_pos hq] at hfd
            have hqd : decide ((i : Int) + 1 = (ls.length : Int)) = true := decide_eq_true (by omega)
            repeat' (first
    | ((with_reducible apply opsF.op rfl); (case hs => (first | exact tHT | exact tHS)))
    | with_reducible (first | apply opsF.nil | apply seqF.nn | apply vcF.seq | apply vcF.region | apply vcF.dregion | apply vcF.skip | apply vcF.block | apply vcF.exit | apply vcF.ret | apply vcF.loop | apply seqF.e | apply seqF.r | apply blkF.nn | apply blkF.e | apply blkF.r | apply blkF.o rfl | apply dopsF.nil | apply stabsF.nil | apply stabsF.cons | apply dopsF.cont)
    | ((with_reducible apply opsF.call); (case hx => exact tAG))
    | ((with_reducible apply opsF.want); (case hg => exact tEV); (case hb => exact tNB))
    | ((with_reducible apply opsF.skip); (case hg => exact tEV); (case hb => exact tNB))
    | (first | ((with_reducible apply opsF.case); (case hg => exact tEV)) | ((with_reducible apply vcF.cond); (case hx => exact tEV)) | ((with_reducible apply dopsF.case); (case hg => exact tEV))) <;> ((intro hc; try simp only [Int.reduceLT, Int.reduceLE, Int.reduceEq, Int.reduceNe, Int.cast_ofNat_Int, Int.reduceNeg, decide_true, decide_false, not_true_eq_false, not_false_eq_true, decide_eq_true_eq, decide_eq_false_iff_not, Bool.not_eq_true', Bool.not_eq_false', Bool.not_true, Bool.not_false, Bool.false_eq_true, Bool.true_eq_false, Bool.not_eq_true, Bool.not_eq_false, beq_iff_eq, beq_eq_false_iff_ne, bne_iff_ne, bne_eq_false_iff_eq, ne_eq, Int.not_lt, Int.not_le, ge_iff_le, gt_iff_lt, Decidable.not_not, reduceCtorEq, *] at hc) <;> (try (exfalso; omega)))
    | ((with_reducible apply opsF.und); (case hg => rfl))
    | ((with_reducible apply opsF.callv); (case hf => exact tEV); (case hx => exact tCV))
    | ((with_reducible apply dopsF.op rfl); (case hs => (first | exact tHT | exact tHS)))
    | ((with_reducible apply dopsF.call); (case hx => exact tAG))
    | ((with_reducible apply dopsF.want); (case hg => exact tEV); (case hb => exact tNB))
    | ((with_reducible apply dopsF.skip); (case hg => exact tEV); (case hb => exact tNB))
    | ((with_reducible apply dopsF.und); (case hg => rfl))
    | ((with_reducible apply stabF.und); rfl)
    | ((with_reducible apply stabF.want); (case hg => exact tEV); (case hb => exact tNB))
    | ((with_reducible apply stabF.skip); (case hg => exact tEV); (case hb => exact tNB))
    | ((with_reducible apply stabF.op); (case hs => (first | exact tHT | exact tHS)); (case hv => exact tSV))
    | ((with_reducible apply retF.r); (case hv => exact tRS))
    | ((with_reducible apply retF.nn); (case hv => exact tRS))
    | ((refine (feed_call rid c (ls.take i) tok 1 seg _ hrd (by omega) htl).mono fun v h6 hp => ?_); rw [hfd] at hp; obtain ⟨tk6, tok6, rfl, hrd6, htn6, he⟩ := hp; have hN := he.n; have hO := he.objs; (try simp only [alloc_n, set_n, newTok_n, bump_n] at hN hO))
    | ((refine (texts_call' ls ls rfl rfl _ (by omega)).mono fun v h7 hp => ?_); obtain ⟨rfl, rfl⟩ := hp))
            refine ⟨i + 1, by omega, rfl, h15, h14, by omega, rid, xid, h11, h3, hrx, (by first | ((simp (disch := omega) only [alloc_at, set_at, newTok_at, bump_at, alloc_n, set_n, newTok_n, bump_n, eq_self, if_true, reduceIte, if_pos, if_neg, *]); done) | exact tHE | ((simp (disch := omega) only [alloc_at, set_at, newTok_at, bump_at, alloc_n, set_n, newTok_n, bump_n, eq_self, if_true, reduceIte, if_pos, if_neg, *]); rfl)), ?_, fun hh => by omega⟩
            simp only [set_n, alloc_n]
            omega
          · rw [if_neg hq] at hfd
            have hqd : decide ((i : Int) + 1 = (ls.length : Int)) = false := decide_eq_false (by omega)
            repeat' (first
    | ((with_reducible apply opsF.op rfl); (case hs => (first | exact tHT | exact tHS)))
    | with_reducible (first | apply opsF.nil | apply seqF.nn | apply vcF.seq | apply vcF.region | apply vcF.dregion | apply vcF.skip | apply vcF.block | apply vcF.exit | apply vcF.ret | apply vcF.loop | apply seqF.e | apply seqF.r | apply blkF.nn | apply blkF.e | apply blkF.r | apply blkF.o rfl | apply dopsF.nil | apply stabsF.nil | apply stabsF.cons | apply dopsF.cont)
    | ((with_reducible apply opsF.call); (case hx => exact tAG))
    | ((with_reducible apply opsF.want); (case hg => exact tEV); (case hb => exact tNB))
    | ((with_reducible apply opsF.skip); (case hg => exact tEV); (case hb => exact tNB))
    | (first | ((with_reducible apply opsF.case); (case hg => exact tEV)) | ((with_reducible apply vcF.cond); (case hx => exact tEV)) | ((with_reducible apply dopsF.case); (case hg => exact tEV))) <;> ((intro hc; try simp only [Int.reduceLT, Int.reduceLE, Int.reduceEq, Int.reduceNe, Int.cast_ofNat_Int, Int.reduceNeg, decide_true, decide_false, not_true_eq_false, not_false_eq_true, decide_eq_true_eq, decide_eq_false_iff_not, Bool.not_eq_true', Bool.not_eq_false', Bool.not_true, Bool.not_false, Bool.false_eq_true, Bool.true_eq_false, Bool.not_eq_true, Bool.not_eq_false, beq_iff_eq, beq_eq_false_iff_ne, bne_iff_ne, bne_eq_false_iff_eq, ne_eq, Int.not_lt, Int.not_le, ge_iff_le, gt_iff_lt, Decidable.not_not, reduceCtorEq, *] at hc) <;> (try (exfalso; omega)))
    | ((with_reducible apply opsF.und); (case hg => rfl))
    | ((with_reducible apply opsF.callv); (case hf => exact tEV); (case hx => exact tCV))
    | ((with_reducible apply dopsF.op rfl); (case hs => (first | exact tHT | exact tHS)))
    | ((with_reducible apply dopsF.call); (case hx => exact tAG))
    | ((with_reducible apply dopsF.want); (case hg => exact tEV); (case hb => exact tNB))
    | ((with_reducible apply dopsF.skip); (case hg => exact tEV); (case hb => exact tNB))
    | ((with_reducible apply dopsF.und); (case hg => rfl))
    | ((with_reducible apply stabF.und); rfl)
    | ((with_reducible apply stabF.want); (case hg => exact tEV); (case hb => exact tNB))
    | ((with_reducible apply stabF.skip); (case hg => exact tEV); (case hb => exact tNB))
    | ((with_reducible apply stabF.op); (case hs => (first | exact tHT | exact tHS)); (case hv => exact tSV))
    | ((with_reducible apply retF.r); (case hv => exact tRS))
    | ((with_reducible apply retF.nn); (case hv => exact tRS))
    | ((refine (feed_call rid c (ls.take i) tok 1 seg _ hrd (by omega) htl).mono fun v h6 hp => ?_); rw [hfd] at hp; obtain ⟨tk6, tok6, rfl, hrd6, htn6, he⟩ := hp; have hN := he.n; have hO := he.objs; (try simp only [alloc_n, set_n, newTok_n, bump_n] at hN hO)))
            have ho6 := hrd6.obj
            refine ⟨i + 1, by omega, rfl, h15, h14, by omega, rid, xid, h11, h3, hrx, (by first | ((simp (disch := omega) only [alloc_at, set_at, newTok_at, bump_at, alloc_n, set_n, newTok_n, bump_n, eq_self, if_true, reduceIte, if_pos, if_neg, *]); done) | exact tHE | ((simp (disch := omega) only [alloc_at, set_at, newTok_at, bump_at, alloc_n, set_n, newTok_n, bump_n, eq_self, if_true, reduceIte, if_pos, if_neg, *]); rfl)), ?_, fun hh => ⟨n, tok6, ⟨(by first | ((simp (disch := omega) only [alloc_at, set_at, newTok_at, bump_at, alloc_n, set_n, newTok_n, bump_n, eq_self, if_true, reduceIte, if_pos, if_neg, *]); done) | exact tHE | ((simp (disch := omega) only [alloc_at, set_at, newTok_at, bump_at, alloc_n, set_n, newTok_n, bump_n, eq_self, if_true, reduceIte, if_pos, if_neg, *]); rfl)), hrd6.tok.alloc.set, ?_⟩, fun _ => rfl⟩⟩
            · simp only [set_n, alloc_n]; omega
            · have := hrd6.lt
              simp only [set_n, alloc_n]; omega
        · obtain rfl : i = ls.length := by omega
          repeat' (first
    | ((with_reducible apply opsF.op rfl); (case hs => (first | exact tHT | exact tHS)))
    | with_reducible (first | apply opsF.nil | apply seqF.nn | apply vcF.seq | apply vcF.region | apply vcF.dregion | apply vcF.skip | apply vcF.block | apply vcF.exit | apply vcF.ret | apply vcF.loop | apply seqF.e | apply seqF.r | apply blkF.nn | apply blkF.e | apply blkF.r | apply blkF.o rfl | apply dopsF.nil | apply stabsF.nil | apply stabsF.cons | apply dopsF.cont)
    | ((with_reducible apply opsF.call); (case hx => exact tAG))
    | ((with_reducible apply opsF.want); (case hg => exact tEV); (case hb => exact tNB))
    | ((with_reducible apply opsF.skip); (case hg => exact tEV); (case hb => exact tNB))
    | (first | ((with_reducible apply opsF.case); (case hg => exact tEV)) | ((with_reducible apply vcF.cond); (case hx => exact tEV)) | ((with_reducible apply dopsF.case); (case hg => exact tEV))) <;> ((intro hc; try simp only [Int.reduceLT, Int.reduceLE, Int.reduceEq, Int.reduceNe, Int.cast_ofNat_Int, Int.reduceNeg, decide_true, decide_false, not_true_eq_false, not_false_eq_true, decide_eq_true_eq, decide_eq_false_iff_not, Bool.not_eq_true', Bool.not_eq_false', Bool.not_true, Bool.not_false, Bool.false_eq_true, Bool.true_eq_false, Bool.not_eq_true, Bool.not_eq_false, beq_iff_eq, beq_eq_false_iff_ne, bne_iff_ne, bne_eq_false_iff_eq, ne_eq, Int.not_lt, Int.not_le, ge_iff_le, gt_iff_lt, Decidable.not_not, reduceCtorEq, *] at hc) <;> (try (exfalso; omega)))
    | ((with_reducible apply opsF.und); (case hg => rfl))
    | ((with_reducible apply opsF.callv); (case hf => exact tEV); (case hx => exact tCV))
    | ((with_reducible apply dopsF.op rfl); (case hs => (first | exact tHT | exact tHS)))
    | ((with_reducible apply dopsF.call); (case hx => exact tAG))
    | ((with_reducible apply dopsF.want); (case hg => exact tEV); (case hb => exact tNB))
    | ((with_reducible apply dopsF.skip); (case hg => exact tEV); (case hb => exact tNB))
    | ((with_reducible apply dopsF.und); (case hg => rfl))
    | ((with_reducible apply stabF.und); rfl)
    | ((with_reducible apply stabF.want); (case hg => exact tEV); (case hb => exact tNB))
    | ((with_reducible apply stabF.skip); (case hg => exact tEV); (case hb => exact tNB))
    | ((with_reducible apply stabF.op); (case hs => (first | exact tHT | exact tHS)); (case hv => exact tSV))
    | ((with_reducible apply retF.r); (case hv => exact tRS))
    | ((with_reducible apply retF.nn); (case hv => exact tRS))
    | ((refine (answers_call _).mono fun v h' hp => ?_); obtain ⟨rfl, he⟩ := hp; have hN := he.n; have hO := he.objs; (try simp only [alloc_n, set_n, newTok_n, bump_n] at hN hO)))
          all_goals simp
      · refine ⟨rfl, rfl, rfl, Nat.zero_le _, h5.n, AH.start.n, rfl, rfl, by omega, (by first | ((simp (disch := omega) only [alloc_at, set_at, newTok_at, bump_at, alloc_n, set_n, newTok_n, bump_n, eq_self, if_true, reduceIte, if_pos, if_neg, *]); done) | exact tHE | ((simp (disch := omega) only [alloc_at, set_at, newTok_at, bump_at, alloc_n, set_n, newTok_n, bump_n, eq_self, if_true, reduceIte, if_pos, if_neg, *]); rfl)), by simp only [alloc_n]; omega, fun _ => ⟨0, .full, ⟨by simp [alloc_at, srows], trivial, by simp [alloc_n]⟩, fun hh => absurd rfl hh⟩⟩
  · have hv : fmtV c ls = .tup [.v (.string (bs [])), .v (.int .i64 2)] := fmtV_bad (by simpa using hok)
    repeat' (first
    | ((with_reducible apply opsF.op rfl); (case hs => (first | exact tHT | exact tHS)))
    | with_reducible (first | apply opsF.nil | apply seqF.nn | apply vcF.seq | apply vcF.region | apply vcF.dregion | apply vcF.skip | apply vcF.block | apply vcF.exit | apply vcF.ret | apply vcF.loop | apply seqF.e | apply seqF.r | apply blkF.nn | apply blkF.e | apply blkF.r | apply blkF.o rfl | apply dopsF.nil | apply stabsF.nil | apply stabsF.cons | apply dopsF.cont)
    | ((with_reducible apply opsF.call); (case hx => exact tAG))
    | ((with_reducible apply opsF.want); (case hg => exact tEV); (case hb => exact tNB))
    | ((with_reducible apply opsF.skip); (case hg => exact tEV); (case hb => exact tNB))
    | (first | ((with_reducible apply opsF.case); (case hg => exact tEV)) | ((with_reducible apply vcF.cond); (case hx => exact tEV)) | ((with_reducible apply dopsF.case); (case hg => exact tEV))) <;> ((intro hc; try simp only [Int.reduceLT, Int.reduceLE, Int.reduceEq, Int.reduceNe, Int.cast_ofNat_Int, Int.reduceNeg, decide_true, decide_false, not_true_eq_false, not_false_eq_true, decide_eq_true_eq, decide_eq_false_iff_not, Bool.not_eq_true', Bool.not_eq_false', Bool.not_true, Bool.not_false, Bool.false_eq_true, Bool.true_eq_false, Bool.not_eq_true, Bool.not_eq_false, beq_iff_eq, beq_eq_false_iff_ne, bne_iff_ne, bne_eq_false_iff_eq, ne_eq, Int.not_lt, Int.not_le, ge_iff_le, gt_iff_lt, Decidable.not_not, reduceCtorEq, *] at hc) <;> (try (exfalso; omega)))
    | ((with_reducible apply opsF.und); (case hg => rfl))
    | ((with_reducible apply opsF.callv); (case hf => exact tEV); (case hx => exact tCV))
    | ((with_reducible apply dopsF.op rfl); (case hs => (first | exact tHT | exact tHS)))
    | ((with_reducible apply dopsF.call); (case hx => exact tAG))
    | ((with_reducible apply dopsF.want); (case hg => exact tEV); (case hb => exact tNB))
    | ((with_reducible apply dopsF.skip); (case hg => exact tEV); (case hb => exact tNB))
    | ((with_reducible apply dopsF.und); (case hg => rfl))
    | ((with_reducible apply stabF.und); rfl)
    | ((with_reducible apply stabF.want); (case hg => exact tEV); (case hb => exact tNB))
    | ((with_reducible apply stabF.skip); (case hg => exact tEV); (case hb => exact tNB))
    | ((with_reducible apply stabF.op); (case hs => (first | exact tHT | exact tHS)); (case hv => exact tSV))
    | ((with_reducible apply retF.r); (case hv => exact tRS))
    | ((with_reducible apply retF.nn); (case hv => exact tRS))
    | ((refine (pformat_call hT _ _ _ _ (by omega) hsz).mono fun v h' hp => ?_); rw [hv] at hp; obtain ⟨rfl, he⟩ := hp; have hN := he.n; have hO := he.objs; (try simp only [alloc_n, set_n, newTok_n, bump_n] at hN hO))
    | ((refine (answers_call _).mono fun v h' hp => ?_); obtain ⟨rfl, he⟩ := hp; have hN := he.n; have hO := he.objs; (try simp only [alloc_n, set_n, newTok_n, bump_n] at hN hO)))
    all_goals rfl
theorem law_ReplyBack (W : World) (hL : laidMetH P Go.Proofs.YtelflknhanpldaaDoor.Rows.replyBackRow.laid W) (x1 : (Ty.pair (.int .i64) (.pair (.slice .str) .unit)).D) (h1 : (Ty.pair (.int .i64) (.pair (.slice .str) .unit)).wf x1) (g1 : (Ty.pair (.int .i64) (.pair (.slice .str) .unit)).fit 140737488351232 x1) :
    Call P W law04_ReplyBack [(Ty.pair (.int .i64) (.pair (.slice .str) .unit)).val x1] AH.start fun v _ => v = .v (.bool true) :=
  back_main W (powTab_of hL (by kernel_rfl)) x1.1 x1.2.1 g1.2.1.1 (fun s hs => g1.2.1.2 s hs)
end Go.Abs.F
