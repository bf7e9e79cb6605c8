/- Layer 4: behind what is none a reader takes replies as from the beginning. -/
import Derived.Test.YtelflknhanpldaaDoorRep7
namespace Go.Abs.F
open Go Go.Abs
set_option maxRecDepth 10000
set_option maxHeartbeats 20000000
set_option linter.unusedSimpArgs false
set_option linter.unusedVariables false
variable {w0 : World}
theorem feed_fmt {n : Nat} (h1 : 200 ≤ n) (h2 : n ≤ 599) {c : Int} {ls : List (List UInt8)} {i : Nat} {s : List UInt8} (hs : ls[i]? = some s) (hc : i ≠ 0 → c = n) :
    feedS c (ls.take i) 1 (udecS n ++ [if i + 1 = ls.length then 32 else 45] ++ s) = if i + 1 = ls.length then ((0, []), ((n : Int), ls), true, 0) else (((n : Int), ls.take (i + 1)), (0, []), false, 0) := by
  have ho := oneS_fmt h1 h2 (decide (i + 1 = ls.length)) s
  simp only [decide_eq_true_eq] at ho
  have hne : ¬ (ls.take i ≠ [] ∧ c ≠ (n : Int)) := by
    rintro ⟨ha, hb⟩
    apply hb
    apply hc
    rintro rfl
    exact ha rfl
  have ht : ls.take i ++ [s] = ls.take (i + 1) := by rw [List.take_add_one, hs]; rfl
  rw [feedS, ho]
  simp only [if_neg hne, ht]
  by_cases hq : i + 1 = ls.length
  · simp only [hq, decide_true, Bool.not_true, Bool.false_eq_true, if_false, if_true, List.take_length]
  · simp only [hq, decide_false, Bool.not_false, if_true, if_false]
theorem fmtGo_len (n : Nat) (hn : n ≤ 599) : ∀ ls : List (List UInt8), ls.all lineOk = true → (fmtGo n ls).length ≤ 500 * ls.length
  | [], _ => by simp [fmtGo]
  | s :: r, h => by
    simp only [List.all_cons, Bool.and_eq_true] at h
    have ih := fmtGo_len n hn r h.2
    have h1 := udecS_20 n (by omega)
    have h2 := h.1
    simp only [lineOk, Bool.and_eq_true, decide_eq_true_eq] at h2
    simp only [fmtGo, fmtLine, List.length_append, List.length_cons, List.length_nil]
    omega
theorem again_main (W : World) (k : Int) (s : List UInt8) (c : Int) (ls : List (List UInt8)) (hsl : s.length ≤ 140737488351232) (hl : ls.length ≤ 140737488351232) :
    Call P W law04_ReplyAgain [.agg [.v (.int .i64 k), .v (.string (bs s))], .agg [.v (.int .i64 c), .list 1 (srows ls) .no]] AH.start fun v _ => v = .v (.bool true) := by
  have xl := srows_len
  have xll := lrows_len
  have xlg := lrows_get
  refine Call.bodyF b_law04_ReplyAgain rfl rfl ?_
  unfold c_law04_ReplyAgain
  by_cases hok : fmtOk c ls = true
  · have hv : fmtV c ls = .tup [.v (.string (bs (fmtGo c.toNat ls))), .v (.int .i64 0)] := by rw [fmtV, hok]; rfl
    simp only [fmtOk, Bool.and_eq_true, decide_eq_true_eq, Bool.not_eq_true', List.isEmpty_eq_false_iff] at hok
    obtain ⟨⟨⟨hc1, hc2⟩, hne⟩, hall⟩ := hok
    obtain ⟨n, rfl⟩ : ∃ n : Nat, c = n := ⟨c.toNat, by omega⟩
    rw [Int.toNat_natCast] at hv
    rcases hOne : oneS k s with _ | ⟨n2, m, t⟩
    · have hone : oneV (oneS k s) = .tup [.v (.int .i64 0), .v (.bool false), .v (.string (bs [])), .v (.bool false)] := by rw [hOne]; rfl
      repeat' (first
    | ((with_reducible apply opsF.op rfl); (case hs => (first | exact tHT | exact tHS)))
    | with_reducible (first | apply opsF.nil | apply seqF.nn | apply vcF.seq | apply vcF.region | apply vcF.dregion | apply vcF.skip | apply vcF.block | apply vcF.exit | apply vcF.ret | apply vcF.loop | apply seqF.e | apply seqF.r | apply blkF.nn | apply blkF.e | apply blkF.r | apply blkF.o rfl | apply dopsF.nil | apply stabsF.nil | apply stabsF.cons | apply dopsF.cont)
    | ((with_reducible apply opsF.call); (case hx => exact tAG))
    | ((with_reducible apply opsF.want); (case hg => exact tEV); (case hb => exact tNB))
    | ((with_reducible apply opsF.skip); (case hg => exact tEV); (case hb => exact tNB))
    | (first | ((with_reducible apply opsF.case); (case hg => exact tEV)) | ((with_reducible apply vcF.cond); (case hx => exact tEV)) | ((with_reducible apply dopsF.case); (case hg => exact tEV))) <;> ((intro hc; try simp only [Int.reduceLT, Int.reduceLE, Int.reduceEq, Int.reduceNe, Int.cast_ofNat_Int, Int.reduceNeg, decide_true, decide_false, not_true_eq_false, not_false_eq_true, decide_eq_true_eq, decide_eq_false_iff_not, Bool.not_eq_true', Bool.not_eq_false', Bool.not_true, Bool.not_false, Bool.false_eq_true, Bool.true_eq_false, Bool.not_eq_true, Bool.not_eq_false, beq_iff_eq, beq_eq_false_iff_ne, bne_iff_ne, bne_eq_false_iff_eq, ne_eq, Int.not_lt, Int.not_le, ge_iff_le, gt_iff_lt, Decidable.not_not, reduceCtorEq, *] at hc) <;> (try (exfalso; omega)))
    | ((with_reducible apply opsF.und); (case hg => rfl))
    | ((with_reducible apply opsF.callv); (case hf => exact tEV); (case hx => exact tCV))
    | ((with_reducible apply dopsF.op rfl); (case hs => (first | exact tHT | exact tHS)))
    | ((with_reducible apply dopsF.call); (case hx => exact tAG))
    | ((with_reducible apply dopsF.want); (case hg => exact tEV); (case hb => exact tNB))
    | ((with_reducible apply dopsF.skip); (case hg => exact tEV); (case hb => exact tNB))
    | ((with_reducible apply dopsF.und); (case hg => rfl))
    | ((with_reducible apply stabF.und); rfl)
    | ((with_reducible apply stabF.want); (case hg => exact tEV); (case hb => exact tNB))
    | ((with_reducible apply stabF.skip); (case hg => exact tEV); (case hb => exact tNB))
    | ((with_reducible apply stabF.op); (case hs => (first | exact tHT | exact tHS)); (case hv => exact tSV))
    | ((with_reducible apply retF.r); (case hv => exact tRS))
    | ((with_reducible apply retF.nn); (case hv => exact tRS))
    | ((refine (format_call _ _ _ _ hl).mono fun v h' hp => ?_); rw [hv] at hp; obtain ⟨rfl, he⟩ := hp; have hN := he.n; have hO := he.objs; (try simp only [alloc_n, set_n, newTok_n, bump_n] at hN hO))
    | ((refine (answers_call _).mono fun v h' hp => ?_); obtain ⟨rfl, he⟩ := hp; have hN := he.n; have hO := he.objs; (try simp only [alloc_n, set_n, newTok_n, bump_n] at hN hO))
    | ((refine (one_call k s _ (by omega)).mono fun v h2 hp => ?_); rw [hone] at hp; obtain ⟨rfl, he⟩ := hp; have hN := he.n; have hO := he.objs; (try simp only [alloc_n, set_n, newTok_n, bump_n] at hN hO))
    | ((refine (reply_New_call _).mono fun v h' hp => ?_); obtain ⟨rfl, rfl⟩ := hp))
      · have f1 : feedS 0 [] 1 [51, 53, 52, 45, 109, 111, 114, 101] = ((354, [[109, 111, 114, 101]]), (0, []), false, 0) := by rfl
        have f2 : feedS 354 [[109, 111, 114, 101]] k s = ((0, []), (0, []), false, 2) := by simp only [feedS, hOne]
        have hlin : linesS 1000 [] (fmtGo n ls) = (fmtLines n ls, []) := linesS_fmt (by omega) (by omega) ls hall
        have hfl : (fmtGo n ls).length ≤ 500 * ls.length := fmtGo_len n (by omega) ls hall
        have xfl := fmtLines_len n
        refine (feed_call h2.n 0 [] .full 1 _ _ ⟨by simp [alloc_at, srows], trivial, by simp [alloc_n]⟩ (by decide) (by decide)).mono fun v h3 hp => ?_
        rw [f1] at hp
        obtain ⟨tk3, tok3, rfl, hrd3, htn3, he3⟩ := hp
        have hN3 := he3.n
        have hO3 := he3.objs
        simp only [alloc_n] at hN3 hO3
        repeat' (first
    | ((with_reducible apply opsF.op rfl); (case hs => (first | exact tHT | exact tHS)))
    | with_reducible (first | apply opsF.nil | apply seqF.nn | apply vcF.seq | apply vcF.region | apply vcF.dregion | apply vcF.skip | apply vcF.block | apply vcF.exit | apply vcF.ret | apply vcF.loop | apply seqF.e | apply seqF.r | apply blkF.nn | apply blkF.e | apply blkF.r | apply blkF.o rfl | apply dopsF.nil | apply stabsF.nil | apply stabsF.cons | apply dopsF.cont)
    | ((with_reducible apply opsF.call); (case hx => exact tAG))
    | ((with_reducible apply opsF.want); (case hg => exact tEV); (case hb => exact tNB))
    | ((with_reducible apply opsF.skip); (case hg => exact tEV); (case hb => exact tNB))
    | (first | ((with_reducible apply opsF.case); (case hg => exact tEV)) | ((with_reducible apply vcF.cond); (case hx => exact tEV)) | ((with_reducible apply dopsF.case); (case hg => exact tEV))) <;> ((intro hc; try simp only [Int.reduceLT, Int.reduceLE, Int.reduceEq, Int.reduceNe, Int.cast_ofNat_Int, Int.reduceNeg, decide_true, decide_false, not_true_eq_false, not_false_eq_true, decide_eq_true_eq, decide_eq_false_iff_not, Bool.not_eq_true', Bool.not_eq_false', Bool.not_true, Bool.not_false, Bool.false_eq_true, Bool.true_eq_false, Bool.not_eq_true, Bool.not_eq_false, beq_iff_eq, beq_eq_false_iff_ne, bne_iff_ne, bne_eq_false_iff_eq, ne_eq, Int.not_lt, Int.not_le, ge_iff_le, gt_iff_lt, Decidable.not_not, reduceCtorEq, *] at hc) <;> (try (exfalso; omega)))
    | ((with_reducible apply opsF.und); (case hg => rfl))
    | ((with_reducible apply opsF.callv); (case hf => exact tEV); (case hx => exact tCV))
    | ((with_reducible apply dopsF.op rfl); (case hs => (first | exact tHT | exact tHS)))
    | ((with_reducible apply dopsF.call); (case hx => exact tAG))
    | ((with_reducible apply dopsF.want); (case hg => exact tEV); (case hb => exact tNB))
    | ((with_reducible apply dopsF.skip); (case hg => exact tEV); (case hb => exact tNB))
    | ((with_reducible apply dopsF.und); (case hg => rfl))
    | ((with_reducible apply stabF.und); rfl)
    | ((with_reducible apply stabF.want); (case hg => exact tEV); (case hb => exact tNB))
    | ((with_reducible apply stabF.skip); (case hg => exact tEV); (case hb => exact tNB))
    | ((with_reducible apply stabF.op); (case hs => (first | exact tHT | exact tHS)); (case hv => exact tSV))
    | ((with_reducible apply retF.r); (case hv => exact tRS))
    | ((with_reducible apply retF.nn); (case hv => exact tRS))
    | ((refine (feed_call h2.n 354 [[109, 111, 114, 101]] tok3 k s _ hrd3 (by omega) (by decide)).mono fun v h4 hp => ?_); rw [f2] at hp; obtain ⟨tk4, tok4, rfl, hrd4, htn4, he⟩ := hp; have hN := he.n; have hO := he.objs; (try simp only [alloc_n, set_n, newTok_n, bump_n] at hN hO))
    | ((refine (lines_call (fmtGo n ls) 1000 .no _ (by omega) rfl).mono fun v h5 hp => ?_); rw [hlin] at hp; obtain ⟨tk5, rfl, he⟩ := hp; have hN := he.n; have hO := he.objs; (try simp only [alloc_n, set_n, newTok_n, bump_n] at hN hO)))
        refine LpF.ind rfl (fun i : Nat => ls.length - i) (fun i σ h' => σ 17 = .v (.int .i64 (i : Nat)) ∧ σ 15 = .list 2 (lrows (fmtLines n ls)) tk5 ∧ σ 14 = .v (.int .i64 2) ∧ i ≤ ls.length ∧ ∃ rid xid, σ 11 = .ptr rid 0 ∧ σ 3 = .ptr xid 0 ∧ xid ≠ rid ∧ h'.objs xid = some (.cells [.v (.int .i64 n), .list 1 (srows ls) .no]) ∧ xid < h'.n ∧ (i < ls.length → ∃ c tok, Rd h' rid c (ls.take i) tok ∧ (i ≠ 0 → c = n))) ?_ (i := 0) ?_
        · rintro i σ h' ⟨h17, h15, h14, hi, rid, xid, h11, h3, hrx, hx, hxl, hR⟩
          rcases Nat.lt_or_ge i ls.length with hlt | hge
          · obtain ⟨c, tok, hrd, hcn⟩ := hR hlt
            have hrl := hrd.lt
            obtain ⟨s', hs⟩ : ∃ s, ls[i]? = some s := ⟨_, List.getElem?_eq_getElem hlt⟩
            have hgL := fmtLines_get n ls i s' hs
            have hfd := feed_fmt (n := n) (by omega) (by omega) hs hcn
            have hsl' : (udecS n ++ [if i + 1 = ls.length then 32 else 45] ++ s').length ≤ 1000 := by
              have h1 := udecS_20 n (by omega)
              have h2 := List.all_eq_true.1 hall s' (List.mem_of_getElem? hs)
              simp only [lineOk, Bool.and_eq_true, decide_eq_true_eq] at h2
              simp only [List.length_append, List.length_cons, List.length_nil]
              omega
            generalize udecS n ++ [if i + 1 = ls.length then 32 else 45] ++ s' = seg at hgL hfd hsl'
            have htl : (ls.take i).length ≤ 1000000000 := by rw [List.length_take]; omega
            by_cases hq : i + 1 = ls.length
            · rw [if_pos hq] at hfd
              have hqd : decide ((i : Int) + 1 = (ls.length : Int)) = true := decide_eq_true (by omega)
              repeat' (first
    | ((with_reducible apply opsF.op rfl); (case hs => (first | exact tHT | exact tHS)))
    | with_reducible (first | apply opsF.nil | apply seqF.nn | apply vcF.seq | apply vcF.region | apply vcF.dregion | apply vcF.skip | apply vcF.block | apply vcF.exit | apply vcF.ret | apply vcF.loop | apply seqF.e | apply seqF.r | apply blkF.nn | apply blkF.e | apply blkF.r | apply blkF.o rfl | apply dopsF.nil | apply stabsF.nil | apply stabsF.cons | apply dopsF.cont)
    | ((with_reducible apply opsF.call); (case hx => exact tAG))
    | ((with_reducible apply opsF.want); (case hg => exact tEV); (case hb => exact tNB))
    | ((with_reducible apply opsF.skip); (case hg => exact tEV); (case hb => exact tNB))
    | (first | ((with_reducible apply opsF.case); (case hg => exact tEV)) | ((with_reducible apply vcF.cond); (case hx => exact tEV)) | ((with_reducible apply dopsF.case); (case hg => exact tEV))) <;> ((intro hc; try simp only [Int.reduceLT, Int.reduceLE, Int.reduceEq, Int.reduceNe, Int.cast_ofNat_Int, Int.reduceNeg, decide_true, decide_false, not_true_eq_false, not_false_eq_true, decide_eq_true_eq, decide_eq_false_iff_not, Bool.not_eq_true', Bool.not_eq_false', Bool.not_true, Bool.not_false, Bool.false_eq_true, Bool.true_eq_false, Bool.not_eq_true, Bool.not_eq_false, beq_iff_eq, beq_eq_false_iff_ne, bne_iff_ne, bne_eq_false_iff_eq, ne_eq, Int.not_lt, Int.not_le, ge_iff_le, gt_iff_lt, Decidable.not_not, reduceCtorEq, *] at hc) <;> (try (exfalso; omega)))
    | ((with_reducible apply opsF.und); (case hg => rfl))
    | ((with_reducible apply opsF.callv); (case hf => exact tEV); (case hx => exact tCV))
    | ((with_reducible apply dopsF.op rfl); (case hs => (first | exact tHT | exact tHS)))
    | ((with_reducible apply dopsF.call); (case hx => exact tAG))
    | ((with_reducible apply dopsF.want); (case hg => exact tEV); (case hb => exact tNB))
    | ((with_reducible apply dopsF.skip); (case hg => exact tEV); (case hb => exact tNB))
    | ((with_reducible apply dopsF.und); (case hg => rfl))
    | ((with_reducible apply stabF.und); rfl)
    | ((with_reducible apply stabF.want); (case hg => exact tEV); (case hb => exact tNB))
    | ((with_reducible apply stabF.skip); (case hg => exact tEV); (case hb => exact tNB))
    | ((with_reducible apply stabF.op); (case hs => (first | exact tHT | exact tHS)); (case hv => exact tSV))
    | ((with_reducible apply retF.r); (case hv => exact tRS))
    | ((with_reducible apply retF.nn); (case hv => exact tRS))
    | ((refine (feed_call rid c (ls.take i) tok 1 seg _ hrd (by omega) htl).mono fun v h6 hp => ?_); rw [hfd] at hp; obtain ⟨tk6, tok6, rfl, hrd6, htn6, he⟩ := hp; have hN := he.n; have hO := he.objs; (try simp only [alloc_n, set_n, newTok_n, bump_n] at hN hO))
    | ((refine (texts_call' ls ls rfl rfl _ (by omega)).mono fun v h7 hp => ?_); obtain ⟨rfl, rfl⟩ := hp))
              refine ⟨i + 1, by omega, rfl, h15, h14, by omega, rid, xid, h11, h3, hrx, (by first | ((simp (disch := omega) only [alloc_at, set_at, newTok_at, bump_at, alloc_n, set_n, newTok_n, bump_n, eq_self, if_true, reduceIte, if_pos, if_neg, *]); done) | exact tHE | ((simp (disch := omega) only [alloc_at, set_at, newTok_at, bump_at, alloc_n, set_n, newTok_n, bump_n, eq_self, if_true, reduceIte, if_pos, if_neg, *]); rfl)), ?_, fun hh => by omega⟩
              simp only [set_n, alloc_n]
              omega
            · rw [if_neg hq] at hfd
              have hqd : decide ((i : Int) + 1 = (ls.length : Int)) = false := decide_eq_false (by omega)
              repeat' (first
    | ((with_reducible apply opsF.op rfl); (case hs => (first | exact tHT | exact tHS)))
    | with_reducible (first | apply opsF.nil | apply seqF.nn | apply vcF.seq | apply vcF.region | apply vcF.dregion | apply vcF.skip | apply vcF.block | apply vcF.exit | apply vcF.ret | apply vcF.loop | apply seqF.e | apply seqF.r | apply blkF.nn | apply blkF.e | apply blkF.r | apply blkF.o rfl | apply dopsF.nil | apply stabsF.nil | apply stabsF.cons | apply dopsF.cont)
    | ((with_reducible apply opsF.call); (case hx => exact tAG))
    | ((with_reducible apply opsF.want); (case hg => exact tEV); (case hb => exact tNB))
    | ((with_reducible apply opsF.skip); (case hg => exact tEV); (case hb => exact tNB))
    | (first | ((with_reducible apply opsF.case); (case hg => exact tEV)) | ((with_reducible apply vcF.cond); (case hx => exact tEV)) | ((with_reducible apply dopsF.case); (case hg => exact tEV))) <;> ((intro hc; try simp only [Int.reduceLT, Int.reduceLE, Int.reduceEq, Int.reduceNe, Int.cast_ofNat_Int, Int.reduceNeg, decide_true, decide_false, not_true_eq_false, not_false_eq_true, decide_eq_true_eq, decide_eq_false_iff_not, Bool.not_eq_true', Bool.not_eq_false', Bool.not_true, Bool.not_false, Bool.false_eq_true, Bool.true_eq_false, Bool.not_eq_true, Bool.not_eq_false, beq_iff_eq, beq_eq_false_iff_ne, bne_iff_ne, bne_eq_false_iff_eq, ne_eq, Int.not_lt, Int.not_le, ge_iff_le, gt_iff_lt, Decidable.not_not, reduceCtorEq, *] at hc) <;> (try (exfalso; omega)))
    | ((with_reducible apply opsF.und); (case hg => rfl))
    | ((with_reducible apply opsF.callv); (case hf => exact tEV); (case hx => exact tCV))
    | ((with_reducible apply dopsF.op rfl); (case hs => (first | exact tHT | exact tHS)))
    | ((with_reducible apply dopsF.call); (case hx => exact tAG))
    | ((with_reducible apply dopsF.want); (case hg => exact tEV); (case hb => exact tNB))
    | ((with_reducible apply dopsF.skip); (case hg => exact tEV); (case hb => exact tNB))
    | ((with_reducible apply dopsF.und); (case hg => rfl))
    | ((with_reducible apply stabF.und); rfl)
    | ((with_reducible apply stabF.want); (case hg => exact tEV); (case hb => exact tNB))
    | ((with_reducible apply stabF.skip); (case hg => exact tEV); (case hb => exact tNB))
    | ((with_reducible apply stabF.op); (case hs => (first | exact tHT | exact tHS)); (case hv => exact tSV))
    | ((with_reducible apply retF.r); (case hv => exact tRS))
    | ((with_reducible apply retF.nn); (case hv => exact tRS))
    | ((refine (feed_call rid c (ls.take i) tok 1 seg _ hrd (by omega) htl).mono fun v h6 hp => ?_); rw [hfd] at hp; obtain ⟨tk6, tok6, rfl, hrd6, htn6, he⟩ := hp; have hN := he.n; have hO := he.objs; (try simp only [alloc_n, set_n, newTok_n, bump_n] at hN hO)))
              have ho6 := hrd6.obj
              refine ⟨i + 1, by omega, rfl, h15, h14, by omega, rid, xid, h11, h3, hrx, (by first | ((simp (disch := omega) only [alloc_at, set_at, newTok_at, bump_at, alloc_n, set_n, newTok_n, bump_n, eq_self, if_true, reduceIte, if_pos, if_neg, *]); done) | exact tHE | ((simp (disch := omega) only [alloc_at, set_at, newTok_at, bump_at, alloc_n, set_n, newTok_n, bump_n, eq_self, if_true, reduceIte, if_pos, if_neg, *]); rfl)), ?_, fun hh => ⟨n, tok6, ⟨(by first | ((simp (disch := omega) only [alloc_at, set_at, newTok_at, bump_at, alloc_n, set_n, newTok_n, bump_n, eq_self, if_true, reduceIte, if_pos, if_neg, *]); done) | exact tHE | ((simp (disch := omega) only [alloc_at, set_at, newTok_at, bump_at, alloc_n, set_n, newTok_n, bump_n, eq_self, if_true, reduceIte, if_pos, if_neg, *]); rfl)), hrd6.tok.alloc.set, ?_⟩, fun _ => rfl⟩⟩
              · simp only [set_n, alloc_n]; omega
              · have := hrd6.lt
                simp only [set_n, alloc_n]; omega
          · obtain rfl : i = ls.length := by omega
            repeat' (first
    | ((with_reducible apply opsF.op rfl); (case hs => (first | exact tHT | exact tHS)))
    | with_reducible (first | apply opsF.nil | apply seqF.nn | apply vcF.seq | apply vcF.region | apply vcF.dregion | apply vcF.skip | apply vcF.block | apply vcF.exit | apply vcF.ret | apply vcF.loop | apply seqF.e | apply seqF.r | apply blkF.nn | apply blkF.e | apply blkF.r | apply blkF.o rfl | apply dopsF.nil | apply stabsF.nil | apply stabsF.cons | apply dopsF.cont)
    | ((with_reducible apply opsF.call); (case hx => exact tAG))
    | ((with_reducible apply opsF.want); (case hg => exact tEV); (case hb => exact tNB))
    | ((with_reducible apply opsF.skip); (case hg => exact tEV); (case hb => exact tNB))
    | (first | ((with_reducible apply opsF.case); (case hg => exact tEV)) | ((with_reducible apply vcF.cond); (case hx => exact tEV)) | ((with_reducible apply dopsF.case); (case hg => exact tEV))) <;> ((intro hc; try simp only [Int.reduceLT, Int.reduceLE, Int.reduceEq, Int.reduceNe, Int.cast_ofNat_Int, Int.reduceNeg, decide_true, decide_false, not_true_eq_false, not_false_eq_true, decide_eq_true_eq, decide_eq_false_iff_not, Bool.not_eq_true', Bool.not_eq_false', Bool.not_true, Bool.not_false, Bool.false_eq_true, Bool.true_eq_false, Bool.not_eq_true, Bool.not_eq_false, beq_iff_eq, beq_eq_false_iff_ne, bne_iff_ne, bne_eq_false_iff_eq, ne_eq, Int.not_lt, Int.not_le, ge_iff_le, gt_iff_lt, Decidable.not_not, reduceCtorEq, *] at hc) <;> (try (exfalso; omega)))
    | ((with_reducible apply opsF.und); (case hg => rfl))
    | ((with_reducible apply opsF.callv); (case hf => exact tEV); (case hx => exact tCV))
    | ((with_reducible apply dopsF.op rfl); (case hs => (first | exact tHT | exact tHS)))
    | ((with_reducible apply dopsF.call); (case hx => exact tAG))
    | ((with_reducible apply dopsF.want); (case hg => exact tEV); (case hb => exact tNB))
    | ((with_reducible apply dopsF.skip); (case hg => exact tEV); (case hb => exact tNB))
    | ((with_reducible apply dopsF.und); (case hg => rfl))
    | ((with_reducible apply stabF.und); rfl)
    | ((with_reducible apply stabF.want); (case hg => exact tEV); (case hb => exact tNB))
    | ((with_reducible apply stabF.skip); (case hg => exact tEV); (case hb => exact tNB))
    | ((with_reducible apply stabF.op); (case hs => (first | exact tHT | exact tHS)); (case hv => exact tSV))
    | ((with_reducible apply retF.r); (case hv => exact tRS))
    | ((with_reducible apply retF.nn); (case hv => exact tRS))
    | ((refine (answers_call _).mono fun v h' hp => ?_); obtain ⟨rfl, he⟩ := hp; have hN := he.n; have hO := he.objs; (try simp only [alloc_n, set_n, newTok_n, bump_n] at hN hO)))
            all_goals rfl
        · have ho4 := hrd4.obj
          refine ⟨rfl, rfl, rfl, Nat.zero_le _, h2.n, AH.start.n + 1, rfl, rfl, by omega, (by first | ((simp (disch := omega) only [alloc_at, set_at, newTok_at, bump_at, alloc_n, set_n, newTok_n, bump_n, eq_self, if_true, reduceIte, if_pos, if_neg, *]); done) | exact tHE | ((simp (disch := omega) only [alloc_at, set_at, newTok_at, bump_at, alloc_n, set_n, newTok_n, bump_n, eq_self, if_true, reduceIte, if_pos, if_neg, *]); rfl)), by omega, fun _ => ⟨0, tok4, ⟨?_, ?_, by omega⟩, fun hh => absurd rfl hh⟩⟩
          · exact (by first | ((simp (disch := omega) only [alloc_at, set_at, newTok_at, bump_at, alloc_n, set_n, newTok_n, bump_n, eq_self, if_true, reduceIte, if_pos, if_neg, *]); done) | exact tHE | ((simp (disch := omega) only [alloc_at, set_at, newTok_at, bump_at, alloc_n, set_n, newTok_n, bump_n, eq_self, if_true, reduceIte, if_pos, if_neg, *]); rfl))
          · exact (hrd4.tok.alloc.set).ext he
      all_goals rfl
    · have hone : oneV (oneS k s) = .tup [.v (.int .i64 n2), .v (.bool m), .v (.string (bs t)), .v (.bool true)] := by rw [hOne]; rfl
      repeat' (first
    | ((with_reducible apply opsF.op rfl); (case hs => (first | exact tHT | exact tHS)))
    | with_reducible (first | apply opsF.nil | apply seqF.nn | apply vcF.seq | apply vcF.region | apply vcF.dregion | apply vcF.skip | apply vcF.block | apply vcF.exit | apply vcF.ret | apply vcF.loop | apply seqF.e | apply seqF.r | apply blkF.nn | apply blkF.e | apply blkF.r | apply blkF.o rfl | apply dopsF.nil | apply stabsF.nil | apply stabsF.cons | apply dopsF.cont)
    | ((with_reducible apply opsF.call); (case hx => exact tAG))
    | ((with_reducible apply opsF.want); (case hg => exact tEV); (case hb => exact tNB))
    | ((with_reducible apply opsF.skip); (case hg => exact tEV); (case hb => exact tNB))
    | (first | ((with_reducible apply opsF.case); (case hg => exact tEV)) | ((with_reducible apply vcF.cond); (case hx => exact tEV)) | ((with_reducible apply dopsF.case); (case hg => exact tEV))) <;> ((intro hc; try simp only [Int.reduceLT, Int.reduceLE, Int.reduceEq, Int.reduceNe, Int.cast_ofNat_Int, Int.reduceNeg, decide_true, decide_false, not_true_eq_false, not_false_eq_true, decide_eq_true_eq, decide_eq_false_iff_not, Bool.not_eq_true', Bool.not_eq_false', Bool.not_true, Bool.not_false, Bool.false_eq_true, Bool.true_eq_false, Bool.not_eq_true, Bool.not_eq_false, beq_iff_eq, beq_eq_false_iff_ne, bne_iff_ne, bne_eq_false_iff_eq, ne_eq, Int.not_lt, Int.not_le, ge_iff_le, gt_iff_lt, Decidable.not_not, reduceCtorEq, *] at hc) <;> (try (exfalso; omega)))
    | ((with_reducible apply opsF.und); (case hg => rfl))
    | ((with_reducible apply opsF.callv); (case hf => exact tEV); (case hx => exact tCV))
    | ((with_reducible apply dopsF.op rfl); (case hs => (first | exact tHT | exact tHS)))
    | ((with_reducible apply dopsF.call); (case hx => exact tAG))
    | ((with_reducible apply dopsF.want); (case hg => exact tEV); (case hb => exact tNB))
    | ((with_reducible apply dopsF.skip); (case hg => exact tEV); (case hb => exact tNB))
    | ((with_reducible apply dopsF.und); (case hg => rfl))
    | ((with_reducible apply stabF.und); rfl)
    | ((with_reducible apply stabF.want); (case hg => exact tEV); (case hb => exact tNB))
    | ((with_reducible apply stabF.skip); (case hg => exact tEV); (case hb => exact tNB))
    | ((with_reducible apply stabF.op); (case hs => (first | exact tHT | exact tHS)); (case hv => exact tSV))
    | ((with_reducible apply retF.r); (case hv => exact tRS))
    | ((with_reducible apply retF.nn); (case hv => exact tRS))
    | ((refine (format_call _ _ _ _ hl).mono fun v h' hp => ?_); rw [hv] at hp; obtain ⟨rfl, he⟩ := hp; have hN := he.n; have hO := he.objs; (try simp only [alloc_n, set_n, newTok_n, bump_n] at hN hO))
    | ((refine (answers_call _).mono fun v h' hp => ?_); obtain ⟨rfl, he⟩ := hp; have hN := he.n; have hO := he.objs; (try simp only [alloc_n, set_n, newTok_n, bump_n] at hN hO))
    | ((refine (one_call k s _ (by omega)).mono fun v h2 hp => ?_); rw [hone] at hp; obtain ⟨rfl, he⟩ := hp; have hN := he.n; have hO := he.objs; (try simp only [alloc_n, set_n, newTok_n, bump_n] at hN hO)))
      all_goals rfl
  · have hv : fmtV c ls = .tup [.v (.string (bs [])), .v (.int .i64 2)] := fmtV_bad (by simpa using hok)
    repeat' (first
    | ((with_reducible apply opsF.op rfl); (case hs => (first | exact tHT | exact tHS)))
    | with_reducible (first | apply opsF.nil | apply seqF.nn | apply vcF.seq | apply vcF.region | apply vcF.dregion | apply vcF.skip | apply vcF.block | apply vcF.exit | apply vcF.ret | apply vcF.loop | apply seqF.e | apply seqF.r | apply blkF.nn | apply blkF.e | apply blkF.r | apply blkF.o rfl | apply dopsF.nil | apply stabsF.nil | apply stabsF.cons | apply dopsF.cont)
    | ((with_reducible apply opsF.call); (case hx => exact tAG))
    | ((with_reducible apply opsF.want); (case hg => exact tEV); (case hb => exact tNB))
    | ((with_reducible apply opsF.skip); (case hg => exact tEV); (case hb => exact tNB))
    | (first | ((with_reducible apply opsF.case); (case hg => exact tEV)) | ((with_reducible apply vcF.cond); (case hx => exact tEV)) | ((with_reducible apply dopsF.case); (case hg => exact tEV))) <;> ((intro hc; try simp only [Int.reduceLT, Int.reduceLE, Int.reduceEq, Int.reduceNe, Int.cast_ofNat_Int, Int.reduceNeg, decide_true, decide_false, not_true_eq_false, not_false_eq_true, decide_eq_true_eq, decide_eq_false_iff_not, Bool.not_eq_true', Bool.not_eq_false', Bool.not_true, Bool.not_false, Bool.false_eq_true, Bool.true_eq_false, Bool.not_eq_true, Bool.not_eq_false, beq_iff_eq, beq_eq_false_iff_ne, bne_iff_ne, bne_eq_false_iff_eq, ne_eq, Int.not_lt, Int.not_le, ge_iff_le, gt_iff_lt, Decidable.not_not, reduceCtorEq, *] at hc) <;> (try (exfalso; omega)))
    | ((with_reducible apply opsF.und); (case hg => rfl))
    | ((with_reducible apply opsF.callv); (case hf => exact tEV); (case hx => exact tCV))
    | ((with_reducible apply dopsF.op rfl); (case hs => (first | exact tHT | exact tHS)))
    | ((with_reducible apply dopsF.call); (case hx => exact tAG))
    | ((with_reducible apply dopsF.want); (case hg => exact tEV); (case hb => exact tNB))
    | ((with_reducible apply dopsF.skip); (case hg => exact tEV); (case hb => exact tNB))
    | ((with_reducible apply dopsF.und); (case hg => rfl))
    | ((with_reducible apply stabF.und); rfl)
    | ((with_reducible apply stabF.want); (case hg => exact tEV); (case hb => exact tNB))
    | ((with_reducible apply stabF.skip); (case hg => exact tEV); (case hb => exact tNB))
    | ((with_reducible apply stabF.op); (case hs => (first | exact tHT | exact tHS)); (case hv => exact tSV))
    | ((with_reducible apply retF.r); (case hv => exact tRS))
    | ((with_reducible apply retF.nn); (case hv => exact tRS))
    | ((refine (format_call _ _ _ _ hl).mono fun v h' hp => ?_); rw [hv] at hp; obtain ⟨rfl, he⟩ := hp; have hN := he.n; have hO := he.objs; (try simp only [alloc_n, set_n, newTok_n, bump_n] at hN hO))
    | ((refine (answers_call _).mono fun v h' hp => ?_); obtain ⟨rfl, he⟩ := hp; have hN := he.n; have hO := he.objs; (try simp only [alloc_n, set_n, newTok_n, bump_n] at hN hO)))
    all_goals rfl
theorem law_ReplyAgain (W : World) (hL : laidMetH P Go.Proofs.YtelflknhanpldaaDoor.Rows.replyAgainRow.laid W) (x0 : (Ty.pair (.int .i64) (.pair .str .unit)).D) (h0 : (Ty.pair (.int .i64) (.pair .str .unit)).wf x0) (g0 : (Ty.pair (.int .i64) (.pair .str .unit)).fit 140737488351232 x0)
    (x1 : (Ty.pair (.int .i64) (.pair (.slice .str) .unit)).D) (h1 : (Ty.pair (.int .i64) (.pair (.slice .str) .unit)).wf x1) (g1 : (Ty.pair (.int .i64) (.pair (.slice .str) .unit)).fit 140737488351232 x1) :
    Call P W law04_ReplyAgain [(Ty.pair (.int .i64) (.pair .str .unit)).val x0, (Ty.pair (.int .i64) (.pair (.slice .str) .unit)).val x1] AH.start fun v _ => v = .v (.bool true) :=
  again_main W x0.1 x0.2.1 x1.1 x1.2.1 g0.2.1 g1.2.1.1
end Go.Abs.F
