/- Layer 4: the reader reads as the document says. -/
import Derived.Test.YtelflknhanpldaaDoorRep4
namespace Go.Abs.F
open Go Go.Abs
set_option maxRecDepth 10000
set_option maxHeartbeats 20000000
set_option linter.unusedSimpArgs false
set_option linter.unusedVariables false
variable {w0 : World}
theorem texts_call (a b : List (List UInt8)) (ta tb : Tok) (h : AH) (hl : a.length ≤ 1000000000000) : Call P w0 ref01_Texts [.list 1 (srows a) ta, .list 1 (srows b) tb] h (fun v h' => v = .v (.bool (decide (a = b))) ∧ h' = h) := by
  have xl := srows_len
  have xg := srows_get
  refine Call.bodyF b_ref01_Texts rfl rfl ?_
  unfold c_ref01_Texts
  repeat' (first
    | ((with_reducible apply opsF.op rfl); (case hs => exact tHS))
    | with_reducible (first | apply opsF.nil | apply seqF.nn | apply vcF.seq | apply vcF.region | apply vcF.dregion | apply vcF.skip | apply vcF.block | apply vcF.exit | apply vcF.ret | apply vcF.loop | apply seqF.e | apply seqF.r | apply blkF.nn | apply blkF.e | apply blkF.r | apply blkF.o rfl | apply dopsF.nil | apply stabsF.nil | apply stabsF.cons)
    | ((with_reducible apply opsF.call); (case hx => exact tAG))
    | ((with_reducible apply opsF.want); (case hg => exact tEV); (case hb => exact tNB))
    | ((with_reducible apply opsF.skip); (case hg => exact tEV); (case hb => exact tNB))
    | (first | ((with_reducible apply opsF.case); (case hg => exact tEV)) | ((with_reducible apply vcF.cond); (case hx => exact tEV)) | ((with_reducible apply dopsF.case); (case hg => exact tEV))) <;> ((intro hc; try simp only [Int.reduceLT, Int.reduceLE, Int.reduceEq, Int.reduceNe, Int.cast_ofNat_Int, Int.reduceNeg, decide_true, decide_false, not_true_eq_false, not_false_eq_true, decide_eq_true_eq, decide_eq_false_iff_not, Bool.not_eq_true', Bool.not_eq_false', Bool.not_true, Bool.not_false, Bool.false_eq_true, Bool.true_eq_false, Bool.not_eq_true, Bool.not_eq_false, beq_iff_eq, beq_eq_false_iff_ne, bne_iff_ne, bne_eq_false_iff_eq, ne_eq, Int.not_lt, Int.not_le, ge_iff_le, gt_iff_lt, Decidable.not_not, reduceCtorEq, *] at hc) <;> (try (exfalso; omega)))
    | ((with_reducible apply opsF.und); (case hg => rfl))
    | ((with_reducible apply opsF.callv); (case hf => exact tEV); (case hx => exact tCV))
    | ((with_reducible apply dopsF.op rfl); (case hs => exact tHS))
    | ((with_reducible apply dopsF.call); (case hx => exact tAG))
    | ((with_reducible apply dopsF.want); (case hg => exact tEV); (case hb => exact tNB))
    | ((with_reducible apply dopsF.skip); (case hg => exact tEV); (case hb => exact tNB))
    | ((with_reducible apply dopsF.und); (case hg => rfl))
    | ((with_reducible apply stabF.und); rfl)
    | ((with_reducible apply stabF.want); (case hg => exact tEV); (case hb => exact tNB))
    | ((with_reducible apply stabF.skip); (case hg => exact tEV); (case hb => exact tNB))
    | ((with_reducible apply stabF.op); (case hs => exact tHS); (case hv => exact tSV))
    | ((with_reducible apply retF.r); (case hv => exact tRS))
    | ((with_reducible apply retF.nn); (case hv => exact tRS)))
  · have : a ≠ b := by rintro rfl; simp at *
    simp [this]
  · refine LpF.ind rfl (fun i : Nat => a.length - i) (fun i σ h' => h' = h ∧ σ 0 = .list 1 (srows a) ta ∧ σ 1 = .list 1 (srows b) tb ∧ σ 5 = .v (.int .i64 (i : Nat)) ∧ i ≤ a.length ∧ a.take i = b.take i) ?_ (i := 0) ⟨rfl, rfl, rfl, rfl, Nat.zero_le _, rfl⟩
    rintro i σ h' ⟨rfl, h0, h1, h5, hi, he⟩
    have hlen : a.length = b.length := by omega
    rcases Nat.lt_or_ge i a.length with hlt | hge
    · have ha : a[i]? = some a[i] := List.getElem?_eq_getElem hlt
      have hb : b[i]? = some (b[i]'(by omega)) := List.getElem?_eq_getElem (by omega)
      repeat' (first
    | ((with_reducible apply opsF.op rfl); (case hs => exact tHS))
    | with_reducible (first | apply opsF.nil | apply seqF.nn | apply vcF.seq | apply vcF.region | apply vcF.dregion | apply vcF.skip | apply vcF.block | apply vcF.exit | apply vcF.ret | apply vcF.loop | apply seqF.e | apply seqF.r | apply blkF.nn | apply blkF.e | apply blkF.r | apply blkF.o rfl | apply dopsF.nil | apply stabsF.nil | apply stabsF.cons)
    | ((with_reducible apply opsF.call); (case hx => exact tAG))
    | ((with_reducible apply opsF.want); (case hg => exact tEV); (case hb => exact tNB))
    | ((with_reducible apply opsF.skip); (case hg => exact tEV); (case hb => exact tNB))
    | (first | ((with_reducible apply opsF.case); (case hg => exact tEV)) | ((with_reducible apply vcF.cond); (case hx => exact tEV)) | ((with_reducible apply dopsF.case); (case hg => exact tEV))) <;> ((intro hc; try simp only [Int.reduceLT, Int.reduceLE, Int.reduceEq, Int.reduceNe, Int.cast_ofNat_Int, Int.reduceNeg, decide_true, decide_false, not_true_eq_false, not_false_eq_true, decide_eq_true_eq, decide_eq_false_iff_not, Bool.not_eq_true', Bool.not_eq_false', Bool.not_true, Bool.not_false, Bool.false_eq_true, Bool.true_eq_false, Bool.not_eq_true, Bool.not_eq_false, beq_iff_eq, beq_eq_false_iff_ne, bne_iff_ne, bne_eq_false_iff_eq, ne_eq, Int.not_lt, Int.not_le, ge_iff_le, gt_iff_lt, Decidable.not_not, reduceCtorEq, *] at hc) <;> (try (exfalso; omega)))
    | ((with_reducible apply opsF.und); (case hg => rfl))
    | ((with_reducible apply opsF.callv); (case hf => exact tEV); (case hx => exact tCV))
    | ((with_reducible apply dopsF.op rfl); (case hs => exact tHS))
    | ((with_reducible apply dopsF.call); (case hx => exact tAG))
    | ((with_reducible apply dopsF.want); (case hg => exact tEV); (case hb => exact tNB))
    | ((with_reducible apply dopsF.skip); (case hg => exact tEV); (case hb => exact tNB))
    | ((with_reducible apply dopsF.und); (case hg => rfl))
    | ((with_reducible apply stabF.und); rfl)
    | ((with_reducible apply stabF.want); (case hg => exact tEV); (case hb => exact tNB))
    | ((with_reducible apply stabF.skip); (case hg => exact tEV); (case hb => exact tNB))
    | ((with_reducible apply stabF.op); (case hs => exact tHS); (case hv => exact tSV))
    | ((with_reducible apply retF.r); (case hv => exact tRS))
    | ((with_reducible apply retF.nn); (case hv => exact tRS)))
      · have : a ≠ b := by rintro rfl; simp at *
        simp [this]
      · refine ⟨i + 1, by omega, rfl, by assumption, by assumption, ?_, by omega, ?_⟩
        · exact rfl
        · rw [List.take_add_one, List.take_add_one, he, ha, hb, hc]
    · have : i = a.length := by omega
      subst this
      repeat' (first
    | ((with_reducible apply opsF.op rfl); (case hs => exact tHS))
    | with_reducible (first | apply opsF.nil | apply seqF.nn | apply vcF.seq | apply vcF.region | apply vcF.dregion | apply vcF.skip | apply vcF.block | apply vcF.exit | apply vcF.ret | apply vcF.loop | apply seqF.e | apply seqF.r | apply blkF.nn | apply blkF.e | apply blkF.r | apply blkF.o rfl | apply dopsF.nil | apply stabsF.nil | apply stabsF.cons)
    | ((with_reducible apply opsF.call); (case hx => exact tAG))
    | ((with_reducible apply opsF.want); (case hg => exact tEV); (case hb => exact tNB))
    | ((with_reducible apply opsF.skip); (case hg => exact tEV); (case hb => exact tNB))
    | (first | ((with_reducible apply opsF.case); (case hg => exact tEV)) | ((with_reducible apply vcF.cond); (case hx => exact tEV)) | ((with_reducible apply dopsF.case); (case hg => exact tEV))) <;> ((intro hc; try simp only [Int.reduceLT, Int.reduceLE, Int.reduceEq, Int.reduceNe, Int.cast_ofNat_Int, Int.reduceNeg, decide_true, decide_false, not_true_eq_false, not_false_eq_true, decide_eq_true_eq, decide_eq_false_iff_not, Bool.not_eq_true', Bool.not_eq_false', Bool.not_true, Bool.not_false, Bool.false_eq_true, Bool.true_eq_false, Bool.not_eq_true, Bool.not_eq_false, beq_iff_eq, beq_eq_false_iff_ne, bne_iff_ne, bne_eq_false_iff_eq, ne_eq, Int.not_lt, Int.not_le, ge_iff_le, gt_iff_lt, Decidable.not_not, reduceCtorEq, *] at hc) <;> (try (exfalso; omega)))
    | ((with_reducible apply opsF.und); (case hg => rfl))
    | ((with_reducible apply opsF.callv); (case hf => exact tEV); (case hx => exact tCV))
    | ((with_reducible apply dopsF.op rfl); (case hs => exact tHS))
    | ((with_reducible apply dopsF.call); (case hx => exact tAG))
    | ((with_reducible apply dopsF.want); (case hg => exact tEV); (case hb => exact tNB))
    | ((with_reducible apply dopsF.skip); (case hg => exact tEV); (case hb => exact tNB))
    | ((with_reducible apply dopsF.und); (case hg => rfl))
    | ((with_reducible apply stabF.und); rfl)
    | ((with_reducible apply stabF.want); (case hg => exact tEV); (case hb => exact tNB))
    | ((with_reducible apply stabF.skip); (case hg => exact tEV); (case hb => exact tNB))
    | ((with_reducible apply stabF.op); (case hs => exact tHS); (case hv => exact tSV))
    | ((with_reducible apply retF.r); (case hv => exact tRS))
    | ((with_reducible apply retF.nn); (case hv => exact tRS)))
      have : a = b := by
        rw [List.take_length, hlen, List.take_length] at he
        exact he
      simp [this]
theorem texts_call' (a b : List (List UInt8)) {ra rb : List (List AV)} {ta tb : Tok} (ha : ra = srows a) (hb : rb = srows b) (h : AH) (hl : a.length ≤ 1000000000000) : Call P w0 ref01_Texts [.list 1 ra ta, .list 1 rb tb] h (fun v h' => v = .v (.bool (decide (a = b))) ∧ h' = h) := by
  subst ha hb
  exact texts_call a b ta tb h hl
/-- The rows of a list of lines. -/
def lrows (l : List (Int × List UInt8)) : List (List AV) := l.map fun x => [.v (.int .i64 x.1), .v (.string (bs x.2))]
theorem lrows_len (l : List (Int × List UInt8)) : (lrows l).length = l.length := by simp [lrows]
theorem lrows_get (l : List (Int × List UInt8)) (i : Nat) : (lrows l)[i]? = (l[i]?).map fun x => [.v (.int .i64 x.1), .v (.string (bs x.2))] := by simp [lrows]
theorem lrows_ty (l : (Ty.slice (.pair (.int .i64) (.pair .str .unit))).D) : ∃ ls : List (Int × List UInt8), (Ty.slice (.pair (.int .i64) (.pair .str .unit))).val l = .list 2 (lrows ls) .no := by
  refine ⟨List.map (fun x : (Ty.pair (.int .i64) (.pair .str .unit)).D => ((x.1 : Int), (x.2.1 : List UInt8))) l, ?_⟩
  simp only [Ty.val, lrows]
  congr 1
  exact (List.map_map (l := l) (f := fun x : (Ty.pair (.int .i64) (.pair .str .unit)).D => ((x.1 : Int), (x.2.1 : List UInt8))) (g := fun x : Int × List UInt8 => [AV.v (.int .i64 x.1), AV.v (.string (bs x.2))])).symm
/-- What the reader has taken, and what the law has. -/
structure Rr (h : AH) (rid nid i : Nat) (c cn : Int) (l : List (List UInt8)) (tok tk : Tok) : Prop where
  rd : Rd h rid c l tok
  obj : h.objs nid = some (.cells [.v (.int .i64 cn), .list 1 (srows l) tk])
  lt : nid < h.n
  ne : nid ≠ rid
  len : l.length ≤ i
  same : l ≠ [] → cn = c
theorem law_ReplyReads (W : World) (hL : laidMetH P Go.Proofs.YtelflknhanpldaaDoor.Rows.replyReadsRow.laid W) (x0 : (Ty.slice (.pair (.int .i64) (.pair .str .unit))).D) (h0 : (Ty.slice (.pair (.int .i64) (.pair .str .unit))).wf x0) :
    Call P W law04_ReplyReads [(Ty.slice (.pair (.int .i64) (.pair .str .unit))).val x0] AH.start fun v _ => v = .v (.bool true) := by
  obtain ⟨ls, hls⟩ := lrows_ty x0
  rw [hls]
  clear hls h0
  have xl := lrows_len
  have xg := lrows_get
  have xs := srows_len
  refine Call.bodyF b_law04_ReplyReads rfl rfl ?_
  unfold c_law04_ReplyReads
  repeat' (first
    | ((with_reducible apply opsF.op rfl); (case hs => exact tHS))
    | with_reducible (first | apply opsF.nil | apply seqF.nn | apply vcF.seq | apply vcF.region | apply vcF.dregion | apply vcF.skip | apply vcF.block | apply vcF.exit | apply vcF.ret | apply vcF.loop | apply seqF.e | apply seqF.r | apply blkF.nn | apply blkF.e | apply blkF.r | apply blkF.o rfl | apply dopsF.nil | apply stabsF.nil | apply stabsF.cons)
    | ((with_reducible apply opsF.call); (case hx => exact tAG))
    | ((with_reducible apply opsF.want); (case hg => exact tEV); (case hb => exact tNB))
    | ((with_reducible apply opsF.skip); (case hg => exact tEV); (case hb => exact tNB))
    | (first | ((with_reducible apply opsF.case); (case hg => exact tEV)) | ((with_reducible apply vcF.cond); (case hx => exact tEV)) | ((with_reducible apply dopsF.case); (case hg => exact tEV))) <;> ((intro hc; try simp only [Int.reduceLT, Int.reduceLE, Int.reduceEq, Int.reduceNe, Int.cast_ofNat_Int, Int.reduceNeg, decide_true, decide_false, not_true_eq_false, not_false_eq_true, decide_eq_true_eq, decide_eq_false_iff_not, Bool.not_eq_true', Bool.not_eq_false', Bool.not_true, Bool.not_false, Bool.false_eq_true, Bool.true_eq_false, Bool.not_eq_true, Bool.not_eq_false, beq_iff_eq, beq_eq_false_iff_ne, bne_iff_ne, bne_eq_false_iff_eq, ne_eq, Int.not_lt, Int.not_le, ge_iff_le, gt_iff_lt, Decidable.not_not, reduceCtorEq, *] at hc) <;> (try (exfalso; omega)))
    | ((with_reducible apply opsF.und); (case hg => rfl))
    | ((with_reducible apply opsF.callv); (case hf => exact tEV); (case hx => exact tCV))
    | ((with_reducible apply dopsF.op rfl); (case hs => exact tHS))
    | ((with_reducible apply dopsF.call); (case hx => exact tAG))
    | ((with_reducible apply dopsF.want); (case hg => exact tEV); (case hb => exact tNB))
    | ((with_reducible apply dopsF.skip); (case hg => exact tEV); (case hb => exact tNB))
    | ((with_reducible apply dopsF.und); (case hg => rfl))
    | ((with_reducible apply stabF.und); rfl)
    | ((with_reducible apply stabF.want); (case hg => exact tEV); (case hb => exact tNB))
    | ((with_reducible apply stabF.skip); (case hg => exact tEV); (case hb => exact tNB))
    | ((with_reducible apply stabF.op); (case hs => exact tHS); (case hv => exact tSV))
    | ((with_reducible apply retF.r); (case hv => exact tRS))
    | ((with_reducible apply retF.nn); (case hv => exact tRS))
    | ((refine (answers_call _).mono fun v h' hp => ?_); obtain ⟨rfl, he⟩ := hp; have hN := he.n; have hO := he.objs; (try simp only [alloc_n, set_n, newTok_n, bump_n] at hN hO))
    | ((refine (reply_New_call _).mono fun v h' hp => ?_); obtain ⟨rfl, rfl⟩ := hp))
  · rfl
  · refine LpF.ind rfl (fun i : Nat => ls.length - i) (fun i σ h' => σ 0 = .list 2 (lrows ls) .no ∧ σ 5 = .v (.int .i64 (i : Nat)) ∧ i ≤ ls.length ∧ ∃ rid nid c cn l tok tk, σ 3 = .ptr rid 0 ∧ σ 4 = .ptr nid 0 ∧ Rr h' rid nid i c cn l tok tk) ?_ (i := 0) ?_
    · rintro i σ h' ⟨h0, h5, hi, rid, nid, c, cn, l, tok, tk, h3, h4, hr⟩
      have ho := hr.obj
      have hlt := hr.lt
      have hne := hr.ne
      have hrlt := hr.rd.lt
      have hll := hr.len
      rcases Nat.lt_or_ge i ls.length with hlt | hge
      · obtain ⟨⟨k, s⟩, hls⟩ : ∃ x, ls[i]? = some x := ⟨_, List.getElem?_eq_getElem hlt⟩
        rcases hO : oneS k s with _ | ⟨n, m, t⟩
        · have hone : oneV (oneS k s) = .tup [.v (.int .i64 0), .v (.bool false), .v (.string (bs [])), .v (.bool false)] := by rw [hO]; rfl
          have hf : feedS c l k s = ((0, []), (0, []), false, 2) := by simp only [feedS, hO]
          repeat' (first
    | ((with_reducible apply opsF.op rfl); (case hs => exact tHS))
    | with_reducible (first | apply opsF.nil | apply seqF.nn | apply vcF.seq | apply vcF.region | apply vcF.dregion | apply vcF.skip | apply vcF.block | apply vcF.exit | apply vcF.ret | apply vcF.loop | apply seqF.e | apply seqF.r | apply blkF.nn | apply blkF.e | apply blkF.r | apply blkF.o rfl | apply dopsF.nil | apply stabsF.nil | apply stabsF.cons)
    | ((with_reducible apply opsF.call); (case hx => exact tAG))
    | ((with_reducible apply opsF.want); (case hg => exact tEV); (case hb => exact tNB))
    | ((with_reducible apply opsF.skip); (case hg => exact tEV); (case hb => exact tNB))
    | (first | ((with_reducible apply opsF.case); (case hg => exact tEV)) | ((with_reducible apply vcF.cond); (case hx => exact tEV)) | ((with_reducible apply dopsF.case); (case hg => exact tEV))) <;> ((intro hc; try simp only [Int.reduceLT, Int.reduceLE, Int.reduceEq, Int.reduceNe, Int.cast_ofNat_Int, Int.reduceNeg, decide_true, decide_false, not_true_eq_false, not_false_eq_true, decide_eq_true_eq, decide_eq_false_iff_not, Bool.not_eq_true', Bool.not_eq_false', Bool.not_true, Bool.not_false, Bool.false_eq_true, Bool.true_eq_false, Bool.not_eq_true, Bool.not_eq_false, beq_iff_eq, beq_eq_false_iff_ne, bne_iff_ne, bne_eq_false_iff_eq, ne_eq, Int.not_lt, Int.not_le, ge_iff_le, gt_iff_lt, Decidable.not_not, reduceCtorEq, *] at hc) <;> (try (exfalso; omega)))
    | ((with_reducible apply opsF.und); (case hg => rfl))
    | ((with_reducible apply opsF.callv); (case hf => exact tEV); (case hx => exact tCV))
    | ((with_reducible apply dopsF.op rfl); (case hs => exact tHS))
    | ((with_reducible apply dopsF.call); (case hx => exact tAG))
    | ((with_reducible apply dopsF.want); (case hg => exact tEV); (case hb => exact tNB))
    | ((with_reducible apply dopsF.skip); (case hg => exact tEV); (case hb => exact tNB))
    | ((with_reducible apply dopsF.und); (case hg => rfl))
    | ((with_reducible apply stabF.und); rfl)
    | ((with_reducible apply stabF.want); (case hg => exact tEV); (case hb => exact tNB))
    | ((with_reducible apply stabF.skip); (case hg => exact tEV); (case hb => exact tNB))
    | ((with_reducible apply stabF.op); (case hs => exact tHS); (case hv => exact tSV))
    | ((with_reducible apply retF.r); (case hv => exact tRS))
    | ((with_reducible apply retF.nn); (case hv => exact tRS))
    | ((refine (answers_call _).mono fun v h' hp => ?_); obtain ⟨rfl, he⟩ := hp; have hN := he.n; have hO := he.objs; (try simp only [alloc_n, set_n, newTok_n, bump_n] at hN hO))
    | ((refine (feed_call rid c l tok k s _ hr.rd (by omega) (by first | omega | (simp only [List.length_nil, List.length_cons] at *; omega))).mono fun v h1 hp => ?_); rw [hf] at hp; obtain ⟨tk1, tok1, rfl, hrd1, htn1, he⟩ := hp; have hN := he.n; have hO := he.objs; (try simp only [alloc_n, set_n, newTok_n, bump_n] at hN hO))
    | ((refine (one_call k s _ (by omega)).mono fun v h2 hp => ?_); rw [hone] at hp; obtain ⟨rfl, he⟩ := hp; have hN := he.n; have hO := he.objs; (try simp only [alloc_n, set_n, newTok_n, bump_n] at hN hO)))
          · rfl
          · have ho1 := hrd1.obj
            refine ⟨i + 1, by omega, h0, rfl, by omega, rid, nid, 0, 0, [], tok1, .full, h3, h4, ⟨⟨?_, ?_, ?_⟩, ?_, ?_, hne, ?_, ?_⟩⟩
            · (first | exact tHE | ((simp (disch := omega) only [alloc_at, set_at, newTok_at, bump_at, alloc_n, set_n, newTok_n, bump_n, eq_self, if_true, reduceIte, if_pos, if_neg, *]); (try simp [srows]); done))
            · (repeat' (first | exact hrd1.tok | with_reducible (first | apply TokU.set | apply TokU.alloc | apply TokU.fresh2 | apply TokU.fresh | apply TokU.newTok) | (refine TokU.ext (by assumption) ?_)))
            · (simp only [set_n, alloc_n, newTok_n, bump_n] at *; omega)
            · (first | exact tHE | ((simp (disch := omega) only [alloc_at, set_at, newTok_at, bump_at, alloc_n, set_n, newTok_n, bump_n, eq_self, if_true, reduceIte, if_pos, if_neg, *]); (try simp [srows]); done))
            · (simp only [set_n, alloc_n, newTok_n, bump_n] at *; omega)
            · first | omega | (simp only [List.length_nil, List.length_cons, List.length_append] at *; omega)
            · intro _; rfl
        · have hone : oneV (oneS k s) = .tup [.v (.int .i64 n), .v (.bool m), .v (.string (bs t)), .v (.bool true)] := by rw [hO]; rfl
          rcases l with _ | ⟨a, l⟩
          · cases m with
            | true =>
              have hf : feedS c ([] : List (List UInt8)) k s = ((n, ([] : List (List UInt8)) ++ [t]), (0, []), false, 0) := by simp [feedS, hO]
              repeat' (first
    | ((with_reducible apply opsF.op rfl); (case hs => exact tHS))
    | with_reducible (first | apply opsF.nil | apply seqF.nn | apply vcF.seq | apply vcF.region | apply vcF.dregion | apply vcF.skip | apply vcF.block | apply vcF.exit | apply vcF.ret | apply vcF.loop | apply seqF.e | apply seqF.r | apply blkF.nn | apply blkF.e | apply blkF.r | apply blkF.o rfl | apply dopsF.nil | apply stabsF.nil | apply stabsF.cons)
    | ((with_reducible apply opsF.call); (case hx => exact tAG))
    | ((with_reducible apply opsF.want); (case hg => exact tEV); (case hb => exact tNB))
    | ((with_reducible apply opsF.skip); (case hg => exact tEV); (case hb => exact tNB))
    | (first | ((with_reducible apply opsF.case); (case hg => exact tEV)) | ((with_reducible apply vcF.cond); (case hx => exact tEV)) | ((with_reducible apply dopsF.case); (case hg => exact tEV))) <;> ((intro hc; try simp only [Int.reduceLT, Int.reduceLE, Int.reduceEq, Int.reduceNe, Int.cast_ofNat_Int, Int.reduceNeg, decide_true, decide_false, not_true_eq_false, not_false_eq_true, decide_eq_true_eq, decide_eq_false_iff_not, Bool.not_eq_true', Bool.not_eq_false', Bool.not_true, Bool.not_false, Bool.false_eq_true, Bool.true_eq_false, Bool.not_eq_true, Bool.not_eq_false, beq_iff_eq, beq_eq_false_iff_ne, bne_iff_ne, bne_eq_false_iff_eq, ne_eq, Int.not_lt, Int.not_le, ge_iff_le, gt_iff_lt, Decidable.not_not, reduceCtorEq, *] at hc) <;> (try (exfalso; omega)))
    | ((with_reducible apply opsF.und); (case hg => rfl))
    | ((with_reducible apply opsF.callv); (case hf => exact tEV); (case hx => exact tCV))
    | ((with_reducible apply dopsF.op rfl); (case hs => exact tHS))
    | ((with_reducible apply dopsF.call); (case hx => exact tAG))
    | ((with_reducible apply dopsF.want); (case hg => exact tEV); (case hb => exact tNB))
    | ((with_reducible apply dopsF.skip); (case hg => exact tEV); (case hb => exact tNB))
    | ((with_reducible apply dopsF.und); (case hg => rfl))
    | ((with_reducible apply stabF.und); rfl)
    | ((with_reducible apply stabF.want); (case hg => exact tEV); (case hb => exact tNB))
    | ((with_reducible apply stabF.skip); (case hg => exact tEV); (case hb => exact tNB))
    | ((with_reducible apply stabF.op); (case hs => exact tHS); (case hv => exact tSV))
    | ((with_reducible apply retF.r); (case hv => exact tRS))
    | ((with_reducible apply retF.nn); (case hv => exact tRS))
    | ((refine (answers_call _).mono fun v h' hp => ?_); obtain ⟨rfl, he⟩ := hp; have hN := he.n; have hO := he.objs; (try simp only [alloc_n, set_n, newTok_n, bump_n] at hN hO))
    | ((refine (feed_call rid c ([] : List (List UInt8)) tok k s _ hr.rd (by omega) (by first | omega | (simp only [List.length_nil, List.length_cons] at *; omega))).mono fun v h1 hp => ?_); rw [hf] at hp; obtain ⟨tk1, tok1, rfl, hrd1, htn1, he⟩ := hp; have hN := he.n; have hO := he.objs; (try simp only [alloc_n, set_n, newTok_n, bump_n] at hN hO))
    | ((refine (one_call k s _ (by omega)).mono fun v h2 hp => ?_); rw [hone] at hp; obtain ⟨rfl, he⟩ := hp; have hN := he.n; have hO := he.objs; (try simp only [alloc_n, set_n, newTok_n, bump_n] at hN hO)))
              · rfl
              · have ho1 := hrd1.obj
                refine ⟨i + 1, by omega, h0, rfl, by omega, rid, nid, n, n, (([] : List (List UInt8)) ++ [t]), tok1, .own h2.nt 0, h3, h4, ⟨⟨?_, ?_, ?_⟩, ?_, ?_, hne, ?_, ?_⟩⟩
                · (first | exact tHE | ((simp (disch := omega) only [alloc_at, set_at, newTok_at, bump_at, alloc_n, set_n, newTok_n, bump_n, eq_self, if_true, reduceIte, if_pos, if_neg, *]); (try simp [srows]); done))
                · (repeat' (first | exact hrd1.tok | with_reducible (first | apply TokU.set | apply TokU.alloc | apply TokU.fresh2 | apply TokU.fresh | apply TokU.newTok) | (refine TokU.ext (by assumption) ?_)))
                · (simp only [set_n, alloc_n, newTok_n, bump_n] at *; omega)
                · (first | exact tHE | ((simp (disch := omega) only [alloc_at, set_at, newTok_at, bump_at, alloc_n, set_n, newTok_n, bump_n, eq_self, if_true, reduceIte, if_pos, if_neg, *]); (try simp [srows]); done))
                · (simp only [set_n, alloc_n, newTok_n, bump_n] at *; omega)
                · first | omega | (simp only [List.length_nil, List.length_cons, List.length_append] at *; omega)
                · intro _; rfl
            | false =>
              have hf : feedS c ([] : List (List UInt8)) k s = ((0, []), (n, ([] : List (List UInt8)) ++ [t]), true, 0) := by simp [feedS, hO]
              repeat' (first
    | ((with_reducible apply opsF.op rfl); (case hs => exact tHS))
    | with_reducible (first | apply opsF.nil | apply seqF.nn | apply vcF.seq | apply vcF.region | apply vcF.dregion | apply vcF.skip | apply vcF.block | apply vcF.exit | apply vcF.ret | apply vcF.loop | apply seqF.e | apply seqF.r | apply blkF.nn | apply blkF.e | apply blkF.r | apply blkF.o rfl | apply dopsF.nil | apply stabsF.nil | apply stabsF.cons)
    | ((with_reducible apply opsF.call); (case hx => exact tAG))
    | ((with_reducible apply opsF.want); (case hg => exact tEV); (case hb => exact tNB))
    | ((with_reducible apply opsF.skip); (case hg => exact tEV); (case hb => exact tNB))
    | (first | ((with_reducible apply opsF.case); (case hg => exact tEV)) | ((with_reducible apply vcF.cond); (case hx => exact tEV)) | ((with_reducible apply dopsF.case); (case hg => exact tEV))) <;> ((intro hc; try simp only [Int.reduceLT, Int.reduceLE, Int.reduceEq, Int.reduceNe, Int.cast_ofNat_Int, Int.reduceNeg, decide_true, decide_false, not_true_eq_false, not_false_eq_true, decide_eq_true_eq, decide_eq_false_iff_not, Bool.not_eq_true', Bool.not_eq_false', Bool.not_true, Bool.not_false, Bool.false_eq_true, Bool.true_eq_false, Bool.not_eq_true, Bool.not_eq_false, beq_iff_eq, beq_eq_false_iff_ne, bne_iff_ne, bne_eq_false_iff_eq, ne_eq, Int.not_lt, Int.not_le, ge_iff_le, gt_iff_lt, Decidable.not_not, reduceCtorEq, *] at hc) <;> (try (exfalso; omega)))
    | ((with_reducible apply opsF.und); (case hg => rfl))
    | ((with_reducible apply opsF.callv); (case hf => exact tEV); (case hx => exact tCV))
    | ((with_reducible apply dopsF.op rfl); (case hs => exact tHS))
    | ((with_reducible apply dopsF.call); (case hx => exact tAG))
    | ((with_reducible apply dopsF.want); (case hg => exact tEV); (case hb => exact tNB))
    | ((with_reducible apply dopsF.skip); (case hg => exact tEV); (case hb => exact tNB))
    | ((with_reducible apply dopsF.und); (case hg => rfl))
    | ((with_reducible apply stabF.und); rfl)
    | ((with_reducible apply stabF.want); (case hg => exact tEV); (case hb => exact tNB))
    | ((with_reducible apply stabF.skip); (case hg => exact tEV); (case hb => exact tNB))
    | ((with_reducible apply stabF.op); (case hs => exact tHS); (case hv => exact tSV))
    | ((with_reducible apply retF.r); (case hv => exact tRS))
    | ((with_reducible apply retF.nn); (case hv => exact tRS))
    | ((refine (answers_call _).mono fun v h' hp => ?_); obtain ⟨rfl, he⟩ := hp; have hN := he.n; have hO := he.objs; (try simp only [alloc_n, set_n, newTok_n, bump_n] at hN hO))
    | ((refine (feed_call rid c ([] : List (List UInt8)) tok k s _ hr.rd (by omega) (by first | omega | (simp only [List.length_nil, List.length_cons] at *; omega))).mono fun v h1 hp => ?_); rw [hf] at hp; obtain ⟨tk1, tok1, rfl, hrd1, htn1, he⟩ := hp; have hN := he.n; have hO := he.objs; (try simp only [alloc_n, set_n, newTok_n, bump_n] at hN hO))
    | ((refine (one_call k s _ (by omega)).mono fun v h2 hp => ?_); rw [hone] at hp; obtain ⟨rfl, he⟩ := hp; have hN := he.n; have hO := he.objs; (try simp only [alloc_n, set_n, newTok_n, bump_n] at hN hO))
    | ((refine (texts_call' (([] : List (List UInt8)) ++ [t]) (([] : List (List UInt8)) ++ [t]) (by simp [srows]) (by simp [srows]) _ (by simp only [List.length_nil, List.length_cons, List.length_append] at *; omega)).mono fun v h3 hp => ?_); obtain ⟨rfl, rfl⟩ := hp))
              · rfl
              · have ho1 := hrd1.obj
                refine ⟨i + 1, by omega, h0, rfl, by omega, rid, nid, 0, 0, [], tok1, .full, h3, h4, ⟨⟨?_, ?_, ?_⟩, ?_, ?_, hne, ?_, ?_⟩⟩
                · (first | exact tHE | ((simp (disch := omega) only [alloc_at, set_at, newTok_at, bump_at, alloc_n, set_n, newTok_n, bump_n, eq_self, if_true, reduceIte, if_pos, if_neg, *]); (try simp [srows]); done))
                · (repeat' (first | exact hrd1.tok | with_reducible (first | apply TokU.set | apply TokU.alloc | apply TokU.fresh2 | apply TokU.fresh | apply TokU.newTok) | (refine TokU.ext (by assumption) ?_)))
                · (simp only [set_n, alloc_n, newTok_n, bump_n] at *; omega)
                · (first | exact tHE | ((simp (disch := omega) only [alloc_at, set_at, newTok_at, bump_at, alloc_n, set_n, newTok_n, bump_n, eq_self, if_true, reduceIte, if_pos, if_neg, *]); (try simp [srows]); done))
                · (simp only [set_n, alloc_n, newTok_n, bump_n] at *; omega)
                · first | omega | (simp only [List.length_nil, List.length_cons, List.length_append] at *; omega)
                · intro _; rfl
          · have hcn : cn = c := hr.same (by simp)
            subst hcn
            simp only [List.length_cons] at hll
            by_cases hn : cn = n
            · subst hn
              cases m with
              | true =>
                have hf : feedS cn (a :: l) k s = ((cn, (a :: l) ++ [t]), (0, []), false, 0) := by simp [feedS, hO]
                repeat' (first
    | ((with_reducible apply opsF.op rfl); (case hs => exact tHS))
    | with_reducible (first | apply opsF.nil | apply seqF.nn | apply vcF.seq | apply vcF.region | apply vcF.dregion | apply vcF.skip | apply vcF.block | apply vcF.exit | apply vcF.ret | apply vcF.loop | apply seqF.e | apply seqF.r | apply blkF.nn | apply blkF.e | apply blkF.r | apply blkF.o rfl | apply dopsF.nil | apply stabsF.nil | apply stabsF.cons)
    | ((with_reducible apply opsF.call); (case hx => exact tAG))
    | ((with_reducible apply opsF.want); (case hg => exact tEV); (case hb => exact tNB))
    | ((with_reducible apply opsF.skip); (case hg => exact tEV); (case hb => exact tNB))
    | (first | ((with_reducible apply opsF.case); (case hg => exact tEV)) | ((with_reducible apply vcF.cond); (case hx => exact tEV)) | ((with_reducible apply dopsF.case); (case hg => exact tEV))) <;> ((intro hc; try simp only [Int.reduceLT, Int.reduceLE, Int.reduceEq, Int.reduceNe, Int.cast_ofNat_Int, Int.reduceNeg, decide_true, decide_false, not_true_eq_false, not_false_eq_true, decide_eq_true_eq, decide_eq_false_iff_not, Bool.not_eq_true', Bool.not_eq_false', Bool.not_true, Bool.not_false, Bool.false_eq_true, Bool.true_eq_false, Bool.not_eq_true, Bool.not_eq_false, beq_iff_eq, beq_eq_false_iff_ne, bne_iff_ne, bne_eq_false_iff_eq, ne_eq, Int.not_lt, Int.not_le, ge_iff_le, gt_iff_lt, Decidable.not_not, reduceCtorEq, *] at hc) <;> (try (exfalso; omega)))
    | ((with_reducible apply opsF.und); (case hg => rfl))
    | ((with_reducible apply opsF.callv); (case hf => exact tEV); (case hx => exact tCV))
    | ((with_reducible apply dopsF.op rfl); (case hs => exact tHS))
    | ((with_reducible apply dopsF.call); (case hx => exact tAG))
    | ((with_reducible apply dopsF.want); (case hg => exact tEV); (case hb => exact tNB))
    | ((with_reducible apply dopsF.skip); (case hg => exact tEV); (case hb => exact tNB))
    | ((with_reducible apply dopsF.und); (case hg => rfl))
    | ((with_reducible apply stabF.und); rfl)
    | ((with_reducible apply stabF.want); (case hg => exact tEV); (case hb => exact tNB))
    | ((with_reducible apply stabF.skip); (case hg => exact tEV); (case hb => exact tNB))
    | ((with_reducible apply stabF.op); (case hs => exact tHS); (case hv => exact tSV))
    | ((with_reducible apply retF.r); (case hv => exact tRS))
    | ((with_reducible apply retF.nn); (case hv => exact tRS))
    | ((refine (answers_call _).mono fun v h' hp => ?_); obtain ⟨rfl, he⟩ := hp; have hN := he.n; have hO := he.objs; (try simp only [alloc_n, set_n, newTok_n, bump_n] at hN hO))
    | ((refine (feed_call rid cn (a :: l) tok k s _ hr.rd (by omega) (by first | omega | (simp only [List.length_nil, List.length_cons] at *; omega))).mono fun v h1 hp => ?_); rw [hf] at hp; obtain ⟨tk1, tok1, rfl, hrd1, htn1, he⟩ := hp; have hN := he.n; have hO := he.objs; (try simp only [alloc_n, set_n, newTok_n, bump_n] at hN hO))
    | ((refine (one_call k s _ (by omega)).mono fun v h2 hp => ?_); rw [hone] at hp; obtain ⟨rfl, he⟩ := hp; have hN := he.n; have hO := he.objs; (try simp only [alloc_n, set_n, newTok_n, bump_n] at hN hO)))
                · rfl
                · have ho1 := hrd1.obj
                  refine ⟨i + 1, by omega, h0, rfl, by omega, rid, nid, cn, cn, ((a :: l) ++ [t]), tok1, .own h2.nt (0 + 1), h3, h4, ⟨⟨?_, ?_, ?_⟩, ?_, ?_, hne, ?_, ?_⟩⟩
                  · (first | exact tHE | ((simp (disch := omega) only [alloc_at, set_at, newTok_at, bump_at, alloc_n, set_n, newTok_n, bump_n, eq_self, if_true, reduceIte, if_pos, if_neg, *]); (try simp [srows]); done))
                  · (repeat' (first | exact hrd1.tok | with_reducible (first | apply TokU.set | apply TokU.alloc | apply TokU.fresh2 | apply TokU.fresh | apply TokU.newTok) | (refine TokU.ext (by assumption) ?_)))
                  · (simp only [set_n, alloc_n, newTok_n, bump_n] at *; omega)
                  · (first | exact tHE | ((simp (disch := omega) only [alloc_at, set_at, newTok_at, bump_at, alloc_n, set_n, newTok_n, bump_n, eq_self, if_true, reduceIte, if_pos, if_neg, *]); (try simp [srows]); done))
                  · (simp only [set_n, alloc_n, newTok_n, bump_n] at *; omega)
                  · first | omega | (simp only [List.length_nil, List.length_cons, List.length_append] at *; omega)
                  · intro _; rfl
              | false =>
                have hf : feedS cn (a :: l) k s = ((0, []), (cn, (a :: l) ++ [t]), true, 0) := by simp [feedS, hO]
                repeat' (first
    | ((with_reducible apply opsF.op rfl); (case hs => exact tHS))
    | with_reducible (first | apply opsF.nil | apply seqF.nn | apply vcF.seq | apply vcF.region | apply vcF.dregion | apply vcF.skip | apply vcF.block | apply vcF.exit | apply vcF.ret | apply vcF.loop | apply seqF.e | apply seqF.r | apply blkF.nn | apply blkF.e | apply blkF.r | apply blkF.o rfl | apply dopsF.nil | apply stabsF.nil | apply stabsF.cons)
    | ((with_reducible apply opsF.call); (case hx => exact tAG))
    | ((with_reducible apply opsF.want); (case hg => exact tEV); (case hb => exact tNB))
    | ((with_reducible apply opsF.skip); (case hg => exact tEV); (case hb => exact tNB))
    | (first | ((with_reducible apply opsF.case); (case hg => exact tEV)) | ((with_reducible apply vcF.cond); (case hx => exact tEV)) | ((with_reducible apply dopsF.case); (case hg => exact tEV))) <;> ((intro hc; try simp only [Int.reduceLT, Int.reduceLE, Int.reduceEq, Int.reduceNe, Int.cast_ofNat_Int, Int.reduceNeg, decide_true, decide_false, not_true_eq_false, not_false_eq_true, decide_eq_true_eq, decide_eq_false_iff_not, Bool.not_eq_true', Bool.not_eq_false', Bool.not_true, Bool.not_false, Bool.false_eq_true, Bool.true_eq_false, Bool.not_eq_true, Bool.not_eq_false, beq_iff_eq, beq_eq_false_iff_ne, bne_iff_ne, bne_eq_false_iff_eq, ne_eq, Int.not_lt, Int.not_le, ge_iff_le, gt_iff_lt, Decidable.not_not, reduceCtorEq, *] at hc) <;> (try (exfalso; omega)))
    | ((with_reducible apply opsF.und); (case hg => rfl))
    | ((with_reducible apply opsF.callv); (case hf => exact tEV); (case hx => exact tCV))
    | ((with_reducible apply dopsF.op rfl); (case hs => exact tHS))
    | ((with_reducible apply dopsF.call); (case hx => exact tAG))
    | ((with_reducible apply dopsF.want); (case hg => exact tEV); (case hb => exact tNB))
    | ((with_reducible apply dopsF.skip); (case hg => exact tEV); (case hb => exact tNB))
    | ((with_reducible apply dopsF.und); (case hg => rfl))
    | ((with_reducible apply stabF.und); rfl)
    | ((with_reducible apply stabF.want); (case hg => exact tEV); (case hb => exact tNB))
    | ((with_reducible apply stabF.skip); (case hg => exact tEV); (case hb => exact tNB))
    | ((with_reducible apply stabF.op); (case hs => exact tHS); (case hv => exact tSV))
    | ((with_reducible apply retF.r); (case hv => exact tRS))
    | ((with_reducible apply retF.nn); (case hv => exact tRS))
    | ((refine (answers_call _).mono fun v h' hp => ?_); obtain ⟨rfl, he⟩ := hp; have hN := he.n; have hO := he.objs; (try simp only [alloc_n, set_n, newTok_n, bump_n] at hN hO))
    | ((refine (feed_call rid cn (a :: l) tok k s _ hr.rd (by omega) (by first | omega | (simp only [List.length_nil, List.length_cons] at *; omega))).mono fun v h1 hp => ?_); rw [hf] at hp; obtain ⟨tk1, tok1, rfl, hrd1, htn1, he⟩ := hp; have hN := he.n; have hO := he.objs; (try simp only [alloc_n, set_n, newTok_n, bump_n] at hN hO))
    | ((refine (one_call k s _ (by omega)).mono fun v h2 hp => ?_); rw [hone] at hp; obtain ⟨rfl, he⟩ := hp; have hN := he.n; have hO := he.objs; (try simp only [alloc_n, set_n, newTok_n, bump_n] at hN hO))
    | ((refine (texts_call' ((a :: l) ++ [t]) ((a :: l) ++ [t]) (by simp [srows]) (by simp [srows]) _ (by simp only [List.length_nil, List.length_cons, List.length_append] at *; omega)).mono fun v h3 hp => ?_); obtain ⟨rfl, rfl⟩ := hp))
                · rfl
                · have ho1 := hrd1.obj
                  refine ⟨i + 1, by omega, h0, rfl, by omega, rid, nid, 0, 0, [], tok1, .full, h3, h4, ⟨⟨?_, ?_, ?_⟩, ?_, ?_, hne, ?_, ?_⟩⟩
                  · (first | exact tHE | ((simp (disch := omega) only [alloc_at, set_at, newTok_at, bump_at, alloc_n, set_n, newTok_n, bump_n, eq_self, if_true, reduceIte, if_pos, if_neg, *]); (try simp [srows]); done))
                  · (repeat' (first | exact hrd1.tok | with_reducible (first | apply TokU.set | apply TokU.alloc | apply TokU.fresh2 | apply TokU.fresh | apply TokU.newTok) | (refine TokU.ext (by assumption) ?_)))
                  · (simp only [set_n, alloc_n, newTok_n, bump_n] at *; omega)
                  · (first | exact tHE | ((simp (disch := omega) only [alloc_at, set_at, newTok_at, bump_at, alloc_n, set_n, newTok_n, bump_n, eq_self, if_true, reduceIte, if_pos, if_neg, *]); (try simp [srows]); done))
                  · (simp only [set_n, alloc_n, newTok_n, bump_n] at *; omega)
                  · first | omega | (simp only [List.length_nil, List.length_cons, List.length_append] at *; omega)
                  · intro _; rfl
            · 
              have hf : feedS cn (a :: l) k s = ((0, []), (0, []), false, 2) := by simp [feedS, hO, hn]
              repeat' (first
    | ((with_reducible apply opsF.op rfl); (case hs => exact tHS))
    | with_reducible (first | apply opsF.nil | apply seqF.nn | apply vcF.seq | apply vcF.region | apply vcF.dregion | apply vcF.skip | apply vcF.block | apply vcF.exit | apply vcF.ret | apply vcF.loop | apply seqF.e | apply seqF.r | apply blkF.nn | apply blkF.e | apply blkF.r | apply blkF.o rfl | apply dopsF.nil | apply stabsF.nil | apply stabsF.cons)
    | ((with_reducible apply opsF.call); (case hx => exact tAG))
    | ((with_reducible apply opsF.want); (case hg => exact tEV); (case hb => exact tNB))
    | ((with_reducible apply opsF.skip); (case hg => exact tEV); (case hb => exact tNB))
    | (first | ((with_reducible apply opsF.case); (case hg => exact tEV)) | ((with_reducible apply vcF.cond); (case hx => exact tEV)) | ((with_reducible apply dopsF.case); (case hg => exact tEV))) <;> ((intro hc; try simp only [Int.reduceLT, Int.reduceLE, Int.reduceEq, Int.reduceNe, Int.cast_ofNat_Int, Int.reduceNeg, decide_true, decide_false, not_true_eq_false, not_false_eq_true, decide_eq_true_eq, decide_eq_false_iff_not, Bool.not_eq_true', Bool.not_eq_false', Bool.not_true, Bool.not_false, Bool.false_eq_true, Bool.true_eq_false, Bool.not_eq_true, Bool.not_eq_false, beq_iff_eq, beq_eq_false_iff_ne, bne_iff_ne, bne_eq_false_iff_eq, ne_eq, Int.not_lt, Int.not_le, ge_iff_le, gt_iff_lt, Decidable.not_not, reduceCtorEq, *] at hc) <;> (try (exfalso; omega)))
    | ((with_reducible apply opsF.und); (case hg => rfl))
    | ((with_reducible apply opsF.callv); (case hf => exact tEV); (case hx => exact tCV))
    | ((with_reducible apply dopsF.op rfl); (case hs => exact tHS))
    | ((with_reducible apply dopsF.call); (case hx => exact tAG))
    | ((with_reducible apply dopsF.want); (case hg => exact tEV); (case hb => exact tNB))
    | ((with_reducible apply dopsF.skip); (case hg => exact tEV); (case hb => exact tNB))
    | ((with_reducible apply dopsF.und); (case hg => rfl))
    | ((with_reducible apply stabF.und); rfl)
    | ((with_reducible apply stabF.want); (case hg => exact tEV); (case hb => exact tNB))
    | ((with_reducible apply stabF.skip); (case hg => exact tEV); (case hb => exact tNB))
    | ((with_reducible apply stabF.op); (case hs => exact tHS); (case hv => exact tSV))
    | ((with_reducible apply retF.r); (case hv => exact tRS))
    | ((with_reducible apply retF.nn); (case hv => exact tRS))
    | ((refine (answers_call _).mono fun v h' hp => ?_); obtain ⟨rfl, he⟩ := hp; have hN := he.n; have hO := he.objs; (try simp only [alloc_n, set_n, newTok_n, bump_n] at hN hO))
    | ((refine (feed_call rid cn (a :: l) tok k s _ hr.rd (by omega) (by first | omega | (simp only [List.length_nil, List.length_cons] at *; omega))).mono fun v h1 hp => ?_); rw [hf] at hp; obtain ⟨tk1, tok1, rfl, hrd1, htn1, he⟩ := hp; have hN := he.n; have hO := he.objs; (try simp only [alloc_n, set_n, newTok_n, bump_n] at hN hO))
    | ((refine (one_call k s _ (by omega)).mono fun v h2 hp => ?_); rw [hone] at hp; obtain ⟨rfl, he⟩ := hp; have hN := he.n; have hO := he.objs; (try simp only [alloc_n, set_n, newTok_n, bump_n] at hN hO)))
              · rfl
              · have ho1 := hrd1.obj
                refine ⟨i + 1, by omega, h0, rfl, by omega, rid, nid, 0, 0, [], tok1, .full, h3, h4, ⟨⟨?_, ?_, ?_⟩, ?_, ?_, hne, ?_, ?_⟩⟩
                · (first | exact tHE | ((simp (disch := omega) only [alloc_at, set_at, newTok_at, bump_at, alloc_n, set_n, newTok_n, bump_n, eq_self, if_true, reduceIte, if_pos, if_neg, *]); (try simp [srows]); done))
                · (repeat' (first | exact hrd1.tok | with_reducible (first | apply TokU.set | apply TokU.alloc | apply TokU.fresh2 | apply TokU.fresh | apply TokU.newTok) | (refine TokU.ext (by assumption) ?_)))
                · (simp only [set_n, alloc_n, newTok_n, bump_n] at *; omega)
                · (first | exact tHE | ((simp (disch := omega) only [alloc_at, set_at, newTok_at, bump_at, alloc_n, set_n, newTok_n, bump_n, eq_self, if_true, reduceIte, if_pos, if_neg, *]); (try simp [srows]); done))
                · (simp only [set_n, alloc_n, newTok_n, bump_n] at *; omega)
                · first | omega | (simp only [List.length_nil, List.length_cons, List.length_append] at *; omega)
                · intro _; rfl
      · repeat' (first
    | ((with_reducible apply opsF.op rfl); (case hs => exact tHS))
    | with_reducible (first | apply opsF.nil | apply seqF.nn | apply vcF.seq | apply vcF.region | apply vcF.dregion | apply vcF.skip | apply vcF.block | apply vcF.exit | apply vcF.ret | apply vcF.loop | apply seqF.e | apply seqF.r | apply blkF.nn | apply blkF.e | apply blkF.r | apply blkF.o rfl | apply dopsF.nil | apply stabsF.nil | apply stabsF.cons)
    | ((with_reducible apply opsF.call); (case hx => exact tAG))
    | ((with_reducible apply opsF.want); (case hg => exact tEV); (case hb => exact tNB))
    | ((with_reducible apply opsF.skip); (case hg => exact tEV); (case hb => exact tNB))
    | (first | ((with_reducible apply opsF.case); (case hg => exact tEV)) | ((with_reducible apply vcF.cond); (case hx => exact tEV)) | ((with_reducible apply dopsF.case); (case hg => exact tEV))) <;> ((intro hc; try simp only [Int.reduceLT, Int.reduceLE, Int.reduceEq, Int.reduceNe, Int.cast_ofNat_Int, Int.reduceNeg, decide_true, decide_false, not_true_eq_false, not_false_eq_true, decide_eq_true_eq, decide_eq_false_iff_not, Bool.not_eq_true', Bool.not_eq_false', Bool.not_true, Bool.not_false, Bool.false_eq_true, Bool.true_eq_false, Bool.not_eq_true, Bool.not_eq_false, beq_iff_eq, beq_eq_false_iff_ne, bne_iff_ne, bne_eq_false_iff_eq, ne_eq, Int.not_lt, Int.not_le, ge_iff_le, gt_iff_lt, Decidable.not_not, reduceCtorEq, *] at hc) <;> (try (exfalso; omega)))
    | ((with_reducible apply opsF.und); (case hg => rfl))
    | ((with_reducible apply opsF.callv); (case hf => exact tEV); (case hx => exact tCV))
    | ((with_reducible apply dopsF.op rfl); (case hs => exact tHS))
    | ((with_reducible apply dopsF.call); (case hx => exact tAG))
    | ((with_reducible apply dopsF.want); (case hg => exact tEV); (case hb => exact tNB))
    | ((with_reducible apply dopsF.skip); (case hg => exact tEV); (case hb => exact tNB))
    | ((with_reducible apply dopsF.und); (case hg => rfl))
    | ((with_reducible apply stabF.und); rfl)
    | ((with_reducible apply stabF.want); (case hg => exact tEV); (case hb => exact tNB))
    | ((with_reducible apply stabF.skip); (case hg => exact tEV); (case hb => exact tNB))
    | ((with_reducible apply stabF.op); (case hs => exact tHS); (case hv => exact tSV))
    | ((with_reducible apply retF.r); (case hv => exact tRS))
    | ((with_reducible apply retF.nn); (case hv => exact tRS))
    | ((refine (answers_call _).mono fun v h' hp => ?_); obtain ⟨rfl, he⟩ := hp; have hN := he.n; have hO := he.objs; (try simp only [alloc_n, set_n, newTok_n, bump_n] at hN hO)))
        all_goals rfl
    · refine ⟨rfl, rfl, Nat.zero_le _, _, _, 0, 0, [], .full, .full, rfl, rfl, ⟨⟨?_, trivial, ?_⟩, ?_, ?_, ?_, Nat.le_refl _, fun h => absurd rfl h⟩⟩
      · exact tHE
      · simp only [alloc_n]; omega
      · exact tHE
      · simp only [alloc_n]; omega
      · simp only [alloc_n]; omega
end Go.Abs.F
