/- Layer 3: what a program that does nothing does not answer; any text. -/
import Derived.Test.YtbakofbljfhoiaaDoorVrbC
import Derived.Test.YtbakofbljfhoiaaDoorAbsW
namespace Go.Abs.F
open Go Go.Abs
set_option maxRecDepth 10000
set_option maxHeartbeats 20000000
set_option linter.unusedSimpArgs false
set_option linter.unusedVariables false
variable {w0 : World}
theorem ans_v1 : verbS [109, 97, 105, 108, 32, 102, 114, 111, 109, 58, 60, 97, 64, 98, 62, 32, 115, 105, 122, 101, 61, 53] = (0, ([77, 65, 73, 76], [97, 64, 98], 5, false)) := by kernel_rfl
theorem ans_v2 : verbS [102, 114, 111, 98] = (500, zeroV) := by kernel_rfl
theorem errVars_of {l : List (String × DataW Unit)} {W : World} (hL : laidMetH P l W) (h1 : l.filter (fun x => x.1 == "strconv.ErrSyntax") = [("strconv.ErrSyntax", Go.Proofs.YtbakofbljfhoiaaDoor.Rows.laid_strconv_ErrSyntax)]) (h2 : l.filter (fun x => x.1 == "strconv.ErrRange") = [("strconv.ErrRange", Go.Proofs.YtbakofbljfhoiaaDoor.Rows.laid_strconv_ErrRange)]) : ErrVars W :=
  ⟨errSyntax_of hL h1 rfl, errRange_of hL h2 rfl⟩
theorem answers3_call (hE : ErrVars w0) (h : AH) : Call P w0 law03_answers [] h (fun v h' => v = .v (.bool true) ∧ Ext h h') := by
  have hp1 := fun h => Parse_call (w0 := w0) hE [109, 97, 105, 108, 32, 102, 114, 111, 109, 58, 60, 97, 64, 98, 62, 32, 115, 105, 122, 101, 61, 53] h (by decide)
  have hp2 := fun h => Parse_call (w0 := w0) hE [102, 114, 111, 98] h (by decide)
  rw [ans_v1] at hp1
  rw [ans_v2] at hp2
  simp only [codeV, verbA, zeroV] at hp1 hp2
  refine Call.bodyF b_law03_answers rfl rfl ?_
  unfold c_law03_answers
  repeat' (first
    | ((with_reducible apply opsF.op rfl); (case hs => (first | exact tHT | exact tHS)))
    | with_reducible (first | apply opsF.nil | apply seqF.nn | apply vcF.seq | apply vcF.region | apply vcF.skip | apply vcF.ret | apply seqF.r)
    | ((with_reducible apply opsF.call); (case hx => exact tAG))
    | ((with_reducible apply opsF.want); (case hg => exact tEV); (case hb => exact tNB))
    | ((with_reducible apply opsF.skip); (case hg => exact tEV); (case hb => exact tNB))
    | (first | ((with_reducible apply opsF.case); (case hg => exact tEV)) | ((with_reducible apply vcF.cond); (case hx => exact tEV))) <;> ((intro hc; try simp only [Int.reduceLT, Int.reduceLE, Int.reduceEq, Int.reduceNe, Int.cast_ofNat_Int, Int.reduceNeg, decide_true, decide_false, not_true_eq_false, not_false_eq_true, decide_eq_true_eq, decide_eq_false_iff_not, Bool.not_eq_true', Bool.not_eq_false', Bool.not_true, Bool.not_false, Bool.false_eq_true, Bool.true_eq_false, Bool.not_eq_true, Bool.not_eq_false, beq_iff_eq, beq_eq_false_iff_ne, bne_iff_ne, bne_eq_false_iff_eq, ne_eq, Int.not_lt, Int.not_le, ge_iff_le, gt_iff_lt, Decidable.not_not, reduceCtorEq, *] at hc) <;> (try (exfalso; omega)))
    | ((with_reducible apply opsF.und); (case hg => rfl))
    | ((with_reducible apply retF.r); (case hv => exact tRS))
    | ((with_reducible apply retF.nn); (case hv => exact tRS))
    | ((refine (hp1 _).mono fun v h2 hp => ?_); obtain ⟨rfl, he⟩ := hp; have hN := he.n; have hO := he.objs; (try simp only [alloc_n, set_n, newTok_n, bump_n] at hN hO))
    | ((refine (hp2 _).mono fun v h3 hp => ?_); obtain ⟨rfl, he2⟩ := hp; have hN := he2.n; have hO := he2.objs; (try simp only [alloc_n, set_n, newTok_n, bump_n] at hN hO)))
  all_goals refine ⟨rfl, ?_⟩
  all_goals repeat' first
    | exact he
    | refine Ext.trans ?_ he2
    | refine Ext.set ?_ (by first | exact Nat.le_refl _ | omega | (simp only [alloc_n, set_n] at *; omega)) _
    | refine Ext.trans ?_ (Ext.alloc _ _)
theorem parses_main (W : World) (hE : ErrVars W) (s : List UInt8) (hl : s.length ≤ 140737488351232) : Call P W law03_VerbParses [.v (.string (bs s))] AH.start fun v _ => v = .v (.bool true) := by
  have hans := fun h => answers3_call (w0 := W) hE h
  refine Call.bodyF b_law03_VerbParses rfl rfl ?_
  unfold c_law03_VerbParses
  rcases Nat.lt_or_ge 2000 s.length with hbig | hsm
  · repeat' (first
    | ((with_reducible apply opsF.op rfl); (case hs => (first | exact tHT | exact tHS)))
    | with_reducible (first | apply opsF.nil | apply seqF.nn | apply vcF.seq | apply vcF.region | apply vcF.skip | apply vcF.ret | apply seqF.r)
    | ((with_reducible apply opsF.call); (case hx => exact tAG))
    | ((with_reducible apply opsF.want); (case hg => exact tEV); (case hb => exact tNB))
    | ((with_reducible apply opsF.skip); (case hg => exact tEV); (case hb => exact tNB))
    | (first | ((with_reducible apply opsF.case); (case hg => exact tEV)) | ((with_reducible apply vcF.cond); (case hx => exact tEV))) <;> ((intro hc; try simp only [Int.reduceLT, Int.reduceLE, Int.reduceEq, Int.reduceNe, Int.cast_ofNat_Int, Int.reduceNeg, decide_true, decide_false, not_true_eq_false, not_false_eq_true, decide_eq_true_eq, decide_eq_false_iff_not, Bool.not_eq_true', Bool.not_eq_false', Bool.not_true, Bool.not_false, Bool.false_eq_true, Bool.true_eq_false, Bool.not_eq_true, Bool.not_eq_false, beq_iff_eq, beq_eq_false_iff_ne, bne_iff_ne, bne_eq_false_iff_eq, ne_eq, Int.not_lt, Int.not_le, ge_iff_le, gt_iff_lt, Decidable.not_not, reduceCtorEq, *] at hc) <;> (try (exfalso; omega)))
    | ((with_reducible apply opsF.und); (case hg => rfl))
    | ((with_reducible apply retF.r); (case hv => exact tRS))
    | ((with_reducible apply retF.nn); (case hv => exact tRS))
    | ((refine (hans _).mono fun v h1 hp => ?_); obtain ⟨rfl, he⟩ := hp; have hN := he.n; have hO := he.objs; (try simp only [alloc_n, set_n, newTok_n, bump_n] at hN hO)))
    all_goals rfl
  · have hpa := fun h => Parse_call (w0 := W) hE s h (by omega)
    have hrv := fun h => rverb_call (w0 := W) s h (by omega)
    simp only [codeV, verbA] at hpa hrv
    generalize verbS s = q at *
    obtain ⟨c, a, b, sz, wd⟩ := q
    simp only [] at hpa hrv
    have hce : cellsEq [.str, .str, .int, .bool] [AV.v (.string (bs a)), AV.v (.string (bs b)), AV.v (.int .i64 sz), AV.v (.bool wd)] [AV.v (.string (bs a)), AV.v (.string (bs b)), AV.v (.int .i64 sz), AV.v (.bool wd)] = some true := by
      simp [cellsEq, cellEq]
    repeat' (first
    | ((with_reducible apply opsF.op rfl); (case hs => (first | exact tHT | exact tHS)))
    | with_reducible (first | apply opsF.nil | apply seqF.nn | apply vcF.seq | apply vcF.region | apply vcF.skip | apply vcF.ret | apply seqF.r)
    | ((with_reducible apply opsF.call); (case hx => exact tAG))
    | ((with_reducible apply opsF.want); (case hg => exact tEV); (case hb => exact tNB))
    | ((with_reducible apply opsF.skip); (case hg => exact tEV); (case hb => exact tNB))
    | (first | ((with_reducible apply opsF.case); (case hg => exact tEV)) | ((with_reducible apply vcF.cond); (case hx => exact tEV))) <;> ((intro hc; try simp only [Int.reduceLT, Int.reduceLE, Int.reduceEq, Int.reduceNe, Int.cast_ofNat_Int, Int.reduceNeg, decide_true, decide_false, not_true_eq_false, not_false_eq_true, decide_eq_true_eq, decide_eq_false_iff_not, Bool.not_eq_true', Bool.not_eq_false', Bool.not_true, Bool.not_false, Bool.false_eq_true, Bool.true_eq_false, Bool.not_eq_true, Bool.not_eq_false, beq_iff_eq, beq_eq_false_iff_ne, bne_iff_ne, bne_eq_false_iff_eq, ne_eq, Int.not_lt, Int.not_le, ge_iff_le, gt_iff_lt, Decidable.not_not, reduceCtorEq, *] at hc) <;> (try (exfalso; omega)))
    | ((with_reducible apply opsF.und); (case hg => rfl))
    | ((with_reducible apply retF.r); (case hv => exact tRS))
    | ((with_reducible apply retF.nn); (case hv => exact tRS))
    | ((refine (hans _).mono fun v h1 hp => ?_); obtain ⟨rfl, he⟩ := hp; have hN := he.n; have hO := he.objs; (try simp only [alloc_n, set_n, newTok_n, bump_n] at hN hO))
    | ((refine (hpa _).mono fun v h2 hp => ?_); obtain ⟨rfl, he2⟩ := hp; have hN := he2.n; have hO := he2.objs; (try simp only [alloc_n, set_n, newTok_n, bump_n] at hN hO))
    | ((refine (hrv _).mono fun v h3 hp => ?_); obtain ⟨rfl, he3⟩ := hp; have hN := he3.n; have hO := he3.objs; (try simp only [alloc_n, set_n, newTok_n, bump_n] at hN hO)))
    all_goals simp
theorem law_VerbParses (W : World) (hL : laidMetH P Go.Proofs.YtbakofbljfhoiaaDoor.Rows.verbParsesRow.laid W) (x0 : Ty.str.D) (h0 : Ty.str.wf x0) (g0 : Ty.str.fit 140737488351232 x0) :
    Call P W law03_VerbParses [Ty.str.val x0] AH.start fun v _ => v = .v (.bool true) :=
  parses_main W (errVars_of hL (by kernel_rfl) (by kernel_rfl)) x0 g0
end Go.Abs.F
