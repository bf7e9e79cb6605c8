/- Layer 14: many entries. -/
import Derived.Test.YtbakofbljfhoiaaDoorTabK
namespace Go.Abs.F
open Go Go.Abs
set_option maxRecDepth 10000
set_option maxHeartbeats 20000000
set_option linter.unusedSimpArgs false
set_option linter.unusedVariables false
variable {w0 : World}
def rep : Nat → List UInt8 → List UInt8
  | 0, _ => []
  | n + 1, l => rep n l ++ l
theorem rep_front (l : List UInt8) : ∀ n, rep (n + 1) l = l ++ rep n l
  | 0 => by simp [rep]
  | n + 1 => by rw [rep, rep_front l n, List.append_assoc]; rw [← rep_front l n, rep]
theorem rep_len (l : List UInt8) : ∀ n, (rep n l).length = n * l.length
  | 0 => by simp [rep]
  | n + 1 => by rw [rep, List.length_append, rep_len l n, Nat.succ_mul]
abbrev blB : List UInt8 := [35, 10, 10]
abbrev banB : List UInt8 := [98, 97, 110, 32, 116, 111, 32, 120, 10]
theorem many_bl (X : List UInt8) (n : Nat) (t : TB) : ∀ (b k : Nat), tparse (linesS (rep b blB ++ X)) k n t = tparse (linesS X) (k + 2 * b) n t
  | 0, k => rfl
  | b + 1, k => by
    have e : rep (b + 1) blB ++ X = [35] ++ 10 :: ([] ++ 10 :: (rep b blB ++ X)) := by rw [rep_front]; rfl
    rw [e, linesS_hit (by decide), linesS_hit (by decide), tparse_cons, show lineO [35] t n = some (t, n) from rfl]
    simp only []
    rw [tparse_cons, show lineO [] t n = some (t, n) from rfl]
    simp only []
    rw [many_bl X n t b (k + 1 + 1), show k + 1 + 1 + 2 * b = k + 2 * (b + 1) by omega]
theorem ban_line (t : TB) (n : Nat) : lineO [98, 97, 110, 32, 116, 111, 32, 120] t n = if n + 1 ≤ 200 then some ((t.1, t.2.1, t.2.2.1 ++ [(false, [120])], t.2.2.2), n + 1) else none := by
  have q : entryO t (splB 32 [98, 97, 110, 32, 116, 111, 32, 120]) = some (t.1, t.2.1, t.2.2.1 ++ [(false, [120])], t.2.2.2) := by
    show banO t [[116, 111], [120]] = _
    have : banN [120] = some [120] := by kernel_rfl
    rw [banO, if_pos (.inr rfl), this]
    rfl
  rw [lineO, if_neg (by decide), q]
  rfl
theorem many_ok : ∀ (m k n : Nat) (t : TB), n + m ≤ 200 → tparse (linesS (rep m banB)) k n t = ((t.1, t.2.1, t.2.2.1 ++ List.replicate m (false, [120]), t.2.2.2), 0, 0)
  | 0, k, n, t, h => by rw [rep, linesS_nil, tparse]; simp
  | m + 1, k, n, t, h => by
    have e : rep (m + 1) banB = [98, 97, 110, 32, 116, 111, 32, 120] ++ 10 :: rep m banB := by rw [rep_front]; rfl
    rw [e, linesS_hit (by decide), tparse_cons, ban_line, if_pos (by omega)]
    simp only []
    rw [many_ok m (k + 1) (n + 1) _ (by omega)]
    simp [List.replicate_succ]
theorem many_no : ∀ (m k n : Nat) (t : TB), 200 < n + m → n ≤ 200 → tparse (linesS (rep m banB)) k n t = (zeroT, k + (200 - n) + 1, 7)
  | 0, k, n, t, h, hn => by omega
  | m + 1, k, n, t, h, hn => by
    have e : rep (m + 1) banB = [98, 97, 110, 32, 116, 111, 32, 120] ++ 10 :: rep m banB := by rw [rep_front]; rfl
    rw [e, linesS_hit (by decide), tparse_cons, ban_line]
    rcases Nat.lt_or_ge n 200 with h1 | h1
    · rw [if_pos (by omega)]
      simp only []
      rw [many_no m (k + 1) (n + 1) _ (by omega) (by omega), show k + 1 + (200 - (n + 1)) + 1 = k + (200 - n) + 1 by omega]
    · rw [if_neg (by omega)]
      simp only []
      rw [show 200 - n = 0 by omega]
theorem tmany_main (W : World) (hP : PowTab W) (hE : ErrVars W) (n b : Int) (hn0 : 0 ≤ n) (hn1 : n < 256) (hb0 : 0 ≤ b) (hb1 : b < 256) : Call P W law14_TableMany [.v (.int .u8 n), .v (.int .u8 b)] AH.start fun v _ => v = .v (.bool true) := by
  have hans := fun h => answers14_call (w0 := W) hP hE h
  obtain ⟨j, hj, hj1⟩ : ∃ j : Nat, n.tmod 10 = (j : Int) ∧ j < 10 := by
    rw [Int.tmod_eq_emod_of_nonneg hn0]
    exact ⟨(n % 10).toNat, by omega, by omega⟩
  obtain ⟨c, hc, hc1⟩ : ∃ j : Nat, b.tmod 10 = (j : Int) ∧ j < 10 := by
    rw [Int.tmod_eq_emod_of_nonneg hb0]
    exact ⟨(b % 10).toNat, by omega, by omega⟩
  refine Call.bodyF b_law14_TableMany rfl rfl ?_
  unfold c_law14_TableMany
  repeat' (first
    | ((with_reducible apply opsF.op rfl); (case hs => (first | exact tHT | exact tHS)))
    | with_reducible (first | apply opsF.nil | apply seqF.nn | apply vcF.seq | apply vcF.region | apply vcF.skip | apply vcF.block | apply vcF.exit | apply vcF.ret | apply vcF.loop | apply seqF.e | apply seqF.r | apply blkF.nn | apply blkF.e | apply blkF.r | apply blkF.o rfl)
    | ((with_reducible apply opsF.call); (case hx => exact tAG))
    | ((with_reducible apply opsF.want); (case hg => exact tEV); (case hb => exact tNB))
    | ((with_reducible apply opsF.skip); (case hg => exact tEV); (case hb => exact tNB))
    | (first | ((with_reducible apply opsF.case); (case hg => exact tEV)) | ((with_reducible apply vcF.cond); (case hx => exact tEV))) <;> ((intro hc; try simp only [Int.reduceLT, Int.reduceLE, Int.reduceEq, Int.reduceNe, Int.cast_ofNat_Int, Int.reduceNeg, decide_true, decide_false, not_true_eq_false, not_false_eq_true, decide_eq_true_eq, decide_eq_false_iff_not, Bool.not_eq_true', Bool.not_eq_false', Bool.not_true, Bool.not_false, Bool.false_eq_true, Bool.true_eq_false, Bool.not_eq_true, Bool.not_eq_false, beq_iff_eq, beq_eq_false_iff_ne, bne_iff_ne, bne_eq_false_iff_eq, ne_eq, Int.not_lt, Int.not_le, ge_iff_le, gt_iff_lt, Decidable.not_not, reduceCtorEq, *] at hc) <;> (try (exfalso; omega)))
    | ((with_reducible apply opsF.und); (case hg => rfl))
    | ((with_reducible apply retF.r); (case hv => exact tRS))
    | ((with_reducible apply retF.nn); (case hv => exact tRS)))
  refine LpF.ind rfl (fun i : Nat => c - i) (fun i σ h' => h' = AH.start ∧ σ 1 = .v (.int .u8 b) ∧ σ 5 = .v (.int .i64 (195 + (j : Nat))) ∧ σ 6 = .v (.string (bs (rep i blB))) ∧ σ 7 = .v (.int .i64 (i : Nat)) ∧ i ≤ c) ?_ (i := 0) ⟨rfl, rfl, rfl, rfl, rfl, Nat.zero_le _⟩
  rintro i σ h' ⟨rfl, h1, h5, h6, h7, hi⟩
  have hrl := rep_len blB i
  simp only [List.length_cons, List.length_nil] at hrl
  rcases Nat.lt_or_ge i c with hlt | hge
  · generalize hX : rep i blB = X at *
    repeat' (first
    | ((with_reducible apply opsF.op rfl); (case hs => (first | exact tHT | exact tHS)))
    | with_reducible (first | apply opsF.nil | apply seqF.nn | apply vcF.seq | apply vcF.region | apply vcF.skip | apply vcF.block | apply vcF.exit | apply vcF.ret | apply vcF.loop | apply seqF.e | apply seqF.r | apply blkF.nn | apply blkF.e | apply blkF.r | apply blkF.o rfl)
    | ((with_reducible apply opsF.call); (case hx => exact tAG))
    | ((with_reducible apply opsF.want); (case hg => exact tEV); (case hb => exact tNB))
    | ((with_reducible apply opsF.skip); (case hg => exact tEV); (case hb => exact tNB))
    | (first | ((with_reducible apply opsF.case); (case hg => exact tEV)) | ((with_reducible apply vcF.cond); (case hx => exact tEV))) <;> ((intro hc; try simp only [Int.reduceLT, Int.reduceLE, Int.reduceEq, Int.reduceNe, Int.cast_ofNat_Int, Int.reduceNeg, decide_true, decide_false, not_true_eq_false, not_false_eq_true, decide_eq_true_eq, decide_eq_false_iff_not, Bool.not_eq_true', Bool.not_eq_false', Bool.not_true, Bool.not_false, Bool.false_eq_true, Bool.true_eq_false, Bool.not_eq_true, Bool.not_eq_false, beq_iff_eq, beq_eq_false_iff_ne, bne_iff_ne, bne_eq_false_iff_eq, ne_eq, Int.not_lt, Int.not_le, ge_iff_le, gt_iff_lt, Decidable.not_not, reduceCtorEq, *] at hc) <;> (try (exfalso; omega)))
    | ((with_reducible apply opsF.und); (case hg => rfl))
    | ((with_reducible apply retF.r); (case hv => exact tRS))
    | ((with_reducible apply retF.nn); (case hv => exact tRS)))
    refine ⟨i + 1, by omega, rfl, by assumption, by assumption, ?_, rfl, by omega⟩
    rw [rep, hX]
    rfl
  · have : i = c := by omega
    subst this
    repeat' (first
    | ((with_reducible apply opsF.op rfl); (case hs => (first | exact tHT | exact tHS)))
    | with_reducible (first | apply opsF.nil | apply seqF.nn | apply vcF.seq | apply vcF.region | apply vcF.skip | apply vcF.block | apply vcF.exit | apply vcF.ret | apply vcF.loop | apply seqF.e | apply seqF.r | apply blkF.nn | apply blkF.e | apply blkF.r | apply blkF.o rfl)
    | ((with_reducible apply opsF.call); (case hx => exact tAG))
    | ((with_reducible apply opsF.want); (case hg => exact tEV); (case hb => exact tNB))
    | ((with_reducible apply opsF.skip); (case hg => exact tEV); (case hb => exact tNB))
    | (first | ((with_reducible apply opsF.case); (case hg => exact tEV)) | ((with_reducible apply vcF.cond); (case hx => exact tEV))) <;> ((intro hc; try simp only [Int.reduceLT, Int.reduceLE, Int.reduceEq, Int.reduceNe, Int.cast_ofNat_Int, Int.reduceNeg, decide_true, decide_false, not_true_eq_false, not_false_eq_true, decide_eq_true_eq, decide_eq_false_iff_not, Bool.not_eq_true', Bool.not_eq_false', Bool.not_true, Bool.not_false, Bool.false_eq_true, Bool.true_eq_false, Bool.not_eq_true, Bool.not_eq_false, beq_iff_eq, beq_eq_false_iff_ne, bne_iff_ne, bne_eq_false_iff_eq, ne_eq, Int.not_lt, Int.not_le, ge_iff_le, gt_iff_lt, Decidable.not_not, reduceCtorEq, *] at hc) <;> (try (exfalso; omega)))
    | ((with_reducible apply opsF.und); (case hg => rfl))
    | ((with_reducible apply retF.r); (case hv => exact tRS))
    | ((with_reducible apply retF.nn); (case hv => exact tRS)))
    refine LpF.ind rfl (fun k : Nat => 195 + j - k) (fun k σ h' => h' = AH.start ∧ σ 1 = .v (.int .u8 b) ∧ σ 5 = .v (.int .i64 (195 + (j : Nat))) ∧ σ 6 = .v (.string (bs (rep i blB ++ rep k banB))) ∧ σ 8 = .v (.int .i64 (k : Nat)) ∧ k ≤ 195 + j) ?_ (i := 0) ⟨rfl, h1, h5, by rw [rep, List.append_nil]; exact h6, rfl, Nat.zero_le _⟩
    rintro k σ h' ⟨rfl, h1, h5, h6, h8, hk⟩
    have hrk := rep_len banB k
    simp only [List.length_cons, List.length_nil] at hrk
    rcases Nat.lt_or_ge k (195 + j) with hlt | hge
    · generalize hX : rep i blB = X at *
      generalize hY : rep k banB = Y at *
      repeat' (first
    | ((with_reducible apply opsF.op rfl); (case hs => (first | exact tHT | exact tHS)))
    | with_reducible (first | apply opsF.nil | apply seqF.nn | apply vcF.seq | apply vcF.region | apply vcF.skip | apply vcF.block | apply vcF.exit | apply vcF.ret | apply vcF.loop | apply seqF.e | apply seqF.r | apply blkF.nn | apply blkF.e | apply blkF.r | apply blkF.o rfl)
    | ((with_reducible apply opsF.call); (case hx => exact tAG))
    | ((with_reducible apply opsF.want); (case hg => exact tEV); (case hb => exact tNB))
    | ((with_reducible apply opsF.skip); (case hg => exact tEV); (case hb => exact tNB))
    | (first | ((with_reducible apply opsF.case); (case hg => exact tEV)) | ((with_reducible apply vcF.cond); (case hx => exact tEV))) <;> ((intro hc; try simp only [Int.reduceLT, Int.reduceLE, Int.reduceEq, Int.reduceNe, Int.cast_ofNat_Int, Int.reduceNeg, decide_true, decide_false, not_true_eq_false, not_false_eq_true, decide_eq_true_eq, decide_eq_false_iff_not, Bool.not_eq_true', Bool.not_eq_false', Bool.not_true, Bool.not_false, Bool.false_eq_true, Bool.true_eq_false, Bool.not_eq_true, Bool.not_eq_false, beq_iff_eq, beq_eq_false_iff_ne, bne_iff_ne, bne_eq_false_iff_eq, ne_eq, Int.not_lt, Int.not_le, ge_iff_le, gt_iff_lt, Decidable.not_not, reduceCtorEq, *] at hc) <;> (try (exfalso; omega)))
    | ((with_reducible apply opsF.und); (case hg => rfl))
    | ((with_reducible apply retF.r); (case hv => exact tRS))
    | ((with_reducible apply retF.nn); (case hv => exact tRS)))
      refine ⟨k + 1, by omega, rfl, by assumption, by assumption, ?_, rfl, by omega⟩
      rw [rep, hY, ← List.append_assoc]
      rfl
    · have : k = 195 + j := by omega
      subst this
      have hT : tableS (rep i blB ++ rep (195 + j) banB) = tparse (linesS (rep (195 + j) banB)) (2 * i) 0 zeroT := by
        rw [tableS, if_neg (by rw [List.length_append]; omega), many_bl, Nat.zero_add]
      have hpa := fun h => table_call (w0 := W) hP hE (rep i blB ++ rep (195 + j) banB) h (by rw [List.length_append]; omega)
      rw [hT] at hpa
      generalize hX : rep i blB ++ rep (195 + j) banB = X at *
      rcases Nat.lt_or_ge 5 j with hbig | hsm
      · rw [many_no _ _ _ _ (by omega) (by omega)] at hpa
        simp only [tabV, resV, tabC, zeroT, List.map_nil, List.map_cons] at hpa
        repeat' (first
    | ((with_reducible apply opsF.op rfl); (case hs => (first | exact tHT | exact tHS)))
    | with_reducible (first | apply opsF.nil | apply seqF.nn | apply vcF.seq | apply vcF.region | apply vcF.skip | apply vcF.block | apply vcF.exit | apply vcF.ret | apply vcF.loop | apply seqF.e | apply seqF.r | apply blkF.nn | apply blkF.e | apply blkF.r | apply blkF.o rfl)
    | ((with_reducible apply opsF.call); (case hx => exact tAG))
    | ((with_reducible apply opsF.want); (case hg => exact tEV); (case hb => exact tNB))
    | ((with_reducible apply opsF.skip); (case hg => exact tEV); (case hb => exact tNB))
    | (first | ((with_reducible apply opsF.case); (case hg => exact tEV)) | ((with_reducible apply vcF.cond); (case hx => exact tEV))) <;> ((intro hc; try simp only [Int.reduceLT, Int.reduceLE, Int.reduceEq, Int.reduceNe, Int.cast_ofNat_Int, Int.reduceNeg, decide_true, decide_false, not_true_eq_false, not_false_eq_true, decide_eq_true_eq, decide_eq_false_iff_not, Bool.not_eq_true', Bool.not_eq_false', Bool.not_true, Bool.not_false, Bool.false_eq_true, Bool.true_eq_false, Bool.not_eq_true, Bool.not_eq_false, beq_iff_eq, beq_eq_false_iff_ne, bne_iff_ne, bne_eq_false_iff_eq, ne_eq, Int.not_lt, Int.not_le, ge_iff_le, gt_iff_lt, Decidable.not_not, reduceCtorEq, *] at hc) <;> (try (exfalso; omega)))
    | ((with_reducible apply opsF.und); (case hg => rfl))
    | ((with_reducible apply retF.r); (case hv => exact tRS))
    | ((with_reducible apply retF.nn); (case hv => exact tRS))
    | ((refine Call.use (hans _) ?_))
    | ((refine Call.use (hpa _) ?_)))
        all_goals first | rfl | (simp; done) | (simp; omega) | trace_state
      · rw [many_ok _ _ _ _ (by omega)] at hpa
        simp only [tabV, resV, tabC, zeroT, List.map_nil, List.map_cons, List.nil_append] at hpa
        have hbl : ((List.replicate (195 + j) (false, ([120] : List UInt8))).map brow).length = 195 + j := by simp
        generalize (List.replicate (195 + j) (false, ([120] : List UInt8))).map brow = B at *
        repeat' (first
    | ((with_reducible apply opsF.op rfl); (case hs => (first | exact tHT | exact tHS)))
    | with_reducible (first | apply opsF.nil | apply seqF.nn | apply vcF.seq | apply vcF.region | apply vcF.skip | apply vcF.block | apply vcF.exit | apply vcF.ret | apply vcF.loop | apply seqF.e | apply seqF.r | apply blkF.nn | apply blkF.e | apply blkF.r | apply blkF.o rfl)
    | ((with_reducible apply opsF.call); (case hx => exact tAG))
    | ((with_reducible apply opsF.want); (case hg => exact tEV); (case hb => exact tNB))
    | ((with_reducible apply opsF.skip); (case hg => exact tEV); (case hb => exact tNB))
    | (first | ((with_reducible apply opsF.case); (case hg => exact tEV)) | ((with_reducible apply vcF.cond); (case hx => exact tEV))) <;> ((intro hc; try simp only [Int.reduceLT, Int.reduceLE, Int.reduceEq, Int.reduceNe, Int.cast_ofNat_Int, Int.reduceNeg, decide_true, decide_false, not_true_eq_false, not_false_eq_true, decide_eq_true_eq, decide_eq_false_iff_not, Bool.not_eq_true', Bool.not_eq_false', Bool.not_true, Bool.not_false, Bool.false_eq_true, Bool.true_eq_false, Bool.not_eq_true, Bool.not_eq_false, beq_iff_eq, beq_eq_false_iff_ne, bne_iff_ne, bne_eq_false_iff_eq, ne_eq, Int.not_lt, Int.not_le, ge_iff_le, gt_iff_lt, Decidable.not_not, reduceCtorEq, *] at hc) <;> (try (exfalso; omega)))
    | ((with_reducible apply opsF.und); (case hg => rfl))
    | ((with_reducible apply retF.r); (case hv => exact tRS))
    | ((with_reducible apply retF.nn); (case hv => exact tRS))
    | ((refine Call.use (hans _) ?_))
    | ((refine Call.use (hpa _) ?_)))
        all_goals first | rfl | (simp; done) | (simp; omega) | trace_state
theorem tmu8_in {n : Int} (h : (Lit.int .u8 n).wf = true) : 0 ≤ n ∧ n < 256 := by
  simp [Lit.wf, IntKind.min, IntKind.max, IntKind.signed, IntKind.bits] at h
  exact ⟨by omega, by omega⟩
theorem law_TableMany (W : World) (hL : laidMetH P Go.Proofs.YtbakofbljfhoiaaDoor.Rows.tableManyRow.laid W) (x0 : (Ty.int .u8).D) (h0 : (Ty.int .u8).wf x0) (g0 : (Ty.int .u8).fit 140737488351232 x0) (x1 : (Ty.int .u8).D) (h1 : (Ty.int .u8).wf x1) (g1 : (Ty.int .u8).fit 140737488351232 x1) :
    Call P W law14_TableMany [(Ty.int .u8).val x0, (Ty.int .u8).val x1] AH.start fun v _ => v = .v (.bool true) :=
  tmany_main W (powTab_of hL (by kernel_rfl)) (errVars_of hL (by kernel_rfl) (by kernel_rfl)) x0 x1 (tmu8_in h0).1 (tmu8_in h0).2 (tmu8_in h1).1 (tmu8_in h1).2
end Go.Abs.F
