/- Layer 3: greetings, and commands with a text. -/
import Derived.Test.YtbakofbljfhoiaaDoorLv1
import Derived.Test.YtbakofbljfhoiaaDoorAbsW
namespace Go.Abs.F
open Go Go.Abs
set_option maxRecDepth 10000
set_option maxHeartbeats 20000000
set_option linter.unusedSimpArgs false
set_option linter.unusedVariables false
variable {w0 : World}
theorem cut3 {w : List UInt8} (d : List UInt8) (h : 32 ∉ w) : (cutB 32 (w ++ 32 :: d)).1 = w ∧ (cutB 32 (w ++ 32 :: d)).2.1 = d ∧ (cutB 32 (w ++ 32 :: d)).2.2 = true := by
  rw [cutB_hit h]
  exact ⟨rfl, rfl, rfl⟩
theorem verbS_ehlo (d : List UInt8) : verbS ([101, 104, 108, 111, 32] ++ d) = (if domainS d = true then (0, ([69, 72, 76, 79], lowerS d, -1, false)) else (501, zeroV) : Int × VS) := by
  obtain ⟨e1, e2, e3⟩ := cut3 (w := [101, 104, 108, 111]) d (by decide)
  rw [show [101, 104, 108, 111, 32] ++ d = [101, 104, 108, 111] ++ 32 :: d from rfl, verbS, cmd_EHLO e1 e2 e3 (nm := [69, 72, 76, 79]) (by decide) rfl]
  rw [greetS]
  cases domainS d <;> rfl
theorem verbS_HELO (d : List UInt8) : verbS ([72, 69, 76, 79, 32] ++ d) = (if domainS d = true then (0, ([72, 69, 76, 79], lowerS d, -1, false)) else (501, zeroV) : Int × VS) := by
  obtain ⟨e1, e2, e3⟩ := cut3 (w := [72, 69, 76, 79]) d (by decide)
  rw [show [72, 69, 76, 79, 32] ++ d = [72, 69, 76, 79] ++ 32 :: d from rfl, verbS, cmd_HELO e1 e2 e3 (nm := [72, 69, 76, 79]) (by decide) rfl]
  rw [greetS]
  cases domainS d <;> rfl
theorem verbS_vrfy (d : List UInt8) : verbS ([118, 114, 102, 121, 32] ++ d) = (if d = [] then (501, zeroV) else (0, ([86, 82, 70, 89], d, -1, false)) : Int × VS) := by
  obtain ⟨e1, e2, e3⟩ := cut3 (w := [118, 114, 102, 121]) d (by decide)
  rw [show [118, 114, 102, 121, 32] ++ d = [118, 114, 102, 121] ++ 32 :: d from rfl, verbS, cmd_VRFY e1 e2 e3 (nm := [86, 82, 70, 89]) (by decide) rfl]
  by_cases hd : d = []
  · rw [if_pos hd, if_pos hd]; rfl
  · rw [if_neg hd, if_neg hd]; rfl
theorem verbS_NOOP (d : List UInt8) : verbS ([78, 79, 79, 80, 32] ++ d) = (0, ([78, 79, 79, 80], [], -1, false)) := by
  obtain ⟨e1, e2, e3⟩ := cut3 (w := [78, 79, 79, 80]) d (by decide)
  rw [show [78, 79, 79, 80, 32] ++ d = [78, 79, 79, 80] ++ 32 :: d from rfl, verbS, cmd_NOOP e1 e2 e3 (nm := [78, 79, 79, 80]) (by decide) rfl]
  rfl
theorem hello_main (W : World) (hE : ErrVars W) (d t : List UInt8) (hl : d.length ≤ 140737488351232) (hl2 : t.length ≤ 140737488351232) : Call P W law03_VerbHello [.v (.string (bs d)), .v (.string (bs t))] AH.start fun v _ => v = .v (.bool true) := by
  have hans := fun h => answers3_call (w0 := W) hE h
  refine Call.bodyF b_law03_VerbHello rfl rfl ?_
  unfold c_law03_VerbHello
  rcases Nat.lt_or_ge 300 d.length with hbig | hd
  · repeat' (first
    | ((with_reducible apply opsF.op rfl); (case hs => (first | exact tHT | exact tHS)))
    | with_reducible (first | apply opsF.nil | apply seqF.nn | apply vcF.seq | apply vcF.region | apply vcF.dregion | apply vcF.skip | apply vcF.ret | apply seqF.r | apply dopsF.nil | apply stabsF.nil | apply stabsF.cons | apply dopsF.cont)
    | ((with_reducible apply opsF.call); (case hx => exact tAG))
    | ((with_reducible apply opsF.want); (case hg => exact tEV); (case hb => exact tNB))
    | ((with_reducible apply opsF.skip); (case hg => exact tEV); (case hb => exact tNB))
    | (first | ((with_reducible apply opsF.case); (case hg => exact tEV)) | ((with_reducible apply vcF.cond); (case hx => exact tEV)) | ((with_reducible apply dopsF.case); (case hg => exact tEV))) <;> ((intro hc; try simp only [Int.reduceLT, Int.reduceLE, Int.reduceEq, Int.reduceNe, Int.cast_ofNat_Int, Int.reduceNeg, decide_true, decide_false, not_true_eq_false, not_false_eq_true, decide_eq_true_eq, decide_eq_false_iff_not, Bool.not_eq_true', Bool.not_eq_false', Bool.not_true, Bool.not_false, Bool.false_eq_true, Bool.true_eq_false, Bool.not_eq_true, Bool.not_eq_false, beq_iff_eq, beq_eq_false_iff_ne, bne_iff_ne, bne_eq_false_iff_eq, ne_eq, Int.not_lt, Int.not_le, ge_iff_le, gt_iff_lt, Decidable.not_not, reduceCtorEq, *] at hc) <;> (try (exfalso; omega)))
    | ((with_reducible apply opsF.und); (case hg => rfl))
    | ((with_reducible apply dopsF.op rfl); (case hs => (first | exact tHT | exact tHS)))
    | ((with_reducible apply dopsF.call); (case hx => exact tAG))
    | ((with_reducible apply dopsF.want); (case hg => exact tEV); (case hb => exact tNB))
    | ((with_reducible apply dopsF.skip); (case hg => exact tEV); (case hb => exact tNB))
    | ((with_reducible apply dopsF.und); (case hg => rfl))
    | ((with_reducible apply stabF.und); rfl)
    | ((with_reducible apply stabF.want); (case hg => exact tEV); (case hb => exact tNB))
    | ((with_reducible apply stabF.skip); (case hg => exact tEV); (case hb => exact tNB))
    | ((with_reducible apply stabF.op); (case hs => (first | exact tHT | exact tHS)); (case hv => exact tSV))
    | ((with_reducible apply retF.r); (case hv => exact tRS))
    | ((with_reducible apply retF.nn); (case hv => exact tRS))
    | ((refine (hans _).mono fun v h1 hp => ?_); obtain ⟨rfl, he⟩ := hp; have hN := he.n; have hO := he.objs; (try simp only [alloc_n, set_n, newTok_n, bump_n] at hN hO)))
    all_goals rfl
  rcases Nat.lt_or_ge 300 t.length with hbig | ht
  · repeat' (first
    | ((with_reducible apply opsF.op rfl); (case hs => (first | exact tHT | exact tHS)))
    | with_reducible (first | apply opsF.nil | apply seqF.nn | apply vcF.seq | apply vcF.region | apply vcF.dregion | apply vcF.skip | apply vcF.ret | apply seqF.r | apply dopsF.nil | apply stabsF.nil | apply stabsF.cons | apply dopsF.cont)
    | ((with_reducible apply opsF.call); (case hx => exact tAG))
    | ((with_reducible apply opsF.want); (case hg => exact tEV); (case hb => exact tNB))
    | ((with_reducible apply opsF.skip); (case hg => exact tEV); (case hb => exact tNB))
    | (first | ((with_reducible apply opsF.case); (case hg => exact tEV)) | ((with_reducible apply vcF.cond); (case hx => exact tEV)) | ((with_reducible apply dopsF.case); (case hg => exact tEV))) <;> ((intro hc; try simp only [Int.reduceLT, Int.reduceLE, Int.reduceEq, Int.reduceNe, Int.cast_ofNat_Int, Int.reduceNeg, decide_true, decide_false, not_true_eq_false, not_false_eq_true, decide_eq_true_eq, decide_eq_false_iff_not, Bool.not_eq_true', Bool.not_eq_false', Bool.not_true, Bool.not_false, Bool.false_eq_true, Bool.true_eq_false, Bool.not_eq_true, Bool.not_eq_false, beq_iff_eq, beq_eq_false_iff_ne, bne_iff_ne, bne_eq_false_iff_eq, ne_eq, Int.not_lt, Int.not_le, ge_iff_le, gt_iff_lt, Decidable.not_not, reduceCtorEq, *] at hc) <;> (try (exfalso; omega)))
    | ((with_reducible apply opsF.und); (case hg => rfl))
    | ((with_reducible apply dopsF.op rfl); (case hs => (first | exact tHT | exact tHS)))
    | ((with_reducible apply dopsF.call); (case hx => exact tAG))
    | ((with_reducible apply dopsF.want); (case hg => exact tEV); (case hb => exact tNB))
    | ((with_reducible apply dopsF.skip); (case hg => exact tEV); (case hb => exact tNB))
    | ((with_reducible apply dopsF.und); (case hg => rfl))
    | ((with_reducible apply stabF.und); rfl)
    | ((with_reducible apply stabF.want); (case hg => exact tEV); (case hb => exact tNB))
    | ((with_reducible apply stabF.skip); (case hg => exact tEV); (case hb => exact tNB))
    | ((with_reducible apply stabF.op); (case hs => (first | exact tHT | exact tHS)); (case hv => exact tSV))
    | ((with_reducible apply retF.r); (case hv => exact tRS))
    | ((with_reducible apply retF.nn); (case hv => exact tRS))
    | ((refine (hans _).mono fun v h1 hp => ?_); obtain ⟨rfl, he⟩ := hp; have hN := he.n; have hO := he.objs; (try simp only [alloc_n, set_n, newTok_n, bump_n] at hN hO)))
    all_goals rfl
  have hp1 := fun h => Parse_call (w0 := W) hE ([101, 104, 108, 111, 32] ++ d) h (by simp; omega)
  have hp2 := fun h => Parse_call (w0 := W) hE ([72, 69, 76, 79, 32] ++ d) h (by simp; omega)
  have hp3 := fun h => Parse_call (w0 := W) hE ([118, 114, 102, 121, 32] ++ t) h (by simp; omega)
  have hp4 := fun h => Parse_call (w0 := W) hE ([78, 79, 79, 80, 32] ++ t) h (by simp; omega)
  rw [verbS_ehlo] at hp1
  rw [verbS_HELO] at hp2
  rw [verbS_vrfy] at hp3
  rw [verbS_NOOP] at hp4
  have hdo := fun h => rdomain_call (w0 := W) d h (by omega)
  have hlo := fun h => rlower_call (w0 := W) d h (by omega)
  simp only [codeV, verbA] at hp4
  cases hD : domainS d <;> by_cases htn : t = []
  all_goals rw [hD] at hp1 hp2 hdo
  all_goals first
    | rw [if_pos htn] at hp3
    | rw [if_neg htn] at hp3
  all_goals simp only [codeV, verbA, zeroV, if_true, if_false, Bool.false_eq_true] at hp1 hp2 hp3
  all_goals try clear hans
  all_goals have hans := fun h => answers3_call (w0 := W) hE h
  all_goals try (have hty : (t = []) = True := eq_true htn; clear htn)
  all_goals repeat' (first
    | ((with_reducible apply opsF.op rfl); (case hs => (first | exact tHT | exact tHS)))
    | with_reducible (first | apply opsF.nil | apply seqF.nn | apply vcF.seq | apply vcF.region | apply vcF.dregion | apply vcF.skip | apply vcF.ret | apply seqF.r | apply dopsF.nil | apply stabsF.nil | apply stabsF.cons | apply dopsF.cont)
    | ((with_reducible apply opsF.call); (case hx => exact tAG))
    | ((with_reducible apply opsF.want); (case hg => exact tEV); (case hb => exact tNB))
    | ((with_reducible apply opsF.skip); (case hg => exact tEV); (case hb => exact tNB))
    | (first | ((with_reducible apply opsF.case); (case hg => exact tEV)) | ((with_reducible apply vcF.cond); (case hx => exact tEV)) | ((with_reducible apply dopsF.case); (case hg => exact tEV))) <;> ((intro hc; try simp only [Int.reduceLT, Int.reduceLE, Int.reduceEq, Int.reduceNe, Int.cast_ofNat_Int, Int.reduceNeg, decide_true, decide_false, not_true_eq_false, not_false_eq_true, decide_eq_true_eq, decide_eq_false_iff_not, Bool.not_eq_true', Bool.not_eq_false', Bool.not_true, Bool.not_false, Bool.false_eq_true, Bool.true_eq_false, Bool.not_eq_true, Bool.not_eq_false, beq_iff_eq, beq_eq_false_iff_ne, bne_iff_ne, bne_eq_false_iff_eq, ne_eq, Int.not_lt, Int.not_le, ge_iff_le, gt_iff_lt, Decidable.not_not, reduceCtorEq, *] at hc) <;> (try (exfalso; omega)))
    | ((with_reducible apply opsF.und); (case hg => rfl))
    | ((with_reducible apply dopsF.op rfl); (case hs => (first | exact tHT | exact tHS)))
    | ((with_reducible apply dopsF.call); (case hx => exact tAG))
    | ((with_reducible apply dopsF.want); (case hg => exact tEV); (case hb => exact tNB))
    | ((with_reducible apply dopsF.skip); (case hg => exact tEV); (case hb => exact tNB))
    | ((with_reducible apply dopsF.und); (case hg => rfl))
    | ((with_reducible apply stabF.und); rfl)
    | ((with_reducible apply stabF.want); (case hg => exact tEV); (case hb => exact tNB))
    | ((with_reducible apply stabF.skip); (case hg => exact tEV); (case hb => exact tNB))
    | ((with_reducible apply stabF.op); (case hs => (first | exact tHT | exact tHS)); (case hv => exact tSV))
    | ((with_reducible apply retF.r); (case hv => exact tRS))
    | ((with_reducible apply retF.nn); (case hv => exact tRS))
    | ((refine (hp1 _).mono fun v h1 hp => ?_); obtain ⟨rfl, he1⟩ := hp; have hN := he1.n; have hO := he1.objs; (try simp only [alloc_n, set_n, newTok_n, bump_n] at hN hO))
    | ((refine (hp2 _).mono fun v h2 hp => ?_); obtain ⟨rfl, he2⟩ := hp; have hN := he2.n; have hO := he2.objs; (try simp only [alloc_n, set_n, newTok_n, bump_n] at hN hO))
    | ((refine (hp3 _).mono fun v h3 hp => ?_); obtain ⟨rfl, he3⟩ := hp; have hN := he3.n; have hO := he3.objs; (try simp only [alloc_n, set_n, newTok_n, bump_n] at hN hO))
    | ((refine (hp4 _).mono fun v h4 hp => ?_); obtain ⟨rfl, he4⟩ := hp; have hN := he4.n; have hO := he4.objs; (try simp only [alloc_n, set_n, newTok_n, bump_n] at hN hO))
    | ((refine (hdo _).mono fun v h5 hp => ?_); obtain ⟨rfl, he5⟩ := hp; have hN := he5.n; have hO := he5.objs; (try simp only [alloc_n, set_n, newTok_n, bump_n] at hN hO))
    | ((refine (hlo _).mono fun v h6 hp => ?_); obtain ⟨rfl, he6⟩ := hp; have hN := he6.n; have hO := he6.objs; (try simp only [alloc_n, set_n, newTok_n, bump_n] at hN hO))
    | ((refine (hans _).mono fun v h7 hp => ?_); obtain ⟨rfl, he7⟩ := hp; have hN := he7.n; have hO := he7.objs; (try simp only [alloc_n, set_n, newTok_n, bump_n] at hN hO)))
  all_goals simp
theorem law_VerbHello (W : World) (hL : laidMetH P Go.Proofs.YtbakofbljfhoiaaDoor.Rows.verbHelloRow.laid W) (x0 : Ty.str.D) (h0 : Ty.str.wf x0) (g0 : Ty.str.fit 140737488351232 x0) (x1 : Ty.str.D) (h1 : Ty.str.wf x1) (g1 : Ty.str.fit 140737488351232 x1) :
    Call P W law03_VerbHello [Ty.str.val x0, Ty.str.val x1] AH.start fun v _ => v = .v (.bool true) :=
  hello_main W (errVars_of hL (by kernel_rfl) (by kernel_rfl)) x0 x1 g0 g1
end Go.Abs.F
