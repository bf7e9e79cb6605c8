/- Layer 3: the case of names and keys is ignored. -/
import Derived.Test.YtbakofbljfhoiaaDoorLv3
import Derived.Test.YtbakofbljfhoiaaDoorAbsW
namespace Go.Abs.F
open Go Go.Abs
set_option maxRecDepth 10000
set_option maxHeartbeats 20000000
set_option linter.unusedSimpArgs false
set_option linter.unusedVariables false
variable {w0 : World}
theorem verbS_case {l4 f5 bd m c : List UInt8} (wd : Bool) (n : Nat) (hn : n < 1000000000) (h4 : 32 ∉ l4) (hu4 : upperS l4 = [77, 65, 73, 76]) (hf : f5.length = 5) (hu5 : upperS f5 = [70, 82, 79, 77, 58]) (hm : canonO m = some c) (hb : 32 ∉ bd) (hbo : ∀ k, optS (k, false, false) bd = (0, (k, wd, true))) :
    verbS (l4 ++ 32 :: (f5 ++ 60 :: (m ++ 62 :: 32 :: ([83, 105, 122, 101, 61] ++ (udecS n ++ 32 :: bd))))) = (0, ([77, 65, 73, 76], c, (n : Int), wd)) := by
  obtain ⟨m1, m2, m3⟩ := mail_ok hm
  have hs32 : 32 ∉ [83, 105, 122, 101, 61] ++ udecS n := by
    intro e
    rcases List.mem_append.1 e with e | e
    · exact absurd e (by decide)
    · have := udecS_mem e
      exact absurd this (by decide)
  have h := verbS_mail [[83, 105, 122, 101, 61] ++ udecS n, bd] h4 hu4 hf hu5 (p := 60 :: (m ++ [62])) (by simp [m3]) (by
    intro w hw
    simp only [List.mem_cons, List.not_mem_nil, or_false] at hw
    rcases hw with rfl | rfl
    · exact hs32
    · exact hb) (path_box hm)
  have e : (60 :: (m ++ [62])) ++ tailJ [[83, 105, 122, 101, 61] ++ udecS n, bd] = 60 :: (m ++ 62 :: 32 :: ([83, 105, 122, 101, 61] ++ (udecS n ++ 32 :: bd))) := by simp [tailJ]
  rw [e] at h
  rw [h, eachG, optS_size n hn]
  simp only [Int.reduceEq, if_false, if_true]
  rw [eachG, hbo]
  simp only [Int.reduceEq, if_false, if_true, eachG]
  rfl
theorem cases_main (W : World) (hE : ErrVars W) (m : List UInt8) (sz : Int) (wd : Bool) (k : Int) (hl : m.length ≤ 140737488351232) (hs0 : 0 ≤ sz) (hs1 : sz < 4294967296) (hk0 : 0 ≤ k) (hk1 : k < 256) : Call P W law03_VerbCases [.v (.string (bs m)), .v (.int .u32 sz), .v (.bool wd), .v (.int .u8 k)] AH.start fun v _ => v = .v (.bool true) := by
  have hans := fun h => answers3_call (w0 := W) hE h
  refine Call.bodyF b_law03_VerbCases rfl rfl ?_
  unfold c_law03_VerbCases
  have hrc := fun h => rcanon_call (w0 := W) m h (by omega)
  rcases Nat.lt_or_ge 200 m.length with hbig | hsm
  · cases hc : canonO m with
    | none =>
      rw [hc] at hrc
      simp only [optV] at hrc
      repeat' (first
    | ((with_reducible apply opsF.op rfl); (case hs => (first | exact tHT | exact tHS)))
    | with_reducible (first | apply opsF.nil | apply seqF.nn | apply vcF.seq | apply vcF.region | apply vcF.skip | apply vcF.ret | apply seqF.r)
    | ((with_reducible apply opsF.call); (case hx => exact tAG))
    | ((with_reducible apply opsF.want); (case hg => exact tEV); (case hb => exact tNB))
    | ((with_reducible apply opsF.skip); (case hg => exact tEV); (case hb => exact tNB))
    | (first | ((with_reducible apply opsF.case); (case hg => exact tEV)) | ((with_reducible apply vcF.cond); (case hx => exact tEV))) <;> ((intro hc; try simp only [Int.reduceLT, Int.reduceLE, Int.reduceEq, Int.reduceNe, Int.cast_ofNat_Int, Int.reduceNeg, decide_true, decide_false, not_true_eq_false, not_false_eq_true, decide_eq_true_eq, decide_eq_false_iff_not, Bool.not_eq_true', Bool.not_eq_false', Bool.not_true, Bool.not_false, Bool.false_eq_true, Bool.true_eq_false, Bool.not_eq_true, Bool.not_eq_false, beq_iff_eq, beq_eq_false_iff_ne, bne_iff_ne, bne_eq_false_iff_eq, ne_eq, Int.not_lt, Int.not_le, ge_iff_le, gt_iff_lt, Decidable.not_not, reduceCtorEq, *] at hc) <;> (try (exfalso; omega)))
    | ((with_reducible apply opsF.und); (case hg => rfl))
    | ((with_reducible apply retF.r); (case hv => exact tRS))
    | ((with_reducible apply retF.nn); (case hv => exact tRS))
    | ((refine (hrc _).mono fun v h1 hp => ?_); obtain ⟨rfl, he1⟩ := hp; have hN := he1.n; have hO := he1.objs; (try simp only [alloc_n, set_n, newTok_n, bump_n] at hN hO))
    | ((refine (hans _).mono fun v h4 hp => ?_); obtain ⟨rfl, he4⟩ := hp; have hN := he4.n; have hO := he4.objs; (try simp only [alloc_n, set_n, newTok_n, bump_n] at hN hO)))
      all_goals simp
    | some c =>
      rw [hc] at hrc
      simp only [optV] at hrc
      repeat' (first
    | ((with_reducible apply opsF.op rfl); (case hs => (first | exact tHT | exact tHS)))
    | with_reducible (first | apply opsF.nil | apply seqF.nn | apply vcF.seq | apply vcF.region | apply vcF.skip | apply vcF.ret | apply seqF.r)
    | ((with_reducible apply opsF.call); (case hx => exact tAG))
    | ((with_reducible apply opsF.want); (case hg => exact tEV); (case hb => exact tNB))
    | ((with_reducible apply opsF.skip); (case hg => exact tEV); (case hb => exact tNB))
    | (first | ((with_reducible apply opsF.case); (case hg => exact tEV)) | ((with_reducible apply vcF.cond); (case hx => exact tEV))) <;> ((intro hc; try simp only [Int.reduceLT, Int.reduceLE, Int.reduceEq, Int.reduceNe, Int.cast_ofNat_Int, Int.reduceNeg, decide_true, decide_false, not_true_eq_false, not_false_eq_true, decide_eq_true_eq, decide_eq_false_iff_not, Bool.not_eq_true', Bool.not_eq_false', Bool.not_true, Bool.not_false, Bool.false_eq_true, Bool.true_eq_false, Bool.not_eq_true, Bool.not_eq_false, beq_iff_eq, beq_eq_false_iff_ne, bne_iff_ne, bne_eq_false_iff_eq, ne_eq, Int.not_lt, Int.not_le, ge_iff_le, gt_iff_lt, Decidable.not_not, reduceCtorEq, *] at hc) <;> (try (exfalso; omega)))
    | ((with_reducible apply opsF.und); (case hg => rfl))
    | ((with_reducible apply retF.r); (case hv => exact tRS))
    | ((with_reducible apply retF.nn); (case hv => exact tRS))
    | ((refine (hrc _).mono fun v h1 hp => ?_); obtain ⟨rfl, he1⟩ := hp; have hN := he1.n; have hO := he1.objs; (try simp only [alloc_n, set_n, newTok_n, bump_n] at hN hO))
    | ((refine (hans _).mono fun v h4 hp => ?_); obtain ⟨rfl, he4⟩ := hp; have hN := he4.n; have hO := he4.objs; (try simp only [alloc_n, set_n, newTok_n, bump_n] at hN hO)))
      all_goals simp
  cases hcc : canonO m with
  | none =>
    rw [hcc] at hrc
    simp only [optV] at hrc
    repeat' (first
    | ((with_reducible apply opsF.op rfl); (case hs => (first | exact tHT | exact tHS)))
    | with_reducible (first | apply opsF.nil | apply seqF.nn | apply vcF.seq | apply vcF.region | apply vcF.skip | apply vcF.ret | apply seqF.r)
    | ((with_reducible apply opsF.call); (case hx => exact tAG))
    | ((with_reducible apply opsF.want); (case hg => exact tEV); (case hb => exact tNB))
    | ((with_reducible apply opsF.skip); (case hg => exact tEV); (case hb => exact tNB))
    | (first | ((with_reducible apply opsF.case); (case hg => exact tEV)) | ((with_reducible apply vcF.cond); (case hx => exact tEV))) <;> ((intro hc; try simp only [Int.reduceLT, Int.reduceLE, Int.reduceEq, Int.reduceNe, Int.cast_ofNat_Int, Int.reduceNeg, decide_true, decide_false, not_true_eq_false, not_false_eq_true, decide_eq_true_eq, decide_eq_false_iff_not, Bool.not_eq_true', Bool.not_eq_false', Bool.not_true, Bool.not_false, Bool.false_eq_true, Bool.true_eq_false, Bool.not_eq_true, Bool.not_eq_false, beq_iff_eq, beq_eq_false_iff_ne, bne_iff_ne, bne_eq_false_iff_eq, ne_eq, Int.not_lt, Int.not_le, ge_iff_le, gt_iff_lt, Decidable.not_not, reduceCtorEq, *] at hc) <;> (try (exfalso; omega)))
    | ((with_reducible apply opsF.und); (case hg => rfl))
    | ((with_reducible apply retF.r); (case hv => exact tRS))
    | ((with_reducible apply retF.nn); (case hv => exact tRS))
    | ((refine (hrc _).mono fun v h1 hp => ?_); obtain ⟨rfl, he1⟩ := hp; have hN := he1.n; have hO := he1.objs; (try simp only [alloc_n, set_n, newTok_n, bump_n] at hN hO))
    | ((refine (hans _).mono fun v h4 hp => ?_); obtain ⟨rfl, he4⟩ := hp; have hN := he4.n; have hO := he4.objs; (try simp only [alloc_n, set_n, newTok_n, bump_n] at hN hO)))
    all_goals simp
  | some c =>
    rw [hcc] at hrc
    simp only [optV] at hrc
    obtain ⟨n, hn0, hn1⟩ : ∃ n : Nat, sz.tmod 1000000000 = (n : Int) ∧ n < 1000000000 := by
      rw [Int.tmod_eq_emod_of_nonneg hs0]
      exact ⟨(sz % 1000000000).toNat, by omega, by omega⟩
    have hdl := udecS_len 8 n (by omega)
    have hde := fun h => dec_call (w0 := W) n h (by omega)
    rcases (by omega : k % 3 = 0 ∨ k % 3 = 1 ∨ k % 3 = 2) with h3 | h3 | h3
    all_goals rw [← Int.tmod_eq_emod_of_nonneg hk0] at h3
    · cases wd
      · have hv : verbS ((((([109, 97, 105, 108, 32, 102, 114, 111, 109, 58, 60] ++ m) ++ [62, 32, 83, 105, 122, 101, 61]) ++ udecS n) ++ [32, 98, 111, 100, 121, 61, 55, 98, 105, 116])) = (0, ([77, 65, 73, 76], c, (n : Int), false)) := by
          have := verbS_case (l4 := [109, 97, 105, 108]) (f5 := [102, 114, 111, 109, 58]) (bd := [98, 111, 100, 121, 61, 55, 98, 105, 116]) false n hn1 (by decide) (by decide) rfl (by decide) hcc (by decide) (fun k => rfl)
          rw [← this]
          congr 1
          simp
        have hpa := fun h => Parse_call (w0 := W) hE ((((([109, 97, 105, 108, 32, 102, 114, 111, 109, 58, 60] ++ m) ++ [62, 32, 83, 105, 122, 101, 61]) ++ udecS n) ++ [32, 98, 111, 100, 121, 61, 55, 98, 105, 116])) h (by simp; omega)
        rw [hv] at hpa
        simp only [codeV, verbA] at hpa
        clear hv
        have hce : cellsEq [.str, .str, .int, .bool] [AV.v (.string (bs [77, 65, 73, 76])), AV.v (.string (bs c)), AV.v (.int .i64 (n : Int)), AV.v (.bool false)] [AV.v (.string (bs [77, 65, 73, 76])), AV.v (.string (bs c)), AV.v (.int .i64 (n : Int)), AV.v (.bool false)] = some true := by
          simp [cellsEq, cellEq]
        repeat' (first
    | ((with_reducible apply opsF.op rfl); (case hs => (first | exact tHT | exact tHS)))
    | with_reducible (first | apply opsF.nil | apply seqF.nn | apply vcF.seq | apply vcF.region | apply vcF.skip | apply vcF.ret | apply seqF.r)
    | ((with_reducible apply opsF.call); (case hx => exact tAG))
    | ((with_reducible apply opsF.want); (case hg => exact tEV); (case hb => exact tNB))
    | ((with_reducible apply opsF.skip); (case hg => exact tEV); (case hb => exact tNB))
    | (first | ((with_reducible apply opsF.case); (case hg => exact tEV)) | ((with_reducible apply vcF.cond); (case hx => exact tEV))) <;> ((intro hc; try simp only [Int.reduceLT, Int.reduceLE, Int.reduceEq, Int.reduceNe, Int.cast_ofNat_Int, Int.reduceNeg, decide_true, decide_false, not_true_eq_false, not_false_eq_true, decide_eq_true_eq, decide_eq_false_iff_not, Bool.not_eq_true', Bool.not_eq_false', Bool.not_true, Bool.not_false, Bool.false_eq_true, Bool.true_eq_false, Bool.not_eq_true, Bool.not_eq_false, beq_iff_eq, beq_eq_false_iff_ne, bne_iff_ne, bne_eq_false_iff_eq, ne_eq, Int.not_lt, Int.not_le, ge_iff_le, gt_iff_lt, Decidable.not_not, reduceCtorEq, *] at hc) <;> (try (exfalso; omega)))
    | ((with_reducible apply opsF.und); (case hg => rfl))
    | ((with_reducible apply retF.r); (case hv => exact tRS))
    | ((with_reducible apply retF.nn); (case hv => exact tRS))
    | ((refine (hrc _).mono fun v h1 hp => ?_); obtain ⟨rfl, he1⟩ := hp; have hN := he1.n; have hO := he1.objs; (try simp only [alloc_n, set_n, newTok_n, bump_n] at hN hO))
    | ((refine (hde _).mono fun v h2 hp => ?_); obtain ⟨rfl, rfl⟩ := hp)
    | ((refine (hpa _).mono fun v h3 hp => ?_); obtain ⟨rfl, he3⟩ := hp; have hN := he3.n; have hO := he3.objs; (try simp only [alloc_n, set_n, newTok_n, bump_n] at hN hO))
    | ((refine (hans _).mono fun v h4 hp => ?_); obtain ⟨rfl, he4⟩ := hp; have hN := he4.n; have hO := he4.objs; (try simp only [alloc_n, set_n, newTok_n, bump_n] at hN hO)))
        all_goals simp
      · rcases (by omega : k % 2 = 0 ∨ k % 2 = 1) with h2 | h2
        all_goals rw [← Int.tmod_eq_emod_of_nonneg hk0] at h2
        · have hv : verbS ((((([109, 97, 105, 108, 32, 102, 114, 111, 109, 58, 60] ++ m) ++ [62, 32, 83, 105, 122, 101, 61]) ++ udecS n) ++ [32, 98, 111, 100, 121, 61, 56, 98, 105, 116, 109, 105, 109, 101])) = (0, ([77, 65, 73, 76], c, (n : Int), true)) := by
            have := verbS_case (l4 := [109, 97, 105, 108]) (f5 := [102, 114, 111, 109, 58]) (bd := [98, 111, 100, 121, 61, 56, 98, 105, 116, 109, 105, 109, 101]) true n hn1 (by decide) (by decide) rfl (by decide) hcc (by decide) (fun k => rfl)
            rw [← this]
            congr 1
            simp
          have hpa := fun h => Parse_call (w0 := W) hE ((((([109, 97, 105, 108, 32, 102, 114, 111, 109, 58, 60] ++ m) ++ [62, 32, 83, 105, 122, 101, 61]) ++ udecS n) ++ [32, 98, 111, 100, 121, 61, 56, 98, 105, 116, 109, 105, 109, 101])) h (by simp; omega)
          rw [hv] at hpa
          simp only [codeV, verbA] at hpa
          clear hv
          have hce : cellsEq [.str, .str, .int, .bool] [AV.v (.string (bs [77, 65, 73, 76])), AV.v (.string (bs c)), AV.v (.int .i64 (n : Int)), AV.v (.bool true)] [AV.v (.string (bs [77, 65, 73, 76])), AV.v (.string (bs c)), AV.v (.int .i64 (n : Int)), AV.v (.bool true)] = some true := by
            simp [cellsEq, cellEq]
          repeat' (first
    | ((with_reducible apply opsF.op rfl); (case hs => (first | exact tHT | exact tHS)))
    | with_reducible (first | apply opsF.nil | apply seqF.nn | apply vcF.seq | apply vcF.region | apply vcF.skip | apply vcF.ret | apply seqF.r)
    | ((with_reducible apply opsF.call); (case hx => exact tAG))
    | ((with_reducible apply opsF.want); (case hg => exact tEV); (case hb => exact tNB))
    | ((with_reducible apply opsF.skip); (case hg => exact tEV); (case hb => exact tNB))
    | (first | ((with_reducible apply opsF.case); (case hg => exact tEV)) | ((with_reducible apply vcF.cond); (case hx => exact tEV))) <;> ((intro hc; try simp only [Int.reduceLT, Int.reduceLE, Int.reduceEq, Int.reduceNe, Int.cast_ofNat_Int, Int.reduceNeg, decide_true, decide_false, not_true_eq_false, not_false_eq_true, decide_eq_true_eq, decide_eq_false_iff_not, Bool.not_eq_true', Bool.not_eq_false', Bool.not_true, Bool.not_false, Bool.false_eq_true, Bool.true_eq_false, Bool.not_eq_true, Bool.not_eq_false, beq_iff_eq, beq_eq_false_iff_ne, bne_iff_ne, bne_eq_false_iff_eq, ne_eq, Int.not_lt, Int.not_le, ge_iff_le, gt_iff_lt, Decidable.not_not, reduceCtorEq, *] at hc) <;> (try (exfalso; omega)))
    | ((with_reducible apply opsF.und); (case hg => rfl))
    | ((with_reducible apply retF.r); (case hv => exact tRS))
    | ((with_reducible apply retF.nn); (case hv => exact tRS))
    | ((refine (hrc _).mono fun v h1 hp => ?_); obtain ⟨rfl, he1⟩ := hp; have hN := he1.n; have hO := he1.objs; (try simp only [alloc_n, set_n, newTok_n, bump_n] at hN hO))
    | ((refine (hde _).mono fun v h2 hp => ?_); obtain ⟨rfl, rfl⟩ := hp)
    | ((refine (hpa _).mono fun v h3 hp => ?_); obtain ⟨rfl, he3⟩ := hp; have hN := he3.n; have hO := he3.objs; (try simp only [alloc_n, set_n, newTok_n, bump_n] at hN hO))
    | ((refine (hans _).mono fun v h4 hp => ?_); obtain ⟨rfl, he4⟩ := hp; have hN := he4.n; have hO := he4.objs; (try simp only [alloc_n, set_n, newTok_n, bump_n] at hN hO)))
          all_goals simp
        · have hv : verbS ((((([109, 97, 105, 108, 32, 102, 114, 111, 109, 58, 60] ++ m) ++ [62, 32, 83, 105, 122, 101, 61]) ++ udecS n) ++ [32, 66, 111, 100, 121, 61, 56, 66, 105, 116, 77, 105, 109, 101])) = (0, ([77, 65, 73, 76], c, (n : Int), true)) := by
            have := verbS_case (l4 := [109, 97, 105, 108]) (f5 := [102, 114, 111, 109, 58]) (bd := [66, 111, 100, 121, 61, 56, 66, 105, 116, 77, 105, 109, 101]) true n hn1 (by decide) (by decide) rfl (by decide) hcc (by decide) (fun k => rfl)
            rw [← this]
            congr 1
            simp
          have hpa := fun h => Parse_call (w0 := W) hE ((((([109, 97, 105, 108, 32, 102, 114, 111, 109, 58, 60] ++ m) ++ [62, 32, 83, 105, 122, 101, 61]) ++ udecS n) ++ [32, 66, 111, 100, 121, 61, 56, 66, 105, 116, 77, 105, 109, 101])) h (by simp; omega)
          rw [hv] at hpa
          simp only [codeV, verbA] at hpa
          clear hv
          have hce : cellsEq [.str, .str, .int, .bool] [AV.v (.string (bs [77, 65, 73, 76])), AV.v (.string (bs c)), AV.v (.int .i64 (n : Int)), AV.v (.bool true)] [AV.v (.string (bs [77, 65, 73, 76])), AV.v (.string (bs c)), AV.v (.int .i64 (n : Int)), AV.v (.bool true)] = some true := by
            simp [cellsEq, cellEq]
          repeat' (first
    | ((with_reducible apply opsF.op rfl); (case hs => (first | exact tHT | exact tHS)))
    | with_reducible (first | apply opsF.nil | apply seqF.nn | apply vcF.seq | apply vcF.region | apply vcF.skip | apply vcF.ret | apply seqF.r)
    | ((with_reducible apply opsF.call); (case hx => exact tAG))
    | ((with_reducible apply opsF.want); (case hg => exact tEV); (case hb => exact tNB))
    | ((with_reducible apply opsF.skip); (case hg => exact tEV); (case hb => exact tNB))
    | (first | ((with_reducible apply opsF.case); (case hg => exact tEV)) | ((with_reducible apply vcF.cond); (case hx => exact tEV))) <;> ((intro hc; try simp only [Int.reduceLT, Int.reduceLE, Int.reduceEq, Int.reduceNe, Int.cast_ofNat_Int, Int.reduceNeg, decide_true, decide_false, not_true_eq_false, not_false_eq_true, decide_eq_true_eq, decide_eq_false_iff_not, Bool.not_eq_true', Bool.not_eq_false', Bool.not_true, Bool.not_false, Bool.false_eq_true, Bool.true_eq_false, Bool.not_eq_true, Bool.not_eq_false, beq_iff_eq, beq_eq_false_iff_ne, bne_iff_ne, bne_eq_false_iff_eq, ne_eq, Int.not_lt, Int.not_le, ge_iff_le, gt_iff_lt, Decidable.not_not, reduceCtorEq, *] at hc) <;> (try (exfalso; omega)))
    | ((with_reducible apply opsF.und); (case hg => rfl))
    | ((with_reducible apply retF.r); (case hv => exact tRS))
    | ((with_reducible apply retF.nn); (case hv => exact tRS))
    | ((refine (hrc _).mono fun v h1 hp => ?_); obtain ⟨rfl, he1⟩ := hp; have hN := he1.n; have hO := he1.objs; (try simp only [alloc_n, set_n, newTok_n, bump_n] at hN hO))
    | ((refine (hde _).mono fun v h2 hp => ?_); obtain ⟨rfl, rfl⟩ := hp)
    | ((refine (hpa _).mono fun v h3 hp => ?_); obtain ⟨rfl, he3⟩ := hp; have hN := he3.n; have hO := he3.objs; (try simp only [alloc_n, set_n, newTok_n, bump_n] at hN hO))
    | ((refine (hans _).mono fun v h4 hp => ?_); obtain ⟨rfl, he4⟩ := hp; have hN := he4.n; have hO := he4.objs; (try simp only [alloc_n, set_n, newTok_n, bump_n] at hN hO)))
          all_goals simp
    · cases wd
      · have hv : verbS ((((([77, 65, 73, 76, 32, 70, 82, 79, 77, 58, 60] ++ m) ++ [62, 32, 83, 105, 122, 101, 61]) ++ udecS n) ++ [32, 98, 111, 100, 121, 61, 55, 98, 105, 116])) = (0, ([77, 65, 73, 76], c, (n : Int), false)) := by
          have := verbS_case (l4 := [77, 65, 73, 76]) (f5 := [70, 82, 79, 77, 58]) (bd := [98, 111, 100, 121, 61, 55, 98, 105, 116]) false n hn1 (by decide) (by decide) rfl (by decide) hcc (by decide) (fun k => rfl)
          rw [← this]
          congr 1
          simp
        have hpa := fun h => Parse_call (w0 := W) hE ((((([77, 65, 73, 76, 32, 70, 82, 79, 77, 58, 60] ++ m) ++ [62, 32, 83, 105, 122, 101, 61]) ++ udecS n) ++ [32, 98, 111, 100, 121, 61, 55, 98, 105, 116])) h (by simp; omega)
        rw [hv] at hpa
        simp only [codeV, verbA] at hpa
        clear hv
        have hce : cellsEq [.str, .str, .int, .bool] [AV.v (.string (bs [77, 65, 73, 76])), AV.v (.string (bs c)), AV.v (.int .i64 (n : Int)), AV.v (.bool false)] [AV.v (.string (bs [77, 65, 73, 76])), AV.v (.string (bs c)), AV.v (.int .i64 (n : Int)), AV.v (.bool false)] = some true := by
          simp [cellsEq, cellEq]
        repeat' (first
    | ((with_reducible apply opsF.op rfl); (case hs => (first | exact tHT | exact tHS)))
    | with_reducible (first | apply opsF.nil | apply seqF.nn | apply vcF.seq | apply vcF.region | apply vcF.skip | apply vcF.ret | apply seqF.r)
    | ((with_reducible apply opsF.call); (case hx => exact tAG))
    | ((with_reducible apply opsF.want); (case hg => exact tEV); (case hb => exact tNB))
    | ((with_reducible apply opsF.skip); (case hg => exact tEV); (case hb => exact tNB))
    | (first | ((with_reducible apply opsF.case); (case hg => exact tEV)) | ((with_reducible apply vcF.cond); (case hx => exact tEV))) <;> ((intro hc; try simp only [Int.reduceLT, Int.reduceLE, Int.reduceEq, Int.reduceNe, Int.cast_ofNat_Int, Int.reduceNeg, decide_true, decide_false, not_true_eq_false, not_false_eq_true, decide_eq_true_eq, decide_eq_false_iff_not, Bool.not_eq_true', Bool.not_eq_false', Bool.not_true, Bool.not_false, Bool.false_eq_true, Bool.true_eq_false, Bool.not_eq_true, Bool.not_eq_false, beq_iff_eq, beq_eq_false_iff_ne, bne_iff_ne, bne_eq_false_iff_eq, ne_eq, Int.not_lt, Int.not_le, ge_iff_le, gt_iff_lt, Decidable.not_not, reduceCtorEq, *] at hc) <;> (try (exfalso; omega)))
    | ((with_reducible apply opsF.und); (case hg => rfl))
    | ((with_reducible apply retF.r); (case hv => exact tRS))
    | ((with_reducible apply retF.nn); (case hv => exact tRS))
    | ((refine (hrc _).mono fun v h1 hp => ?_); obtain ⟨rfl, he1⟩ := hp; have hN := he1.n; have hO := he1.objs; (try simp only [alloc_n, set_n, newTok_n, bump_n] at hN hO))
    | ((refine (hde _).mono fun v h2 hp => ?_); obtain ⟨rfl, rfl⟩ := hp)
    | ((refine (hpa _).mono fun v h3 hp => ?_); obtain ⟨rfl, he3⟩ := hp; have hN := he3.n; have hO := he3.objs; (try simp only [alloc_n, set_n, newTok_n, bump_n] at hN hO))
    | ((refine (hans _).mono fun v h4 hp => ?_); obtain ⟨rfl, he4⟩ := hp; have hN := he4.n; have hO := he4.objs; (try simp only [alloc_n, set_n, newTok_n, bump_n] at hN hO)))
        all_goals simp
      · rcases (by omega : k % 2 = 0 ∨ k % 2 = 1) with h2 | h2
        all_goals rw [← Int.tmod_eq_emod_of_nonneg hk0] at h2
        · have hv : verbS ((((([77, 65, 73, 76, 32, 70, 82, 79, 77, 58, 60] ++ m) ++ [62, 32, 83, 105, 122, 101, 61]) ++ udecS n) ++ [32, 98, 111, 100, 121, 61, 56, 98, 105, 116, 109, 105, 109, 101])) = (0, ([77, 65, 73, 76], c, (n : Int), true)) := by
            have := verbS_case (l4 := [77, 65, 73, 76]) (f5 := [70, 82, 79, 77, 58]) (bd := [98, 111, 100, 121, 61, 56, 98, 105, 116, 109, 105, 109, 101]) true n hn1 (by decide) (by decide) rfl (by decide) hcc (by decide) (fun k => rfl)
            rw [← this]
            congr 1
            simp
          have hpa := fun h => Parse_call (w0 := W) hE ((((([77, 65, 73, 76, 32, 70, 82, 79, 77, 58, 60] ++ m) ++ [62, 32, 83, 105, 122, 101, 61]) ++ udecS n) ++ [32, 98, 111, 100, 121, 61, 56, 98, 105, 116, 109, 105, 109, 101])) h (by simp; omega)
          rw [hv] at hpa
          simp only [codeV, verbA] at hpa
          clear hv
          have hce : cellsEq [.str, .str, .int, .bool] [AV.v (.string (bs [77, 65, 73, 76])), AV.v (.string (bs c)), AV.v (.int .i64 (n : Int)), AV.v (.bool true)] [AV.v (.string (bs [77, 65, 73, 76])), AV.v (.string (bs c)), AV.v (.int .i64 (n : Int)), AV.v (.bool true)] = some true := by
            simp [cellsEq, cellEq]
          repeat' (first
    | ((with_reducible apply opsF.op rfl); (case hs => (first | exact tHT | exact tHS)))
    | with_reducible (first | apply opsF.nil | apply seqF.nn | apply vcF.seq | apply vcF.region | apply vcF.skip | apply vcF.ret | apply seqF.r)
    | ((with_reducible apply opsF.call); (case hx => exact tAG))
    | ((with_reducible apply opsF.want); (case hg => exact tEV); (case hb => exact tNB))
    | ((with_reducible apply opsF.skip); (case hg => exact tEV); (case hb => exact tNB))
    | (first | ((with_reducible apply opsF.case); (case hg => exact tEV)) | ((with_reducible apply vcF.cond); (case hx => exact tEV))) <;> ((intro hc; try simp only [Int.reduceLT, Int.reduceLE, Int.reduceEq, Int.reduceNe, Int.cast_ofNat_Int, Int.reduceNeg, decide_true, decide_false, not_true_eq_false, not_false_eq_true, decide_eq_true_eq, decide_eq_false_iff_not, Bool.not_eq_true', Bool.not_eq_false', Bool.not_true, Bool.not_false, Bool.false_eq_true, Bool.true_eq_false, Bool.not_eq_true, Bool.not_eq_false, beq_iff_eq, beq_eq_false_iff_ne, bne_iff_ne, bne_eq_false_iff_eq, ne_eq, Int.not_lt, Int.not_le, ge_iff_le, gt_iff_lt, Decidable.not_not, reduceCtorEq, *] at hc) <;> (try (exfalso; omega)))
    | ((with_reducible apply opsF.und); (case hg => rfl))
    | ((with_reducible apply retF.r); (case hv => exact tRS))
    | ((with_reducible apply retF.nn); (case hv => exact tRS))
    | ((refine (hrc _).mono fun v h1 hp => ?_); obtain ⟨rfl, he1⟩ := hp; have hN := he1.n; have hO := he1.objs; (try simp only [alloc_n, set_n, newTok_n, bump_n] at hN hO))
    | ((refine (hde _).mono fun v h2 hp => ?_); obtain ⟨rfl, rfl⟩ := hp)
    | ((refine (hpa _).mono fun v h3 hp => ?_); obtain ⟨rfl, he3⟩ := hp; have hN := he3.n; have hO := he3.objs; (try simp only [alloc_n, set_n, newTok_n, bump_n] at hN hO))
    | ((refine (hans _).mono fun v h4 hp => ?_); obtain ⟨rfl, he4⟩ := hp; have hN := he4.n; have hO := he4.objs; (try simp only [alloc_n, set_n, newTok_n, bump_n] at hN hO)))
          all_goals simp
        · have hv : verbS ((((([77, 65, 73, 76, 32, 70, 82, 79, 77, 58, 60] ++ m) ++ [62, 32, 83, 105, 122, 101, 61]) ++ udecS n) ++ [32, 66, 111, 100, 121, 61, 56, 66, 105, 116, 77, 105, 109, 101])) = (0, ([77, 65, 73, 76], c, (n : Int), true)) := by
            have := verbS_case (l4 := [77, 65, 73, 76]) (f5 := [70, 82, 79, 77, 58]) (bd := [66, 111, 100, 121, 61, 56, 66, 105, 116, 77, 105, 109, 101]) true n hn1 (by decide) (by decide) rfl (by decide) hcc (by decide) (fun k => rfl)
            rw [← this]
            congr 1
            simp
          have hpa := fun h => Parse_call (w0 := W) hE ((((([77, 65, 73, 76, 32, 70, 82, 79, 77, 58, 60] ++ m) ++ [62, 32, 83, 105, 122, 101, 61]) ++ udecS n) ++ [32, 66, 111, 100, 121, 61, 56, 66, 105, 116, 77, 105, 109, 101])) h (by simp; omega)
          rw [hv] at hpa
          simp only [codeV, verbA] at hpa
          clear hv
          have hce : cellsEq [.str, .str, .int, .bool] [AV.v (.string (bs [77, 65, 73, 76])), AV.v (.string (bs c)), AV.v (.int .i64 (n : Int)), AV.v (.bool true)] [AV.v (.string (bs [77, 65, 73, 76])), AV.v (.string (bs c)), AV.v (.int .i64 (n : Int)), AV.v (.bool true)] = some true := by
            simp [cellsEq, cellEq]
          repeat' (first
    | ((with_reducible apply opsF.op rfl); (case hs => (first | exact tHT | exact tHS)))
    | with_reducible (first | apply opsF.nil | apply seqF.nn | apply vcF.seq | apply vcF.region | apply vcF.skip | apply vcF.ret | apply seqF.r)
    | ((with_reducible apply opsF.call); (case hx => exact tAG))
    | ((with_reducible apply opsF.want); (case hg => exact tEV); (case hb => exact tNB))
    | ((with_reducible apply opsF.skip); (case hg => exact tEV); (case hb => exact tNB))
    | (first | ((with_reducible apply opsF.case); (case hg => exact tEV)) | ((with_reducible apply vcF.cond); (case hx => exact tEV))) <;> ((intro hc; try simp only [Int.reduceLT, Int.reduceLE, Int.reduceEq, Int.reduceNe, Int.cast_ofNat_Int, Int.reduceNeg, decide_true, decide_false, not_true_eq_false, not_false_eq_true, decide_eq_true_eq, decide_eq_false_iff_not, Bool.not_eq_true', Bool.not_eq_false', Bool.not_true, Bool.not_false, Bool.false_eq_true, Bool.true_eq_false, Bool.not_eq_true, Bool.not_eq_false, beq_iff_eq, beq_eq_false_iff_ne, bne_iff_ne, bne_eq_false_iff_eq, ne_eq, Int.not_lt, Int.not_le, ge_iff_le, gt_iff_lt, Decidable.not_not, reduceCtorEq, *] at hc) <;> (try (exfalso; omega)))
    | ((with_reducible apply opsF.und); (case hg => rfl))
    | ((with_reducible apply retF.r); (case hv => exact tRS))
    | ((with_reducible apply retF.nn); (case hv => exact tRS))
    | ((refine (hrc _).mono fun v h1 hp => ?_); obtain ⟨rfl, he1⟩ := hp; have hN := he1.n; have hO := he1.objs; (try simp only [alloc_n, set_n, newTok_n, bump_n] at hN hO))
    | ((refine (hde _).mono fun v h2 hp => ?_); obtain ⟨rfl, rfl⟩ := hp)
    | ((refine (hpa _).mono fun v h3 hp => ?_); obtain ⟨rfl, he3⟩ := hp; have hN := he3.n; have hO := he3.objs; (try simp only [alloc_n, set_n, newTok_n, bump_n] at hN hO))
    | ((refine (hans _).mono fun v h4 hp => ?_); obtain ⟨rfl, he4⟩ := hp; have hN := he4.n; have hO := he4.objs; (try simp only [alloc_n, set_n, newTok_n, bump_n] at hN hO)))
          all_goals simp
    · cases wd
      · have hv : verbS ((((([77, 97, 105, 108, 32, 70, 114, 111, 109, 58, 60] ++ m) ++ [62, 32, 83, 105, 122, 101, 61]) ++ udecS n) ++ [32, 98, 111, 100, 121, 61, 55, 98, 105, 116])) = (0, ([77, 65, 73, 76], c, (n : Int), false)) := by
          have := verbS_case (l4 := [77, 97, 105, 108]) (f5 := [70, 114, 111, 109, 58]) (bd := [98, 111, 100, 121, 61, 55, 98, 105, 116]) false n hn1 (by decide) (by decide) rfl (by decide) hcc (by decide) (fun k => rfl)
          rw [← this]
          congr 1
          simp
        have hpa := fun h => Parse_call (w0 := W) hE ((((([77, 97, 105, 108, 32, 70, 114, 111, 109, 58, 60] ++ m) ++ [62, 32, 83, 105, 122, 101, 61]) ++ udecS n) ++ [32, 98, 111, 100, 121, 61, 55, 98, 105, 116])) h (by simp; omega)
        rw [hv] at hpa
        simp only [codeV, verbA] at hpa
        clear hv
        have hce : cellsEq [.str, .str, .int, .bool] [AV.v (.string (bs [77, 65, 73, 76])), AV.v (.string (bs c)), AV.v (.int .i64 (n : Int)), AV.v (.bool false)] [AV.v (.string (bs [77, 65, 73, 76])), AV.v (.string (bs c)), AV.v (.int .i64 (n : Int)), AV.v (.bool false)] = some true := by
          simp [cellsEq, cellEq]
        repeat' (first
    | ((with_reducible apply opsF.op rfl); (case hs => (first | exact tHT | exact tHS)))
    | with_reducible (first | apply opsF.nil | apply seqF.nn | apply vcF.seq | apply vcF.region | apply vcF.skip | apply vcF.ret | apply seqF.r)
    | ((with_reducible apply opsF.call); (case hx => exact tAG))
    | ((with_reducible apply opsF.want); (case hg => exact tEV); (case hb => exact tNB))
    | ((with_reducible apply opsF.skip); (case hg => exact tEV); (case hb => exact tNB))
    | (first | ((with_reducible apply opsF.case); (case hg => exact tEV)) | ((with_reducible apply vcF.cond); (case hx => exact tEV))) <;> ((intro hc; try simp only [Int.reduceLT, Int.reduceLE, Int.reduceEq, Int.reduceNe, Int.cast_ofNat_Int, Int.reduceNeg, decide_true, decide_false, not_true_eq_false, not_false_eq_true, decide_eq_true_eq, decide_eq_false_iff_not, Bool.not_eq_true', Bool.not_eq_false', Bool.not_true, Bool.not_false, Bool.false_eq_true, Bool.true_eq_false, Bool.not_eq_true, Bool.not_eq_false, beq_iff_eq, beq_eq_false_iff_ne, bne_iff_ne, bne_eq_false_iff_eq, ne_eq, Int.not_lt, Int.not_le, ge_iff_le, gt_iff_lt, Decidable.not_not, reduceCtorEq, *] at hc) <;> (try (exfalso; omega)))
    | ((with_reducible apply opsF.und); (case hg => rfl))
    | ((with_reducible apply retF.r); (case hv => exact tRS))
    | ((with_reducible apply retF.nn); (case hv => exact tRS))
    | ((refine (hrc _).mono fun v h1 hp => ?_); obtain ⟨rfl, he1⟩ := hp; have hN := he1.n; have hO := he1.objs; (try simp only [alloc_n, set_n, newTok_n, bump_n] at hN hO))
    | ((refine (hde _).mono fun v h2 hp => ?_); obtain ⟨rfl, rfl⟩ := hp)
    | ((refine (hpa _).mono fun v h3 hp => ?_); obtain ⟨rfl, he3⟩ := hp; have hN := he3.n; have hO := he3.objs; (try simp only [alloc_n, set_n, newTok_n, bump_n] at hN hO))
    | ((refine (hans _).mono fun v h4 hp => ?_); obtain ⟨rfl, he4⟩ := hp; have hN := he4.n; have hO := he4.objs; (try simp only [alloc_n, set_n, newTok_n, bump_n] at hN hO)))
        all_goals simp
      · rcases (by omega : k % 2 = 0 ∨ k % 2 = 1) with h2 | h2
        all_goals rw [← Int.tmod_eq_emod_of_nonneg hk0] at h2
        · have hv : verbS ((((([77, 97, 105, 108, 32, 70, 114, 111, 109, 58, 60] ++ m) ++ [62, 32, 83, 105, 122, 101, 61]) ++ udecS n) ++ [32, 98, 111, 100, 121, 61, 56, 98, 105, 116, 109, 105, 109, 101])) = (0, ([77, 65, 73, 76], c, (n : Int), true)) := by
            have := verbS_case (l4 := [77, 97, 105, 108]) (f5 := [70, 114, 111, 109, 58]) (bd := [98, 111, 100, 121, 61, 56, 98, 105, 116, 109, 105, 109, 101]) true n hn1 (by decide) (by decide) rfl (by decide) hcc (by decide) (fun k => rfl)
            rw [← this]
            congr 1
            simp
          have hpa := fun h => Parse_call (w0 := W) hE ((((([77, 97, 105, 108, 32, 70, 114, 111, 109, 58, 60] ++ m) ++ [62, 32, 83, 105, 122, 101, 61]) ++ udecS n) ++ [32, 98, 111, 100, 121, 61, 56, 98, 105, 116, 109, 105, 109, 101])) h (by simp; omega)
          rw [hv] at hpa
          simp only [codeV, verbA] at hpa
          clear hv
          have hce : cellsEq [.str, .str, .int, .bool] [AV.v (.string (bs [77, 65, 73, 76])), AV.v (.string (bs c)), AV.v (.int .i64 (n : Int)), AV.v (.bool true)] [AV.v (.string (bs [77, 65, 73, 76])), AV.v (.string (bs c)), AV.v (.int .i64 (n : Int)), AV.v (.bool true)] = some true := by
            simp [cellsEq, cellEq]
          repeat' (first
    | ((with_reducible apply opsF.op rfl); (case hs => (first | exact tHT | exact tHS)))
    | with_reducible (first | apply opsF.nil | apply seqF.nn | apply vcF.seq | apply vcF.region | apply vcF.skip | apply vcF.ret | apply seqF.r)
    | ((with_reducible apply opsF.call); (case hx => exact tAG))
    | ((with_reducible apply opsF.want); (case hg => exact tEV); (case hb => exact tNB))
    | ((with_reducible apply opsF.skip); (case hg => exact tEV); (case hb => exact tNB))
    | (first | ((with_reducible apply opsF.case); (case hg => exact tEV)) | ((with_reducible apply vcF.cond); (case hx => exact tEV))) <;> ((intro hc; try simp only [Int.reduceLT, Int.reduceLE, Int.reduceEq, Int.reduceNe, Int.cast_ofNat_Int, Int.reduceNeg, decide_true, decide_false, not_true_eq_false, not_false_eq_true, decide_eq_true_eq, decide_eq_false_iff_not, Bool.not_eq_true', Bool.not_eq_false', Bool.not_true, Bool.not_false, Bool.false_eq_true, Bool.true_eq_false, Bool.not_eq_true, Bool.not_eq_false, beq_iff_eq, beq_eq_false_iff_ne, bne_iff_ne, bne_eq_false_iff_eq, ne_eq, Int.not_lt, Int.not_le, ge_iff_le, gt_iff_lt, Decidable.not_not, reduceCtorEq, *] at hc) <;> (try (exfalso; omega)))
    | ((with_reducible apply opsF.und); (case hg => rfl))
    | ((with_reducible apply retF.r); (case hv => exact tRS))
    | ((with_reducible apply retF.nn); (case hv => exact tRS))
    | ((refine (hrc _).mono fun v h1 hp => ?_); obtain ⟨rfl, he1⟩ := hp; have hN := he1.n; have hO := he1.objs; (try simp only [alloc_n, set_n, newTok_n, bump_n] at hN hO))
    | ((refine (hde _).mono fun v h2 hp => ?_); obtain ⟨rfl, rfl⟩ := hp)
    | ((refine (hpa _).mono fun v h3 hp => ?_); obtain ⟨rfl, he3⟩ := hp; have hN := he3.n; have hO := he3.objs; (try simp only [alloc_n, set_n, newTok_n, bump_n] at hN hO))
    | ((refine (hans _).mono fun v h4 hp => ?_); obtain ⟨rfl, he4⟩ := hp; have hN := he4.n; have hO := he4.objs; (try simp only [alloc_n, set_n, newTok_n, bump_n] at hN hO)))
          all_goals simp
        · have hv : verbS ((((([77, 97, 105, 108, 32, 70, 114, 111, 109, 58, 60] ++ m) ++ [62, 32, 83, 105, 122, 101, 61]) ++ udecS n) ++ [32, 66, 111, 100, 121, 61, 56, 66, 105, 116, 77, 105, 109, 101])) = (0, ([77, 65, 73, 76], c, (n : Int), true)) := by
            have := verbS_case (l4 := [77, 97, 105, 108]) (f5 := [70, 114, 111, 109, 58]) (bd := [66, 111, 100, 121, 61, 56, 66, 105, 116, 77, 105, 109, 101]) true n hn1 (by decide) (by decide) rfl (by decide) hcc (by decide) (fun k => rfl)
            rw [← this]
            congr 1
            simp
          have hpa := fun h => Parse_call (w0 := W) hE ((((([77, 97, 105, 108, 32, 70, 114, 111, 109, 58, 60] ++ m) ++ [62, 32, 83, 105, 122, 101, 61]) ++ udecS n) ++ [32, 66, 111, 100, 121, 61, 56, 66, 105, 116, 77, 105, 109, 101])) h (by simp; omega)
          rw [hv] at hpa
          simp only [codeV, verbA] at hpa
          clear hv
          have hce : cellsEq [.str, .str, .int, .bool] [AV.v (.string (bs [77, 65, 73, 76])), AV.v (.string (bs c)), AV.v (.int .i64 (n : Int)), AV.v (.bool true)] [AV.v (.string (bs [77, 65, 73, 76])), AV.v (.string (bs c)), AV.v (.int .i64 (n : Int)), AV.v (.bool true)] = some true := by
            simp [cellsEq, cellEq]
          repeat' (first
    | ((with_reducible apply opsF.op rfl); (case hs => (first | exact tHT | exact tHS)))
    | with_reducible (first | apply opsF.nil | apply seqF.nn | apply vcF.seq | apply vcF.region | apply vcF.skip | apply vcF.ret | apply seqF.r)
    | ((with_reducible apply opsF.call); (case hx => exact tAG))
    | ((with_reducible apply opsF.want); (case hg => exact tEV); (case hb => exact tNB))
    | ((with_reducible apply opsF.skip); (case hg => exact tEV); (case hb => exact tNB))
    | (first | ((with_reducible apply opsF.case); (case hg => exact tEV)) | ((with_reducible apply vcF.cond); (case hx => exact tEV))) <;> ((intro hc; try simp only [Int.reduceLT, Int.reduceLE, Int.reduceEq, Int.reduceNe, Int.cast_ofNat_Int, Int.reduceNeg, decide_true, decide_false, not_true_eq_false, not_false_eq_true, decide_eq_true_eq, decide_eq_false_iff_not, Bool.not_eq_true', Bool.not_eq_false', Bool.not_true, Bool.not_false, Bool.false_eq_true, Bool.true_eq_false, Bool.not_eq_true, Bool.not_eq_false, beq_iff_eq, beq_eq_false_iff_ne, bne_iff_ne, bne_eq_false_iff_eq, ne_eq, Int.not_lt, Int.not_le, ge_iff_le, gt_iff_lt, Decidable.not_not, reduceCtorEq, *] at hc) <;> (try (exfalso; omega)))
    | ((with_reducible apply opsF.und); (case hg => rfl))
    | ((with_reducible apply retF.r); (case hv => exact tRS))
    | ((with_reducible apply retF.nn); (case hv => exact tRS))
    | ((refine (hrc _).mono fun v h1 hp => ?_); obtain ⟨rfl, he1⟩ := hp; have hN := he1.n; have hO := he1.objs; (try simp only [alloc_n, set_n, newTok_n, bump_n] at hN hO))
    | ((refine (hde _).mono fun v h2 hp => ?_); obtain ⟨rfl, rfl⟩ := hp)
    | ((refine (hpa _).mono fun v h3 hp => ?_); obtain ⟨rfl, he3⟩ := hp; have hN := he3.n; have hO := he3.objs; (try simp only [alloc_n, set_n, newTok_n, bump_n] at hN hO))
    | ((refine (hans _).mono fun v h4 hp => ?_); obtain ⟨rfl, he4⟩ := hp; have hN := he4.n; have hO := he4.objs; (try simp only [alloc_n, set_n, newTok_n, bump_n] at hN hO)))
          all_goals simp
theorem u32_in {n : Int} (h : (Lit.int .u32 n).wf = true) : 0 ≤ n ∧ n < 4294967296 := by
  simp [Lit.wf, IntKind.min, IntKind.max, IntKind.signed, IntKind.bits] at h
  exact ⟨by omega, by omega⟩
theorem u8_in {n : Int} (h : (Lit.int .u8 n).wf = true) : 0 ≤ n ∧ n < 256 := by
  simp [Lit.wf, IntKind.min, IntKind.max, IntKind.signed, IntKind.bits] at h
  exact ⟨by omega, by omega⟩
theorem law_VerbCases (W : World) (hL : laidMetH P Go.Proofs.YtbakofbljfhoiaaDoor.Rows.verbCasesRow.laid W) (x0 : Ty.str.D) (h0 : Ty.str.wf x0) (g0 : Ty.str.fit 140737488351232 x0) (x1 : (Ty.int .u32).D) (h1 : (Ty.int .u32).wf x1) (g1 : (Ty.int .u32).fit 140737488351232 x1)
    (x2 : Ty.bool.D) (h2 : Ty.bool.wf x2) (g2 : Ty.bool.fit 140737488351232 x2) (x3 : (Ty.int .u8).D) (h3 : (Ty.int .u8).wf x3) (g3 : (Ty.int .u8).fit 140737488351232 x3) :
    Call P W law03_VerbCases [Ty.str.val x0, (Ty.int .u32).val x1, Ty.bool.val x2, (Ty.int .u8).val x3] AH.start fun v _ => v = .v (.bool true) :=
  cases_main W (errVars_of hL (by kernel_rfl) (by kernel_rfl)) x0 x1 x2 x3 g0 (u32_in h1).1 (u32_in h1).2 (u8_in h3).1 (u8_in h3).2
end Go.Abs.F
