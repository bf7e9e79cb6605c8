/- Layer 26: steps printed are read again. -/
import Derived.Test.YthmfeheegoalfaaDoorScl
namespace Go.Abs.F
open Go Go.Abs
set_option maxRecDepth 10000
set_option maxHeartbeats 20000000
set_option linter.unusedSimpArgs false
set_option linter.unusedVariables false
variable {w0 : World}
abbrev StT : Ty := .pair (.int .i64) (.pair (.int .i64) (.pair (.int .i64) (.pair .str .unit)))
theorem inR_wf {n : Int} (h : (Lit.int .i64 n).wf = true) : inR n := by
  simp [Lit.wf, IntKind.min, IntKind.max, IntKind.signed, IntKind.bits] at h
  exact ⟨by omega, by omega⟩
structure LsIn (ls : List St) : Prop where
  len : ls.length ≤ 140737488351232
  txt : ∀ x ∈ ls, x.2.2.2.length ≤ 140737488351232
  rk : ∀ x ∈ ls, inR x.1
  ra : ∀ x ∈ ls, inR x.2.1
  rb : ∀ x ∈ ls, inR x.2.2.1
theorem len_map {α β : Type} (f : α → β) (l : List α) {k : Nat} (h : l.length ≤ k) : (l.map f).length ≤ k := by simpa using h
theorem steps_ty (l : (Ty.slice StT).D) (hw : (Ty.slice StT).wf l) (hf : (Ty.slice StT).fit 140737488351232 l) : ∃ ls : List St, (Ty.slice StT).val l = .list 4 (trows ls) .no ∧ LsIn ls := by
  have hm : ∀ y ∈ List.map (fun x : StT.D => (((x.1 : Int), (x.2.1 : Int), (x.2.2.1 : Int), (x.2.2.2.1 : List UInt8)) : St)) l, ∃ x, List.Mem x l ∧ (((x.1 : Int), (x.2.1 : Int), (x.2.2.1 : Int), (x.2.2.2.1 : List UInt8)) : St) = y := fun y hy => List.mem_map.1 hy
  refine ⟨List.map (fun x : StT.D => (((x.1 : Int), (x.2.1 : Int), (x.2.2.1 : Int), (x.2.2.2.1 : List UInt8)) : St)) l, ?_, ?_, ?_, ?_, ?_, ?_⟩
  · simp only [Ty.val, trows]
    congr 1
    exact (List.map_map (l := l) (f := fun x : StT.D => (((x.1 : Int), (x.2.1 : Int), (x.2.2.1 : Int), (x.2.2.2.1 : List UInt8)) : St)) (g := fun x : St => [AV.v (.int .i64 x.1), AV.v (.int .i64 x.2.1), AV.v (.int .i64 x.2.2.1), AV.v (.string (bs x.2.2.2))])).symm
  · exact len_map _ l hf.1
  · intro y hy
    obtain ⟨x, hx, rfl⟩ := hm y hy
    exact (hf.2 x hx).2.2.2.1
  · intro y hy
    obtain ⟨x, hx, rfl⟩ := hm y hy
    exact inR_wf (hw.2 x hx).1
  · intro y hy
    obtain ⟨x, hx, rfl⟩ := hm y hy
    exact inR_wf (hw.2 x hx).2.1
  · intro y hy
    obtain ⟨x, hx, rfl⟩ := hm y hy
    exact inR_wf (hw.2 x hx).2.2.1
theorem mem_txt : ∀ {l : List St} {x : St}, x ∈ l → x.2.2.2.length ≤ txtSum l
  | y :: l, x, h => by
    rcases List.mem_cons.1 h with rfl | h
    · simp only [txtSum]; omega
    · have := mem_txt h
      simp only [txtSum]; omega
theorem LsIn.ok {ls : List St} (h : LsIn ls) (hs : smallS ls = true) : StOk ls := by
  rw [smallS, decide_eq_true_eq] at hs
  exact ⟨by omega, fun x hx => by have := mem_txt hx; omega, h.rk, h.ra, h.rb⟩
theorem stepsS_le : ∀ {l : List St}, (∀ x ∈ l, inR x.1) → (∀ x ∈ l, inR x.2.1) → (∀ x ∈ l, inR x.2.2.1) → (stepsS l).length ≤ 100 * l.length + 2 * txtSum l
  | [], _, _, _ => Nat.le_refl _
  | x :: l, h1, h2, h3 => by
    have ih := stepsS_le (l := l) (fun y hy => h1 y (List.mem_cons_of_mem _ hy)) (fun y hy => h2 y (List.mem_cons_of_mem _ hy)) (fun y hy => h3 y (List.mem_cons_of_mem _ hy))
    have a := decS_len _ (h1 x (by simp)).1 (h1 x (by simp)).2
    have b := decS_len _ (h2 x (by simp)).1 (h2 x (by simp)).2
    have c := decS_len _ (h3 x (by simp)).1 (h3 x (by simp)).2
    have d := hexS_len x.2.2.2
    simp only [stepsS, stepS, joinB, wordsS, List.length_append, List.length_cons, List.length_nil, txtSum]
    omega
theorem printS_le {n : Int} {l : List St} (hn : inR n) (h : LsIn l) : (printS n l).length ≤ 100 + 100 * l.length + 2 * txtSum l := by
  have := stepsS_le h.rk h.ra h.rb
  have a := decS_len _ hn.1 hn.2
  simp only [printS, roomS, joinB, List.length_append, List.length_cons, List.length_nil]
  omega
theorem back_main (W : World) (hT : PowTab W) (hE : ErrVars W) (n : Int) (hn : inR n) (ls : List St) (hl : LsIn ls) : Call P W law26_ScriptBack [.v (.int .i64 n), .list 4 (trows ls) .no] AH.start fun v _ => v = .v (.bool true) := by
  have xl := trows_len
  have xg := trows_get
  have hsm := fun h => small_call (w0 := W) ls .no h (by have := hl.len; omega) (fun x hx => by have := hl.txt x hx; omega)
  have hans := fun h => answers_call (w0 := W) hT hE h
  refine Call.bodyF b_law26_ScriptBack rfl rfl ?_
  unfold c_law26_ScriptBack
  cases hs : smallS ls with
  | false =>
    rw [hs] at hsm
    repeat' (first
    | ((with_reducible apply opsF.op rfl); (case hs => (first | exact tHT | exact tHS)))
    | with_reducible (first | apply opsF.nil | apply seqF.nn | apply vcF.seq | apply vcF.region | apply vcF.dregion | apply vcF.skip | apply vcF.block | apply vcF.exit | apply vcF.ret | apply vcF.loop | apply seqF.e | apply seqF.r | apply blkF.nn | apply blkF.e | apply blkF.r | apply blkF.o rfl | apply dopsF.nil | apply stabsF.nil | apply stabsF.cons | apply dopsF.cont)
    | ((with_reducible apply opsF.call); (case hx => exact tAG))
    | ((with_reducible apply opsF.want); (case hg => exact tEV); (case hb => exact tNB))
    | ((with_reducible apply opsF.skip); (case hg => exact tEV); (case hb => exact tNB))
    | (first | ((with_reducible apply opsF.case); (case hg => exact tEV)) | ((with_reducible apply vcF.cond); (case hx => exact tEV)) | ((with_reducible apply dopsF.case); (case hg => exact tEV))) <;> ((intro hc; try simp only [Int.reduceLT, Int.reduceLE, Int.reduceEq, Int.reduceNe, Int.cast_ofNat_Int, Int.reduceNeg, decide_true, decide_false, not_true_eq_false, not_false_eq_true, decide_eq_true_eq, decide_eq_false_iff_not, Bool.not_eq_true', Bool.not_eq_false', Bool.not_true, Bool.not_false, Bool.false_eq_true, Bool.true_eq_false, Bool.not_eq_true, Bool.not_eq_false, beq_iff_eq, beq_eq_false_iff_ne, bne_iff_ne, bne_eq_false_iff_eq, ne_eq, Int.not_lt, Int.not_le, ge_iff_le, gt_iff_lt, Decidable.not_not, reduceCtorEq, *] at hc) <;> (try (exfalso; omega)))
    | ((with_reducible apply opsF.und); (case hg => rfl))
    | ((with_reducible apply opsF.callv); (case hf => exact tEV); (case hx => exact tCV))
    | ((with_reducible apply dopsF.op rfl); (case hs => (first | exact tHT | exact tHS)))
    | ((with_reducible apply dopsF.call); (case hx => exact tAG))
    | ((with_reducible apply dopsF.want); (case hg => exact tEV); (case hb => exact tNB))
    | ((with_reducible apply dopsF.skip); (case hg => exact tEV); (case hb => exact tNB))
    | ((with_reducible apply dopsF.und); (case hg => rfl))
    | ((with_reducible apply stabF.und); rfl)
    | ((with_reducible apply stabF.want); (case hg => exact tEV); (case hb => exact tNB))
    | ((with_reducible apply stabF.skip); (case hg => exact tEV); (case hb => exact tNB))
    | ((with_reducible apply stabF.op); (case hs => (first | exact tHT | exact tHS)); (case hv => exact tSV))
    | ((with_reducible apply retF.r); (case hv => exact tRS))
    | ((with_reducible apply retF.nn); (case hv => exact tRS))
    | ((refine (hsm _).mono fun v h1 hp => ?_); obtain ⟨rfl, rfl⟩ := hp)
    | ((refine (hans _).mono fun v h1 hp => ?_); obtain ⟨rfl, he⟩ := hp; have hN := he.n; have hO := he.objs; (try simp only [alloc_n, set_n, newTok_n, bump_n] at hN hO)))
    all_goals rfl
  | true =>
    have hok := hl.ok hs
    rw [hs] at hsm
    have hpl := printS_le hn hl
    rw [smallS, decide_eq_true_eq] at hs
    cases hg : goodS n ls with
    | false =>
      have hpv : printV n ls = .tup [.v (.string (bs [])), .v (.int .i64 2)] := by rw [printV, hg]; rfl
      repeat' (first
    | ((with_reducible apply opsF.op rfl); (case hs => (first | exact tHT | exact tHS)))
    | with_reducible (first | apply opsF.nil | apply seqF.nn | apply vcF.seq | apply vcF.region | apply vcF.dregion | apply vcF.skip | apply vcF.block | apply vcF.exit | apply vcF.ret | apply vcF.loop | apply seqF.e | apply seqF.r | apply blkF.nn | apply blkF.e | apply blkF.r | apply blkF.o rfl | apply dopsF.nil | apply stabsF.nil | apply stabsF.cons | apply dopsF.cont)
    | ((with_reducible apply opsF.call); (case hx => exact tAG))
    | ((with_reducible apply opsF.want); (case hg => exact tEV); (case hb => exact tNB))
    | ((with_reducible apply opsF.skip); (case hg => exact tEV); (case hb => exact tNB))
    | (first | ((with_reducible apply opsF.case); (case hg => exact tEV)) | ((with_reducible apply vcF.cond); (case hx => exact tEV)) | ((with_reducible apply dopsF.case); (case hg => exact tEV))) <;> ((intro hc; try simp only [Int.reduceLT, Int.reduceLE, Int.reduceEq, Int.reduceNe, Int.cast_ofNat_Int, Int.reduceNeg, decide_true, decide_false, not_true_eq_false, not_false_eq_true, decide_eq_true_eq, decide_eq_false_iff_not, Bool.not_eq_true', Bool.not_eq_false', Bool.not_true, Bool.not_false, Bool.false_eq_true, Bool.true_eq_false, Bool.not_eq_true, Bool.not_eq_false, beq_iff_eq, beq_eq_false_iff_ne, bne_iff_ne, bne_eq_false_iff_eq, ne_eq, Int.not_lt, Int.not_le, ge_iff_le, gt_iff_lt, Decidable.not_not, reduceCtorEq, *] at hc) <;> (try (exfalso; omega)))
    | ((with_reducible apply opsF.und); (case hg => rfl))
    | ((with_reducible apply opsF.callv); (case hf => exact tEV); (case hx => exact tCV))
    | ((with_reducible apply dopsF.op rfl); (case hs => (first | exact tHT | exact tHS)))
    | ((with_reducible apply dopsF.call); (case hx => exact tAG))
    | ((with_reducible apply dopsF.want); (case hg => exact tEV); (case hb => exact tNB))
    | ((with_reducible apply dopsF.skip); (case hg => exact tEV); (case hb => exact tNB))
    | ((with_reducible apply dopsF.und); (case hg => rfl))
    | ((with_reducible apply stabF.und); rfl)
    | ((with_reducible apply stabF.want); (case hg => exact tEV); (case hb => exact tNB))
    | ((with_reducible apply stabF.skip); (case hg => exact tEV); (case hb => exact tNB))
    | ((with_reducible apply stabF.op); (case hs => (first | exact tHT | exact tHS)); (case hv => exact tSV))
    | ((with_reducible apply retF.r); (case hv => exact tRS))
    | ((with_reducible apply retF.nn); (case hv => exact tRS))
    | ((refine (hsm _).mono fun v h1 hp => ?_); obtain ⟨rfl, rfl⟩ := hp)
    | ((refine (hans _).mono fun v h1 hp => ?_); obtain ⟨rfl, he⟩ := hp; have hN := he.n; have hO := he.objs; (try simp only [alloc_n, set_n, newTok_n, bump_n] at hN hO))
    | ((refine (pprint_call hT n ls .no _ hn hok).mono fun v h1 hp => ?_); rw [hpv] at hp; obtain ⟨rfl, he⟩ := hp; have hN := he.n; have hO := he.objs; (try simp only [alloc_n, set_n, newTok_n, bump_n] at hN hO))
    | ((refine (rgood_call n ls .no _ (by omega)).mono fun v h1 hp => ?_); rw [hg] at hp; obtain ⟨rfl, he⟩ := hp; have hN := he.n; have hO := he.objs; (try simp only [alloc_n, set_n, newTok_n, bump_n] at hN hO)))
      all_goals simp
    | true =>
      have hpv : printV n ls = .tup [.v (.string (bs (printS n ls))), .v (.int .i64 0)] := by rw [printV, hg]; rfl
      have hps := parseS_print hg
      have hpr := fun h => rprint_call (w0 := W) n ls .no h hn hok
      have hpa := fun h => parse_call (w0 := W) hT hE (printS n ls) h (by omega)
      rw [hps] at hpa
      simp only [parV, if_true] at hpa
      generalize printS n ls = s at *
      repeat' (first
    | ((with_reducible apply opsF.op rfl); (case hs => (first | exact tHT | exact tHS)))
    | with_reducible (first | apply opsF.nil | apply seqF.nn | apply vcF.seq | apply vcF.region | apply vcF.dregion | apply vcF.skip | apply vcF.block | apply vcF.exit | apply vcF.ret | apply vcF.loop | apply seqF.e | apply seqF.r | apply blkF.nn | apply blkF.e | apply blkF.r | apply blkF.o rfl | apply dopsF.nil | apply stabsF.nil | apply stabsF.cons | apply dopsF.cont)
    | ((with_reducible apply opsF.call); (case hx => exact tAG))
    | ((with_reducible apply opsF.want); (case hg => exact tEV); (case hb => exact tNB))
    | ((with_reducible apply opsF.skip); (case hg => exact tEV); (case hb => exact tNB))
    | (first | ((with_reducible apply opsF.case); (case hg => exact tEV)) | ((with_reducible apply vcF.cond); (case hx => exact tEV)) | ((with_reducible apply dopsF.case); (case hg => exact tEV))) <;> ((intro hc; try simp only [Int.reduceLT, Int.reduceLE, Int.reduceEq, Int.reduceNe, Int.cast_ofNat_Int, Int.reduceNeg, decide_true, decide_false, not_true_eq_false, not_false_eq_true, decide_eq_true_eq, decide_eq_false_iff_not, Bool.not_eq_true', Bool.not_eq_false', Bool.not_true, Bool.not_false, Bool.false_eq_true, Bool.true_eq_false, Bool.not_eq_true, Bool.not_eq_false, beq_iff_eq, beq_eq_false_iff_ne, bne_iff_ne, bne_eq_false_iff_eq, ne_eq, Int.not_lt, Int.not_le, ge_iff_le, gt_iff_lt, Decidable.not_not, reduceCtorEq, *] at hc) <;> (try (exfalso; omega)))
    | ((with_reducible apply opsF.und); (case hg => rfl))
    | ((with_reducible apply opsF.callv); (case hf => exact tEV); (case hx => exact tCV))
    | ((with_reducible apply dopsF.op rfl); (case hs => (first | exact tHT | exact tHS)))
    | ((with_reducible apply dopsF.call); (case hx => exact tAG))
    | ((with_reducible apply dopsF.want); (case hg => exact tEV); (case hb => exact tNB))
    | ((with_reducible apply dopsF.skip); (case hg => exact tEV); (case hb => exact tNB))
    | ((with_reducible apply dopsF.und); (case hg => rfl))
    | ((with_reducible apply stabF.und); rfl)
    | ((with_reducible apply stabF.want); (case hg => exact tEV); (case hb => exact tNB))
    | ((with_reducible apply stabF.skip); (case hg => exact tEV); (case hb => exact tNB))
    | ((with_reducible apply stabF.op); (case hs => (first | exact tHT | exact tHS)); (case hv => exact tSV))
    | ((with_reducible apply retF.r); (case hv => exact tRS))
    | ((with_reducible apply retF.nn); (case hv => exact tRS))
    | ((refine (hsm _).mono fun v h1 hp => ?_); obtain ⟨rfl, rfl⟩ := hp)
    | ((refine (hans _).mono fun v h1 hp => ?_); obtain ⟨rfl, he⟩ := hp; have hN := he.n; have hO := he.objs; (try simp only [alloc_n, set_n, newTok_n, bump_n] at hN hO))
    | ((refine (pprint_call hT n ls .no _ hn hok).mono fun v h1 hp => ?_); rw [hpv] at hp; obtain ⟨rfl, he⟩ := hp; have hN := he.n; have hO := he.objs; (try simp only [alloc_n, set_n, newTok_n, bump_n] at hN hO))
    | ((refine (rgood_call n ls .no _ (by omega)).mono fun v h1 hp => ?_); rw [hg] at hp; obtain ⟨rfl, he⟩ := hp; have hN := he.n; have hO := he.objs; (try simp only [alloc_n, set_n, newTok_n, bump_n] at hN hO))
    | ((refine (hpr _).mono fun v h1 hp => ?_); obtain ⟨rfl, he⟩ := hp; have hN := he.n; have hO := he.objs; (try simp only [alloc_n, set_n, newTok_n, bump_n] at hN hO))
    | ((refine (hpa _).mono fun v h1 hp => ?_); obtain ⟨⟨tk, rfl⟩, he⟩ := hp; have hN := he.n; have hO := he.objs; (try simp only [alloc_n, set_n, newTok_n, bump_n] at hN hO)))
      refine LpF.ind rfl (fun i : Nat => ls.length - i) (fun i σ h' => σ 1 = .list 4 (trows ls) .no ∧ σ 8 = .list 4 (trows ls) tk ∧ σ 11 = .v (.int .i64 (i : Nat)) ∧ i ≤ ls.length) ?_ (i := 0) ⟨rfl, rfl, rfl, Nat.zero_le _⟩
      rintro i σ h' ⟨h1, h8, h11, hi⟩
      rcases Nat.lt_or_ge i ls.length with hlt | hge
      · obtain ⟨x, hx⟩ : ∃ x, ls[i]? = some x := ⟨_, List.getElem?_eq_getElem hlt⟩
        have hce : cellsEq [.int, .int, .int, .str] [AV.v (.int .i64 x.1), AV.v (.int .i64 x.2.1), AV.v (.int .i64 x.2.2.1), AV.v (.string (bs x.2.2.2))] [AV.v (.int .i64 x.1), AV.v (.int .i64 x.2.1), AV.v (.int .i64 x.2.2.1), AV.v (.string (bs x.2.2.2))] = some true := by
          simp [cellsEq, cellEq]
        repeat' (first
    | ((with_reducible apply opsF.op rfl); (case hs => (first | exact tHT | exact tHS)))
    | with_reducible (first | apply opsF.nil | apply seqF.nn | apply vcF.seq | apply vcF.region | apply vcF.dregion | apply vcF.skip | apply vcF.block | apply vcF.exit | apply vcF.ret | apply vcF.loop | apply seqF.e | apply seqF.r | apply blkF.nn | apply blkF.e | apply blkF.r | apply blkF.o rfl | apply dopsF.nil | apply stabsF.nil | apply stabsF.cons | apply dopsF.cont)
    | ((with_reducible apply opsF.call); (case hx => exact tAG))
    | ((with_reducible apply opsF.want); (case hg => exact tEV); (case hb => exact tNB))
    | ((with_reducible apply opsF.skip); (case hg => exact tEV); (case hb => exact tNB))
    | (first | ((with_reducible apply opsF.case); (case hg => exact tEV)) | ((with_reducible apply vcF.cond); (case hx => exact tEV)) | ((with_reducible apply dopsF.case); (case hg => exact tEV))) <;> ((intro hc; try simp only [Int.reduceLT, Int.reduceLE, Int.reduceEq, Int.reduceNe, Int.cast_ofNat_Int, Int.reduceNeg, decide_true, decide_false, not_true_eq_false, not_false_eq_true, decide_eq_true_eq, decide_eq_false_iff_not, Bool.not_eq_true', Bool.not_eq_false', Bool.not_true, Bool.not_false, Bool.false_eq_true, Bool.true_eq_false, Bool.not_eq_true, Bool.not_eq_false, beq_iff_eq, beq_eq_false_iff_ne, bne_iff_ne, bne_eq_false_iff_eq, ne_eq, Int.not_lt, Int.not_le, ge_iff_le, gt_iff_lt, Decidable.not_not, reduceCtorEq, *] at hc) <;> (try (exfalso; omega)))
    | ((with_reducible apply opsF.und); (case hg => rfl))
    | ((with_reducible apply opsF.callv); (case hf => exact tEV); (case hx => exact tCV))
    | ((with_reducible apply dopsF.op rfl); (case hs => (first | exact tHT | exact tHS)))
    | ((with_reducible apply dopsF.call); (case hx => exact tAG))
    | ((with_reducible apply dopsF.want); (case hg => exact tEV); (case hb => exact tNB))
    | ((with_reducible apply dopsF.skip); (case hg => exact tEV); (case hb => exact tNB))
    | ((with_reducible apply dopsF.und); (case hg => rfl))
    | ((with_reducible apply stabF.und); rfl)
    | ((with_reducible apply stabF.want); (case hg => exact tEV); (case hb => exact tNB))
    | ((with_reducible apply stabF.skip); (case hg => exact tEV); (case hb => exact tNB))
    | ((with_reducible apply stabF.op); (case hs => (first | exact tHT | exact tHS)); (case hv => exact tSV))
    | ((with_reducible apply retF.r); (case hv => exact tRS))
    | ((with_reducible apply retF.nn); (case hv => exact tRS)))
        exact ⟨i + 1, by omega, h1, h8, rfl, by omega⟩
      · obtain rfl : i = ls.length := by omega
        repeat' (first
    | ((with_reducible apply opsF.op rfl); (case hs => (first | exact tHT | exact tHS)))
    | with_reducible (first | apply opsF.nil | apply seqF.nn | apply vcF.seq | apply vcF.region | apply vcF.dregion | apply vcF.skip | apply vcF.block | apply vcF.exit | apply vcF.ret | apply vcF.loop | apply seqF.e | apply seqF.r | apply blkF.nn | apply blkF.e | apply blkF.r | apply blkF.o rfl | apply dopsF.nil | apply stabsF.nil | apply stabsF.cons | apply dopsF.cont)
    | ((with_reducible apply opsF.call); (case hx => exact tAG))
    | ((with_reducible apply opsF.want); (case hg => exact tEV); (case hb => exact tNB))
    | ((with_reducible apply opsF.skip); (case hg => exact tEV); (case hb => exact tNB))
    | (first | ((with_reducible apply opsF.case); (case hg => exact tEV)) | ((with_reducible apply vcF.cond); (case hx => exact tEV)) | ((with_reducible apply dopsF.case); (case hg => exact tEV))) <;> ((intro hc; try simp only [Int.reduceLT, Int.reduceLE, Int.reduceEq, Int.reduceNe, Int.cast_ofNat_Int, Int.reduceNeg, decide_true, decide_false, not_true_eq_false, not_false_eq_true, decide_eq_true_eq, decide_eq_false_iff_not, Bool.not_eq_true', Bool.not_eq_false', Bool.not_true, Bool.not_false, Bool.false_eq_true, Bool.true_eq_false, Bool.not_eq_true, Bool.not_eq_false, beq_iff_eq, beq_eq_false_iff_ne, bne_iff_ne, bne_eq_false_iff_eq, ne_eq, Int.not_lt, Int.not_le, ge_iff_le, gt_iff_lt, Decidable.not_not, reduceCtorEq, *] at hc) <;> (try (exfalso; omega)))
    | ((with_reducible apply opsF.und); (case hg => rfl))
    | ((with_reducible apply opsF.callv); (case hf => exact tEV); (case hx => exact tCV))
    | ((with_reducible apply dopsF.op rfl); (case hs => (first | exact tHT | exact tHS)))
    | ((with_reducible apply dopsF.call); (case hx => exact tAG))
    | ((with_reducible apply dopsF.want); (case hg => exact tEV); (case hb => exact tNB))
    | ((with_reducible apply dopsF.skip); (case hg => exact tEV); (case hb => exact tNB))
    | ((with_reducible apply dopsF.und); (case hg => rfl))
    | ((with_reducible apply stabF.und); rfl)
    | ((with_reducible apply stabF.want); (case hg => exact tEV); (case hb => exact tNB))
    | ((with_reducible apply stabF.skip); (case hg => exact tEV); (case hb => exact tNB))
    | ((with_reducible apply stabF.op); (case hs => (first | exact tHT | exact tHS)); (case hv => exact tSV))
    | ((with_reducible apply retF.r); (case hv => exact tRS))
    | ((with_reducible apply retF.nn); (case hv => exact tRS))
    | ((refine (hans _).mono fun v h1 hp => ?_); obtain ⟨rfl, he⟩ := hp; have hN := he.n; have hO := he.objs; (try simp only [alloc_n, set_n, newTok_n, bump_n] at hN hO)))
        all_goals rfl
theorem errVars_of {l : List (String × DataW Unit)} {W : World} (hL : laidMetH P l W) (h1 : l.filter (fun x => x.1 == "strconv.ErrSyntax") = [("strconv.ErrSyntax", Go.Proofs.YthmfeheegoalfaaDoor.Rows.laid_strconv_ErrSyntax)]) (h2 : l.filter (fun x => x.1 == "strconv.ErrRange") = [("strconv.ErrRange", Go.Proofs.YthmfeheegoalfaaDoor.Rows.laid_strconv_ErrRange)]) : ErrVars W :=
  ⟨errSyntax_of hL h1 rfl, errRange_of hL h2 rfl⟩
theorem law_ScriptBack (W : World) (hL : laidMetH P Go.Proofs.YthmfeheegoalfaaDoor.Rows.scriptBackRow.laid W) (x0 : (Ty.int .i64).D) (h0 : (Ty.int .i64).wf x0) (g0 : (Ty.int .i64).fit 140737488351232 x0)
    (x1 : (Ty.slice StT).D) (h1 : (Ty.slice StT).wf x1) (g1 : (Ty.slice StT).fit 140737488351232 x1) :
    Call P W law26_ScriptBack [(Ty.int .i64).val x0, (Ty.slice StT).val x1] AH.start fun v _ => v = .v (.bool true) := by
  obtain ⟨ls, e, hls⟩ := steps_ty x1 h1 g1
  rw [e]
  exact back_main W (powTab_of hL (by kernel_rfl)) (errVars_of hL (by kernel_rfl) (by kernel_rfl)) x0 (inR_wf h0) ls hls
end Go.Abs.F
