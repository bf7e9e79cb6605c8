/- Layer 11: EnvNumbers: each number stands in its own line, as it is written. -/
import Derived.Test.YtnpdmkbfphcioaaGreatDoorEvL
namespace Go.Abs.F
open Go Go.Abs
set_option maxRecDepth 10000
set_option maxHeartbeats 20000000
set_option linter.unusedSimpArgs false
set_option linter.unusedVariables false
variable {w0 : World}
def keysL : List L8 := [[105, 100, 32], [103, 101, 110, 32], [98, 111, 114, 110, 32], [116, 114, 105, 101, 115, 32], [100, 117, 101, 32]]
theorem keys_at {k : Nat} (hk : k < 5) : keysL[k]? = some (keyAt k ++ [32]) := by
  match k, hk with
  | 0, _ => rfl
  | 1, _ => rfl
  | 2, _ => rfl
  | 3, _ => rfl
  | 4, _ => rfl
theorem odds_at {j : Nat} (hj : j < 5) : ∃ o, oddsK[j]? = some o ∧ o ∈ oddsK := by
  have : j < oddsK.length := hj
  exact ⟨oddsK[j], List.getElem?_eq_getElem this, List.getElem_mem this⟩
theorem key_len {k : Nat} (hk : k < 5) : (keyAt k ++ [32]).length ≤ 6 := by
  match k, hk with
  | 0, _ => decide
  | 1, _ => decide
  | 2, _ => decide
  | 3, _ => decide
  | 4, _ => decide
theorem odd_len {o : L8} (ho : o ∈ oddsK) : o.length ≤ 13 := by
  simp only [oddsK, List.mem_cons, List.not_mem_nil, or_false] at ho
  rcases ho with rfl | rfl | rfl | rfl | rfl <;> decide
theorem text_small2 {m : Msg} (hs : smallM m = true) (hg : goodM m = true) : (textM m).length ≤ 900000 := by
  have g := goodP_of hg
  have h := of_decide_eq_true hs
  unfold baseM at h
  have d1 := decS_len _ g.t1.1 g.t1.2
  have d2 := decS_len _ g.t2.1 g.t2.2
  have d3 := decS_len _ g.t3.1 g.t3.2
  have d4 := decS_len _ g.t4.1 g.t4.2
  have d5 := decS_len _ g.t5.1 g.t5.2
  have a1 := rcS_sum m.2.2.2.2.2.2.1
  have a2 := bdS_sum m.2.2.2.2.2.2.2.2
  have a3 := mkS_len g.mks
  simp only [textM, numsT, restT, List.length_append, kv_len, List.length_cons, K1, K2, K3, K4, K5, K6, K8, List.length_nil]
  omega
theorem tmod5 {a : Int} (h : 0 ≤ a) : ∃ k : Nat, a.tmod 5 = (k : Int) ∧ k < 5 := by
  obtain ⟨n, rfl⟩ : ∃ n : Nat, a = (n : Int) := ⟨a.toNat, by omega⟩
  exact ⟨n % 5, rfl, Nat.mod_lt _ (by decide)⟩
theorem envNum_main (W : World) (hP : PowTab W) (hE : ErrVars W) (m : Msg) (hm : MLen m) (a b : Int) (ha : 0 ≤ a ∧ a ≤ 255) (hb : 0 ≤ b ∧ b ≤ 255) : Call P W law11_EnvNumbers [.agg (msgC m .no .no .no), .v (.int .u8 a), .v (.int .u8 b)] AH.start fun v _ => v = .v (.bool true) := by
  have hans := fun h => answers11_call (w0 := W) hP hE h
  have hsm := fun h => small_call (w0 := W) m .no .no .no h hm
  refine Call.bodyF b_law11_EnvNumbers rfl rfl ?_
  unfold c_law11_EnvNumbers
  cases hs : smallM m with
  | false =>
    rw [hs] at hsm
    clear hs
    unfold msgC at hsm ⊢
    repeat' (first
    | ((with_reducible apply opsF.op rfl); (case hs => (first | exact tHT | exact tHS)))
    | with_reducible (first | apply opsF.nil | apply seqF.nn | apply vcF.seq | apply vcF.region | apply vcF.dregion | apply vcF.dalts | apply dallF.cons | apply dallF.nil | apply vcF.skip | apply vcF.block | apply vcF.exit | apply vcF.ret | apply vcF.loop | apply seqF.e | apply seqF.r | apply blkF.nn | apply blkF.e | apply blkF.r | apply blkF.o rfl | apply dopsF.nil | apply stabsF.nil | apply stabsF.cons | apply dopsF.cont)
    | ((with_reducible apply opsF.call); (case hx => exact tAG))
    | ((with_reducible apply opsF.want); (case hg => exact tEV); (case hb => exact tNB))
    | ((with_reducible apply opsF.skip); (case hg => exact tEV); (case hb => exact tNB))
    | (first | ((with_reducible apply opsF.case); (case hg => exact tEV)) | ((with_reducible apply vcF.cond); (case hx => exact tEV)) | ((with_reducible apply dopsF.case); (case hg => exact tEV))) <;> ((intro hc; try simp only [Int.reduceLT, Int.reduceLE, Int.reduceEq, Int.reduceNe, Int.cast_ofNat_Int, Int.reduceNeg, decide_true, decide_false, not_true_eq_false, not_false_eq_true, decide_eq_true_eq, decide_eq_false_iff_not, Bool.not_eq_true', Bool.not_eq_false', Bool.not_true, Bool.not_false, Bool.false_eq_true, Bool.true_eq_false, Bool.not_eq_true, Bool.not_eq_false, beq_iff_eq, beq_eq_false_iff_ne, bne_iff_ne, bne_eq_false_iff_eq, ne_eq, Int.not_lt, Int.not_le, ge_iff_le, gt_iff_lt, Decidable.not_not, reduceCtorEq, *] at hc) <;> (try (exfalso; omega)))
    | ((with_reducible apply opsF.und); (case hg => rfl))
    | ((with_reducible apply dopsF.op rfl); (case hs => (first | exact tHT | exact tHS)))
    | ((with_reducible apply dopsF.call); (case hx => exact tAG))
    | ((with_reducible apply dopsF.want); (case hg => exact tEV); (case hb => exact tNB))
    | ((with_reducible apply dopsF.skip); (case hg => exact tEV); (case hb => exact tNB))
    | ((with_reducible apply dopsF.und); (case hg => rfl))
    | ((with_reducible apply stabF.und); rfl)
    | ((with_reducible apply stabF.want); (case hg => exact tEV); (case hb => exact tNB))
    | ((with_reducible apply stabF.skip); (case hg => exact tEV); (case hb => exact tNB))
    | ((with_reducible apply stabF.op); (case hs => (first | exact tHT | exact tHS)); (case hv => exact tSV))
    | ((with_reducible apply retF.r); (case hv => exact tRS))
    | ((with_reducible apply retF.nn); (case hv => exact tRS))
    | ((refine Call.use (hsm _) ?_))
    | ((refine Call.use (hans _) ?_)))
    all_goals rfl
  | true =>
    have hmo := small_ok hs
    have hgo := fun h => refgood_call (w0 := W) m .no .no .no h hmo
    rw [hs] at hsm
    cases hg : goodM m with
    | false =>
      rw [hg] at hgo
      clear hs hg hmo
      unfold msgC at hsm hgo ⊢
      repeat' (first
    | ((with_reducible apply opsF.op rfl); (case hs => (first | exact tHT | exact tHS)))
    | with_reducible (first | apply opsF.nil | apply seqF.nn | apply vcF.seq | apply vcF.region | apply vcF.dregion | apply vcF.dalts | apply dallF.cons | apply dallF.nil | apply vcF.skip | apply vcF.block | apply vcF.exit | apply vcF.ret | apply vcF.loop | apply seqF.e | apply seqF.r | apply blkF.nn | apply blkF.e | apply blkF.r | apply blkF.o rfl | apply dopsF.nil | apply stabsF.nil | apply stabsF.cons | apply dopsF.cont)
    | ((with_reducible apply opsF.call); (case hx => exact tAG))
    | ((with_reducible apply opsF.want); (case hg => exact tEV); (case hb => exact tNB))
    | ((with_reducible apply opsF.skip); (case hg => exact tEV); (case hb => exact tNB))
    | (first | ((with_reducible apply opsF.case); (case hg => exact tEV)) | ((with_reducible apply vcF.cond); (case hx => exact tEV)) | ((with_reducible apply dopsF.case); (case hg => exact tEV))) <;> ((intro hc; try simp only [Int.reduceLT, Int.reduceLE, Int.reduceEq, Int.reduceNe, Int.cast_ofNat_Int, Int.reduceNeg, decide_true, decide_false, not_true_eq_false, not_false_eq_true, decide_eq_true_eq, decide_eq_false_iff_not, Bool.not_eq_true', Bool.not_eq_false', Bool.not_true, Bool.not_false, Bool.false_eq_true, Bool.true_eq_false, Bool.not_eq_true, Bool.not_eq_false, beq_iff_eq, beq_eq_false_iff_ne, bne_iff_ne, bne_eq_false_iff_eq, ne_eq, Int.not_lt, Int.not_le, ge_iff_le, gt_iff_lt, Decidable.not_not, reduceCtorEq, *] at hc) <;> (try (exfalso; omega)))
    | ((with_reducible apply opsF.und); (case hg => rfl))
    | ((with_reducible apply dopsF.op rfl); (case hs => (first | exact tHT | exact tHS)))
    | ((with_reducible apply dopsF.call); (case hx => exact tAG))
    | ((with_reducible apply dopsF.want); (case hg => exact tEV); (case hb => exact tNB))
    | ((with_reducible apply dopsF.skip); (case hg => exact tEV); (case hb => exact tNB))
    | ((with_reducible apply dopsF.und); (case hg => rfl))
    | ((with_reducible apply stabF.und); rfl)
    | ((with_reducible apply stabF.want); (case hg => exact tEV); (case hb => exact tNB))
    | ((with_reducible apply stabF.skip); (case hg => exact tEV); (case hb => exact tNB))
    | ((with_reducible apply stabF.op); (case hs => (first | exact tHT | exact tHS)); (case hv => exact tSV))
    | ((with_reducible apply retF.r); (case hv => exact tRS))
    | ((with_reducible apply retF.nn); (case hv => exact tRS))
    | ((refine Call.use (hsm _) ?_))
    | ((refine Call.use (hans _) ?_))
    | ((refine Call.use (hgo _) ?_)))
      all_goals rfl
    | true =>
      rw [hg] at hgo
      obtain ⟨k, hk, hk5⟩ : ∃ k : Nat, a.tmod 5 = (k : Int) ∧ k < 5 := tmod5 ha.1
      obtain ⟨j, hj, hj5⟩ : ∃ j : Nat, b.tmod 5 = (j : Int) ∧ j < 5 := tmod5 hb.1
      have htx := fun h => reftext_call (w0 := W) m .no .no .no h hmo hg
      have htl := text_small2 hs hg
      have hfirst := first_at m k
      have hta := text_at m k
      obtain ⟨o, ho, hom⟩ := odds_at hj5
      have hol := odd_len hom
      have hnone := odd_none hom m k
      have hkl := key_len hk5
      have hkey : (srows keysL)[k]? = some [.v (.string (bs (keyAt k ++ [32])))] := by rw [srows_get, keys_at hk5]; rfl
      have hodd : (srows oddsK)[j]? = some [.v (.string (bs o))] := by rw [srows_get, ho]; rfl
      obtain ⟨p, hp⟩ : ∃ p, (preAt m k).length = p := ⟨_, rfl⟩
      rw [hp] at hfirst
      have hrest : ∃ r, textM m = (preAt m k ++ (keyAt k ++ [32])) ++ r ∧ (∀ q, q = ((preAt m k ++ (keyAt k ++ [32])) ++ o) ++ r → decM q = none) := by
        refine ⟨decS (numAt m k) ++ 10 :: sufAt m k, by rw [hta]; simp, fun q hq => ?_⟩
        rw [hq, ← hnone]
        simp
      obtain ⟨r, hr1, hr2⟩ := hrest
      have hkne : 1 ≤ (keyAt k ++ [32]).length := by simp
      have hTl : p + (keyAt k ++ [32]).length + r.length = (textM m).length := by rw [hr1, ← hp]; simp only [List.length_append]
      have htake : (textM m).take (p + (keyAt k ++ [32]).length) = preAt m k ++ (keyAt k ++ [32]) := by
        rw [hr1, ← hp, ← List.length_append]; exact List.take_left
      have hdrop : (textM m).drop (p + (keyAt k ++ [32]).length) = r := by
        rw [hr1, ← hp, ← List.length_append]; exact List.drop_left
      have hde := fun (q : L8) tok h (hq : q = (((textM m).take (p + (keyAt k ++ [32]).length)) ++ o) ++ (textM m).drop (p + (keyAt k ++ [32]).length)) => decode_call (w0 := W) hP hE q tok h (by rw [hq, htake, hdrop]; simp only [List.length_append] at hTl hkl ⊢; omega)
      have hdn : ∀ q : L8, q = (((textM m).take (p + (keyAt k ++ [32]).length)) ++ o) ++ (textM m).drop (p + (keyAt k ++ [32]).length) → decV (decM q) .no .no .no = decV none .no .no .no := fun q hq => by
        rw [hr2 q (by rw [hq, htake, hdrop])]
      have hde2 : ∀ (q : L8) tok h, q = (((textM m).take (p + (keyAt k ++ [32]).length)) ++ o) ++ (textM m).drop (p + (keyAt k ++ [32]).length) → Call P W env_Decode [.list 1 (brows q) tok] h fun v h' => v = decV none .no .no .no ∧ h' = h := fun q tok h hq => by
        have := hde q tok h hq
        rw [hdn q hq] at this
        exact this
      clear hde hdn hr1 hr2 htake hdrop hnone hta ho hom hg hs hmo
      generalize keyAt k ++ [32] = key at *
      generalize textM m = T at *
      have hz : decV none .no .no .no = .tup [.agg [.v (.int .i64 0), .v (.int .i64 0), .v (.int .i64 0), .v (.int .i64 0), .v (.int .i64 0), .v (.string (bs [])), .list 1 [] .no, .list 1 [] .no, .list 1 [] .no], .v (.int .i64 2)] := rfl
      rw [hz] at hde2
      clear hz
      have hR1 : (srows keysL) = [[.v (.string (bs [105, 100, 32]))], [.v (.string (bs [103, 101, 110, 32]))], [.v (.string (bs [98, 111, 114, 110, 32]))], [.v (.string (bs [116, 114, 105, 101, 115, 32]))], [.v (.string (bs [100, 117, 101, 32]))]] := rfl
      have hR2 : (srows oddsK) = [[.v (.string (bs [48]))], [.v (.string (bs [43]))], [.v (.string (bs [45]))], [.v (.string (bs [32]))], [.v (.string (bs [49, 48, 57, 57, 53, 49, 49, 54, 50, 55, 55, 55, 55]))]] := rfl
      rw [hR1] at hkey
      rw [hR2] at hodd
      clear hR1 hR2
      unfold msgC at hsm hgo htx ⊢
      repeat' (first
    | ((with_reducible apply opsF.op rfl); (case hs => (first | exact tHT | exact tHS)))
    | with_reducible (first | apply opsF.nil | apply seqF.nn | apply vcF.seq | apply vcF.region | apply vcF.dregion | apply vcF.dalts | apply dallF.cons | apply dallF.nil | apply vcF.skip | apply vcF.block | apply vcF.exit | apply vcF.ret | apply vcF.loop | apply seqF.e | apply seqF.r | apply blkF.nn | apply blkF.e | apply blkF.r | apply blkF.o rfl | apply dopsF.nil | apply stabsF.nil | apply stabsF.cons | apply dopsF.cont)
    | ((with_reducible apply opsF.call); (case hx => exact tAG))
    | ((with_reducible apply opsF.want); (case hg => exact tEV); (case hb => exact tNB))
    | ((with_reducible apply opsF.skip); (case hg => exact tEV); (case hb => exact tNB))
    | (first | ((with_reducible apply opsF.case); (case hg => exact tEV)) | ((with_reducible apply vcF.cond); (case hx => exact tEV)) | ((with_reducible apply dopsF.case); (case hg => exact tEV))) <;> ((intro hc; try simp only [Int.reduceLT, Int.reduceLE, Int.reduceEq, Int.reduceNe, Int.cast_ofNat_Int, Int.reduceNeg, decide_true, decide_false, not_true_eq_false, not_false_eq_true, decide_eq_true_eq, decide_eq_false_iff_not, Bool.not_eq_true', Bool.not_eq_false', Bool.not_true, Bool.not_false, Bool.false_eq_true, Bool.true_eq_false, Bool.not_eq_true, Bool.not_eq_false, beq_iff_eq, beq_eq_false_iff_ne, bne_iff_ne, bne_eq_false_iff_eq, ne_eq, Int.not_lt, Int.not_le, ge_iff_le, gt_iff_lt, Decidable.not_not, reduceCtorEq, *] at hc) <;> (try (exfalso; omega)))
    | ((with_reducible apply opsF.und); (case hg => rfl))
    | ((with_reducible apply dopsF.op rfl); (case hs => (first | exact tHT | exact tHS)))
    | ((with_reducible apply dopsF.call); (case hx => exact tAG))
    | ((with_reducible apply dopsF.want); (case hg => exact tEV); (case hb => exact tNB))
    | ((with_reducible apply dopsF.skip); (case hg => exact tEV); (case hb => exact tNB))
    | ((with_reducible apply dopsF.und); (case hg => rfl))
    | ((with_reducible apply stabF.und); rfl)
    | ((with_reducible apply stabF.want); (case hg => exact tEV); (case hb => exact tNB))
    | ((with_reducible apply stabF.skip); (case hg => exact tEV); (case hb => exact tNB))
    | ((with_reducible apply stabF.op); (case hs => (first | exact tHT | exact tHS)); (case hv => exact tSV))
    | ((with_reducible apply retF.r); (case hv => exact tRS))
    | ((with_reducible apply retF.nn); (case hv => exact tRS))
    | ((refine Call.use (hsm _) ?_))
    | ((refine Call.use (hans _) ?_))
    | ((refine Call.use (hgo _) ?_))
    | ((refine Call.use (htx _) ?_)))
      clear hsm hgo htx
      refine LpF.ind rfl (fun i : Nat => p - i) (fun i σ hh => ∃ t1 t2, σ 2 = .v (.int .u8 b) ∧ σ 7 = .list 1 (srows keysL) t1 ∧ σ 8 = .list 1 (srows oddsK) t2 ∧ σ 9 = .v (.int .i64 (k : Nat)) ∧ σ 10 = .v (.string (bs T)) ∧ σ 11 = .v (.int .i64 0) ∧ σ 12 = .v (.int .i64 (i : Nat)) ∧ i ≤ p) ?_ (i := 0)
        ⟨_, _, rfl, rfl, rfl, by first | rfl | (rw [← hk]; rfl), rfl, rfl, rfl, Nat.zero_le _⟩
      have hkey2 : (srows keysL)[k]? = some [.v (.string (bs key))] := hkey
      have hodd2 : (srows oddsK)[j]? = some [.v (.string (bs o))] := hodd
      clear hkey hodd
      generalize srows keysL = KR at *
      generalize srows oddsK = OR at *
      rintro i σ hh ⟨t1, t2, g2, g7, g8, g9, g10, g11, g12, hi⟩
      have hcond : (i : Int) + key.length ≤ T.length := by omega
      have hsl : (T.take ((i : Int) + (key.length : Int)).toNat).drop i = (T.drop i).take key.length := by rw [show ((i : Int) + (key.length : Int)).toNat = i + key.length by omega, List.drop_take]; congr 1; omega
      rcases Nat.lt_or_ge i p with hlt | hge
      · have hno := hfirst.2 i hlt
        clear hde2 hans hfirst
        by_cases hpre : (T.drop i).take key.length = key
        · have hpb : preB key (T.drop i) = true := decide_eq_true hpre
          rw [hpre] at hsl
          obtain ⟨i', rfl⟩ : ∃ i', i = i' + 1 := ⟨i - 1, by
            have : i ≠ 0 := fun e => hno ⟨.inl e, hpb⟩
            omega⟩
          obtain ⟨x, hx⟩ : ∃ x, T[i']? = some x := ⟨_, List.getElem?_eq_getElem (by omega)⟩
          have hx10 : ¬ (x.toNat : Int) = 10 := fun e => hno ⟨.inr (by
            rw [show i' + 1 - 1 = i' by omega, hx]
            congr 1
            exact UInt8.toNat_inj.1 (by rw [show (10 : UInt8).toNat = 10 from rfl]; omega)), hpb⟩
          have hx2 : T[(((i' + 1 : Nat) : Int) - 1).toNat]? = some x := by rw [show (((i' + 1 : Nat) : Int) - 1).toNat = i' by omega]; exact hx
          have hx3 : (0 : Int) ≤ ((i' + 1 : Nat) : Int) - 1 := by omega
          have hx4 : ¬ ((i' + 1 : Nat) : Int) = 0 := by omega
          clear hno hpre hpb
          repeat' (first
    | ((with_reducible apply opsF.op rfl); (case hs => (first | exact tHT | exact tHS)))
    | with_reducible (first | apply opsF.nil | apply seqF.nn | apply vcF.seq | apply vcF.region | apply vcF.dregion | apply vcF.dalts | apply dallF.cons | apply dallF.nil | apply vcF.skip | apply vcF.block | apply vcF.exit | apply vcF.ret | apply vcF.loop | apply seqF.e | apply seqF.r | apply blkF.nn | apply blkF.e | apply blkF.r | apply blkF.o rfl | apply dopsF.nil | apply stabsF.nil | apply stabsF.cons | apply dopsF.cont)
    | ((with_reducible apply opsF.call); (case hx => exact tAG))
    | ((with_reducible apply opsF.want); (case hg => exact tEV); (case hb => exact tNB))
    | ((with_reducible apply opsF.skip); (case hg => exact tEV); (case hb => exact tNB))
    | (first | ((with_reducible apply opsF.case); (case hg => exact tEV)) | ((with_reducible apply vcF.cond); (case hx => exact tEV)) | ((with_reducible apply dopsF.case); (case hg => exact tEV))) <;> ((intro hc; try simp only [Int.reduceLT, Int.reduceLE, Int.reduceEq, Int.reduceNe, Int.cast_ofNat_Int, Int.reduceNeg, decide_true, decide_false, not_true_eq_false, not_false_eq_true, decide_eq_true_eq, decide_eq_false_iff_not, Bool.not_eq_true', Bool.not_eq_false', Bool.not_true, Bool.not_false, Bool.false_eq_true, Bool.true_eq_false, Bool.not_eq_true, Bool.not_eq_false, beq_iff_eq, beq_eq_false_iff_ne, bne_iff_ne, bne_eq_false_iff_eq, ne_eq, Int.not_lt, Int.not_le, ge_iff_le, gt_iff_lt, Decidable.not_not, reduceCtorEq, *] at hc) <;> (try (exfalso; omega)))
    | ((with_reducible apply opsF.und); (case hg => rfl))
    | ((with_reducible apply dopsF.op rfl); (case hs => (first | exact tHT | exact tHS)))
    | ((with_reducible apply dopsF.call); (case hx => exact tAG))
    | ((with_reducible apply dopsF.want); (case hg => exact tEV); (case hb => exact tNB))
    | ((with_reducible apply dopsF.skip); (case hg => exact tEV); (case hb => exact tNB))
    | ((with_reducible apply dopsF.und); (case hg => rfl))
    | ((with_reducible apply stabF.und); rfl)
    | ((with_reducible apply stabF.want); (case hg => exact tEV); (case hb => exact tNB))
    | ((with_reducible apply stabF.skip); (case hg => exact tEV); (case hb => exact tNB))
    | ((with_reducible apply stabF.op); (case hs => (first | exact tHT | exact tHS)); (case hv => exact tSV))
    | ((with_reducible apply retF.r); (case hv => exact tRS))
    | ((with_reducible apply retF.nn); (case hv => exact tRS)))
          all_goals first
            | exact ⟨i' + 1 + 1, by omega, t1, t2, g2, g7, g8, g9, g10, g11, rfl, by omega⟩
            | trace_state
        · clear hno
          rw [← hsl] at hpre
          clear hsl
          repeat' (first
    | ((with_reducible apply opsF.op rfl); (case hs => (first | exact tHT | exact tHS)))
    | with_reducible (first | apply opsF.nil | apply seqF.nn | apply vcF.seq | apply vcF.region | apply vcF.dregion | apply vcF.dalts | apply dallF.cons | apply dallF.nil | apply vcF.skip | apply vcF.block | apply vcF.exit | apply vcF.ret | apply vcF.loop | apply seqF.e | apply seqF.r | apply blkF.nn | apply blkF.e | apply blkF.r | apply blkF.o rfl | apply dopsF.nil | apply stabsF.nil | apply stabsF.cons | apply dopsF.cont)
    | ((with_reducible apply opsF.call); (case hx => exact tAG))
    | ((with_reducible apply opsF.want); (case hg => exact tEV); (case hb => exact tNB))
    | ((with_reducible apply opsF.skip); (case hg => exact tEV); (case hb => exact tNB))
    | (first | ((with_reducible apply opsF.case); (case hg => exact tEV)) | ((with_reducible apply vcF.cond); (case hx => exact tEV)) | ((with_reducible apply dopsF.case); (case hg => exact tEV))) <;> ((intro hc; try simp only [Int.reduceLT, Int.reduceLE, Int.reduceEq, Int.reduceNe, Int.cast_ofNat_Int, Int.reduceNeg, decide_true, decide_false, not_true_eq_false, not_false_eq_true, decide_eq_true_eq, decide_eq_false_iff_not, Bool.not_eq_true', Bool.not_eq_false', Bool.not_true, Bool.not_false, Bool.false_eq_true, Bool.true_eq_false, Bool.not_eq_true, Bool.not_eq_false, beq_iff_eq, beq_eq_false_iff_ne, bne_iff_ne, bne_eq_false_iff_eq, ne_eq, Int.not_lt, Int.not_le, ge_iff_le, gt_iff_lt, Decidable.not_not, reduceCtorEq, *] at hc) <;> (try (exfalso; omega)))
    | ((with_reducible apply opsF.und); (case hg => rfl))
    | ((with_reducible apply dopsF.op rfl); (case hs => (first | exact tHT | exact tHS)))
    | ((with_reducible apply dopsF.call); (case hx => exact tAG))
    | ((with_reducible apply dopsF.want); (case hg => exact tEV); (case hb => exact tNB))
    | ((with_reducible apply dopsF.skip); (case hg => exact tEV); (case hb => exact tNB))
    | ((with_reducible apply dopsF.und); (case hg => rfl))
    | ((with_reducible apply stabF.und); rfl)
    | ((with_reducible apply stabF.want); (case hg => exact tEV); (case hb => exact tNB))
    | ((with_reducible apply stabF.skip); (case hg => exact tEV); (case hb => exact tNB))
    | ((with_reducible apply stabF.op); (case hs => (first | exact tHT | exact tHS)); (case hv => exact tSV))
    | ((with_reducible apply retF.r); (case hv => exact tRS))
    | ((with_reducible apply retF.nn); (case hv => exact tRS)))
          all_goals first
            | exact ⟨i + 1, by omega, t1, t2, g2, g7, g8, g9, g10, g11, rfl, by omega⟩
            | trace_state
      · obtain rfl : i = p := by omega
        have hit := hfirst.1
        rw [of_decide_eq_true hit.2] at hsl
        have hit1 := hit.1
        clear hfirst hge hit
        rcases Nat.eq_zero_or_pos i with hi0 | hi0
        · subst hi0
          clear hit1
          have hq0 : List.take key.length T = key := by simpa using hsl
          repeat' (first
    | ((with_reducible apply opsF.op rfl); (case hs => (first | exact tHT | exact tHS)))
    | with_reducible (first | apply opsF.nil | apply seqF.nn | apply vcF.seq | apply vcF.region | apply vcF.dregion | apply vcF.dalts | apply dallF.cons | apply dallF.nil | apply vcF.skip | apply vcF.block | apply vcF.exit | apply vcF.ret | apply vcF.loop | apply seqF.e | apply seqF.r | apply blkF.nn | apply blkF.e | apply blkF.r | apply blkF.o rfl | apply dopsF.nil | apply stabsF.nil | apply stabsF.cons | apply dopsF.cont)
    | ((with_reducible apply opsF.call); (case hx => exact tAG))
    | ((with_reducible apply opsF.want); (case hg => exact tEV); (case hb => exact tNB))
    | ((with_reducible apply opsF.skip); (case hg => exact tEV); (case hb => exact tNB))
    | (first | ((with_reducible apply opsF.case); (case hg => exact tEV)) | ((with_reducible apply vcF.cond); (case hx => exact tEV)) | ((with_reducible apply dopsF.case); (case hg => exact tEV))) <;> ((intro hc; try simp only [Int.reduceLT, Int.reduceLE, Int.reduceEq, Int.reduceNe, Int.cast_ofNat_Int, Int.reduceNeg, decide_true, decide_false, not_true_eq_false, not_false_eq_true, decide_eq_true_eq, decide_eq_false_iff_not, Bool.not_eq_true', Bool.not_eq_false', Bool.not_true, Bool.not_false, Bool.false_eq_true, Bool.true_eq_false, Bool.not_eq_true, Bool.not_eq_false, beq_iff_eq, beq_eq_false_iff_ne, bne_iff_ne, bne_eq_false_iff_eq, ne_eq, Int.not_lt, Int.not_le, ge_iff_le, gt_iff_lt, Decidable.not_not, reduceCtorEq, *] at hc) <;> (try (exfalso; omega)))
    | ((with_reducible apply opsF.und); (case hg => rfl))
    | ((with_reducible apply dopsF.op rfl); (case hs => (first | exact tHT | exact tHS)))
    | ((with_reducible apply dopsF.call); (case hx => exact tAG))
    | ((with_reducible apply dopsF.want); (case hg => exact tEV); (case hb => exact tNB))
    | ((with_reducible apply dopsF.skip); (case hg => exact tEV); (case hb => exact tNB))
    | ((with_reducible apply dopsF.und); (case hg => rfl))
    | ((with_reducible apply stabF.und); rfl)
    | ((with_reducible apply stabF.want); (case hg => exact tEV); (case hb => exact tNB))
    | ((with_reducible apply stabF.skip); (case hg => exact tEV); (case hb => exact tNB))
    | ((with_reducible apply stabF.op); (case hs => (first | exact tHT | exact tHS)); (case hv => exact tSV))
    | ((with_reducible apply retF.r); (case hv => exact tRS))
    | ((with_reducible apply retF.nn); (case hv => exact tRS))
    | ((with_reducible apply dopsF.op rfl); (case hs => exact is_adds tEV tEV (by simp only [List.length_append, List.length_take, List.length_drop]; omega) rfl))
    | ((refine Call.use (hde2 _ _ _ (by simp [List.take_length, hq0])) ?_))
    | ((refine Call.use (hans _) ?_)))
          all_goals first | rfl | trace_state
        · obtain ⟨i', rfl⟩ : ∃ i', i = i' + 1 := ⟨i - 1, by omega⟩
          obtain ⟨x, hx, hx10⟩ : ∃ x, T[i']? = some x ∧ (x.toNat : Int) = 10 := by
            rcases hit1 with e | e
            · omega
            · rw [show i' + 1 - 1 = i' by omega] at e; exact ⟨10, e, rfl⟩
          have hx2 : T[(((i' + 1 : Nat) : Int) - 1).toNat]? = some x := by rw [show (((i' + 1 : Nat) : Int) - 1).toNat = i' by omega]; exact hx
          have hx3 : (0 : Int) ≤ ((i' + 1 : Nat) : Int) - 1 := by omega
          have hx4 : ¬ ((i' + 1 : Nat) : Int) = 0 := by omega
          clear hit1 hi0
          repeat' (first
    | ((with_reducible apply opsF.op rfl); (case hs => (first | exact tHT | exact tHS)))
    | with_reducible (first | apply opsF.nil | apply seqF.nn | apply vcF.seq | apply vcF.region | apply vcF.dregion | apply vcF.dalts | apply dallF.cons | apply dallF.nil | apply vcF.skip | apply vcF.block | apply vcF.exit | apply vcF.ret | apply vcF.loop | apply seqF.e | apply seqF.r | apply blkF.nn | apply blkF.e | apply blkF.r | apply blkF.o rfl | apply dopsF.nil | apply stabsF.nil | apply stabsF.cons | apply dopsF.cont)
    | ((with_reducible apply opsF.call); (case hx => exact tAG))
    | ((with_reducible apply opsF.want); (case hg => exact tEV); (case hb => exact tNB))
    | ((with_reducible apply opsF.skip); (case hg => exact tEV); (case hb => exact tNB))
    | (first | ((with_reducible apply opsF.case); (case hg => exact tEV)) | ((with_reducible apply vcF.cond); (case hx => exact tEV)) | ((with_reducible apply dopsF.case); (case hg => exact tEV))) <;> ((intro hc; try simp only [Int.reduceLT, Int.reduceLE, Int.reduceEq, Int.reduceNe, Int.cast_ofNat_Int, Int.reduceNeg, decide_true, decide_false, not_true_eq_false, not_false_eq_true, decide_eq_true_eq, decide_eq_false_iff_not, Bool.not_eq_true', Bool.not_eq_false', Bool.not_true, Bool.not_false, Bool.false_eq_true, Bool.true_eq_false, Bool.not_eq_true, Bool.not_eq_false, beq_iff_eq, beq_eq_false_iff_ne, bne_iff_ne, bne_eq_false_iff_eq, ne_eq, Int.not_lt, Int.not_le, ge_iff_le, gt_iff_lt, Decidable.not_not, reduceCtorEq, *] at hc) <;> (try (exfalso; omega)))
    | ((with_reducible apply opsF.und); (case hg => rfl))
    | ((with_reducible apply dopsF.op rfl); (case hs => (first | exact tHT | exact tHS)))
    | ((with_reducible apply dopsF.call); (case hx => exact tAG))
    | ((with_reducible apply dopsF.want); (case hg => exact tEV); (case hb => exact tNB))
    | ((with_reducible apply dopsF.skip); (case hg => exact tEV); (case hb => exact tNB))
    | ((with_reducible apply dopsF.und); (case hg => rfl))
    | ((with_reducible apply stabF.und); rfl)
    | ((with_reducible apply stabF.want); (case hg => exact tEV); (case hb => exact tNB))
    | ((with_reducible apply stabF.skip); (case hg => exact tEV); (case hb => exact tNB))
    | ((with_reducible apply stabF.op); (case hs => (first | exact tHT | exact tHS)); (case hv => exact tSV))
    | ((with_reducible apply retF.r); (case hv => exact tRS))
    | ((with_reducible apply retF.nn); (case hv => exact tRS))
    | ((with_reducible apply dopsF.op rfl); (case hs => exact is_adds tEV tEV (by simp only [List.length_append, List.length_take, List.length_drop]; omega) rfl))
    | ((refine Call.use (hde2 _ _ _ (by simp [List.take_length, show ((((i' + 1 : Nat) : Int)) + (key.length : Int)).toNat = i' + 1 + key.length by omega, show ((i' : Int) + 1 + (key.length : Int)).toNat = i' + 1 + key.length by omega])) ?_))
    | ((refine Call.use (hans _) ?_)))
          all_goals first | rfl | trace_state
theorem u8_wf {n : Int} (h : (Lit.int .u8 n).wf = true) : 0 ≤ n ∧ n ≤ 255 := by
  simp [Lit.wf, IntKind.min, IntKind.max, IntKind.signed, IntKind.bits] at h
  exact ⟨by omega, by omega⟩
theorem law_EnvNumbers (W : World) (hL : laidMetH P Go.Proofs.YtnpdmkbfphcioaaGreatDoor.Rows.envNumbersRow.laid W) (x0 : MsgT.D) (h0 : MsgT.wf x0) (g0 : MsgT.fit 140737488351232 x0) (x1 : (Ty.int .u8).D) (h1 : (Ty.int .u8).wf x1) (g1 : (Ty.int .u8).fit 140737488351232 x1)
    (x2 : (Ty.int .u8).D) (h2 : (Ty.int .u8).wf x2) (g2 : (Ty.int .u8).fit 140737488351232 x2) : Call P W law11_EnvNumbers [MsgT.val x0, (Ty.int .u8).val x1, (Ty.int .u8).val x2] AH.start fun v _ => v = .v (.bool true) := by
  obtain ⟨m, e0, hm⟩ := msg_ty x0 g0
  rw [e0]
  exact envNum_main W (powTab_of hL (by kernel_rfl)) (errVars_of hL (by kernel_rfl) (by kernel_rfl)) m hm x1 x2 (u8_wf h1) (u8_wf h2)
end Go.Abs.F
