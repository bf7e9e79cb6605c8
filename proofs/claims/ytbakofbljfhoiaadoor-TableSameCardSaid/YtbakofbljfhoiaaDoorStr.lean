/- Texts found, cut, split: contracts of the strings package. -/
import Derived.Test.YtbakofbljfhoiaaDoorIto
import Derived.Test.YtbakofbljfhoiaaDoorScr1
import Derived.Test.YtbakofbljfhoiaaDoorFrz
import Derived.Lib.IndexLaws
namespace Go.Abs.F
open Go Go.Abs
set_option maxRecDepth 10000
set_option maxHeartbeats 20000000
set_option linter.unusedSimpArgs false
set_option linter.unusedVariables false
variable {w0 : World}
theorem bs_list (s : List UInt8) : (bs s).data.toList = s := by simp [bs]
theorem idx_miss {c : UInt8} : ∀ {s : List UInt8}, c ∉ s → Lib.indexByte s c = -1
  | [], _ => rfl
  | x :: s, h => by
    simp only [List.mem_cons, not_or] at h
    have hx : (x == c) = false := by simpa using fun e => h.1 (Eq.symm e)
    rw [Lib.indexByte, hx, idx_miss h.2]
    rfl
theorem idx_hit {c : UInt8} {r : List UInt8} : ∀ {a : List UInt8}, c ∉ a → Lib.indexByte (a ++ c :: r) c = (a.length : Int)
  | [], _ => by simp [Lib.indexByte]
  | x :: a, h => by
    simp only [List.mem_cons, not_or] at h
    have hx : (x == c) = false := by simpa using fun e => h.1 (Eq.symm e)
    rw [List.cons_append, Lib.indexByte, hx, idx_hit h.2]
    have : ((a.length : Int) == -1) = false := by simp
    rw [this]
    simp
theorem idx_call (s : List UInt8) (c : UInt8) (h : AH) : Call P w0 strings_Index [.v (.string (bs s)), .v (.string (bs [c]))] h (fun v h' => v = .v (.int .i64 (Lib.indexByte s c)) ∧ h' = h) := by
  refine Call.plain (vs := [.string (bs s), .string (bs [c])]) ⟨_, Go.Proofs.Tryd.func87, by kernel_rfl, by kernel_rfl⟩ rfl fun Γ w H => ?_
  refine (Go.Proofs.Tryd.strings_Index_one (bs s) c w).mono fun e w' hh => ?_
  obtain ⟨rfl, rfl⟩ := hh
  rw [bs_list]
  exact ⟨rfl, .refl _ _⟩
theorem sidx_call (s : List UInt8) (c : UInt8) (h : AH) : Call P w0 i_stringslite_Index [.v (.string (bs s)), .v (.string (bs [c]))] h (fun v h' => v = .v (.int .i64 (Lib.indexByte s c)) ∧ h' = h) := by
  refine Call.plain (vs := [.string (bs s), .string (bs [c])]) ⟨_, Go.Proofs.Tryd.func78, by kernel_rfl, by kernel_rfl⟩ rfl fun Γ w H => ?_
  refine (Go.Proofs.Tryd.stringslite_Index_one (bs s) c w).mono fun e w' hh => ?_
  obtain ⟨rfl, rfl⟩ := hh
  rw [bs_list]
  exact ⟨rfl, .refl _ _⟩
theorem count_call (s : List UInt8) (c : UInt8) (h : AH) : Call P w0 strings_Count [.v (.string (bs s)), .v (.string (bs [c]))] h (fun v h' => v = .v (.int .i64 (s.count c : Nat)) ∧ h' = h) := by
  refine Call.plain (vs := [.string (bs s), .string (bs [c])]) ⟨_, Go.Proofs.Tryd.func86, by kernel_rfl, by kernel_rfl⟩ rfl fun Γ w H => ?_
  refine (Go.Proofs.Tryd.strings_Count_one (bs s) c w).mono fun e w' hh => ?_
  obtain ⟨rfl, rfl⟩ := hh
  rw [bs_list]
  exact ⟨rfl, .refl _ _⟩
theorem lcut_call (s : List UInt8) (c : UInt8) (h : AH) (hl : s.length ≤ 9000000000000000000) : Call P w0 i_stringslite_Cut [.v (.string (bs s)), .v (.string (bs [c]))] h
    (fun v h' => v = .tup [.v (.string (bs (cutB c s).1)), .v (.string (bs (cutB c s).2.1)), .v (.bool (cutB c s).2.2)] ∧ h' = h) := by
  refine Call.bodyF b_i_stringslite_Cut rfl rfl ?_
  unfold c_i_stringslite_Cut
  rcases cutB_cases c s with ⟨h1, h2⟩ | ⟨a, r, rfl, h2, h3⟩
  · rw [h2]
    have hi := idx_miss h1
    repeat' (first
    | ((with_reducible apply opsF.op rfl); (case hs => (first | exact tHT | exact tHS)))
    | with_reducible (first | apply opsF.nil | apply seqF.nn | apply vcF.seq | apply vcF.region | apply vcF.skip | apply vcF.ret | apply seqF.r)
    | ((with_reducible apply opsF.call); (case hx => exact tAG))
    | (first | ((with_reducible apply vcF.cond); (case hx => exact tEV))) <;> ((intro hc; try simp only [Int.reduceLT, Int.reduceLE, Int.reduceEq, Int.reduceNe, Int.cast_ofNat_Int, Int.reduceNeg, decide_true, decide_false, not_true_eq_false, not_false_eq_true, decide_eq_true_eq, decide_eq_false_iff_not, Bool.not_eq_true', Bool.not_eq_false', Bool.not_true, Bool.not_false, Bool.false_eq_true, Bool.true_eq_false, Bool.not_eq_true, Bool.not_eq_false, beq_iff_eq, beq_eq_false_iff_ne, bne_iff_ne, bne_eq_false_iff_eq, ne_eq, Int.not_lt, Int.not_le, ge_iff_le, gt_iff_lt, Decidable.not_not, reduceCtorEq, *] at hc) <;> (try (exfalso; omega)))
    | ((with_reducible apply retF.r); (case hv => exact tRS))
    | ((with_reducible apply retF.nn); (case hv => exact tRS))
    | ((refine (sidx_call s c _).mono fun v h' hp => ?_); rw [hi] at hp; obtain ⟨rfl, rfl⟩ := hp))
    all_goals exact ⟨rfl, rfl⟩
  · rw [h3]
    have hi := idx_hit (r := r) h2
    have hle : (a ++ c :: r).length = a.length + (r.length + 1) := by simp
    have htk : ((a ++ c :: r).take a.length).drop 0 = a := by simp
    have hdr : ((a ++ c :: r).take (a ++ c :: r).length).drop (a.length + 1) = r := by rw [List.take_length, show a ++ c :: r = (a ++ [c]) ++ r by simp, List.drop_left' (by simp)]
    generalize a ++ c :: r = s at *
    repeat' (first
    | ((with_reducible apply opsF.op rfl); (case hs => (first | exact tHT | exact tHS)))
    | with_reducible (first | apply opsF.nil | apply seqF.nn | apply vcF.seq | apply vcF.region | apply vcF.skip | apply vcF.ret | apply seqF.r)
    | ((with_reducible apply opsF.call); (case hx => exact tAG))
    | (first | ((with_reducible apply vcF.cond); (case hx => exact tEV))) <;> ((intro hc; try simp only [Int.reduceLT, Int.reduceLE, Int.reduceEq, Int.reduceNe, Int.cast_ofNat_Int, Int.reduceNeg, decide_true, decide_false, not_true_eq_false, not_false_eq_true, decide_eq_true_eq, decide_eq_false_iff_not, Bool.not_eq_true', Bool.not_eq_false', Bool.not_true, Bool.not_false, Bool.false_eq_true, Bool.true_eq_false, Bool.not_eq_true, Bool.not_eq_false, beq_iff_eq, beq_eq_false_iff_ne, bne_iff_ne, bne_eq_false_iff_eq, ne_eq, Int.not_lt, Int.not_le, ge_iff_le, gt_iff_lt, Decidable.not_not, reduceCtorEq, *] at hc) <;> (try (exfalso; omega)))
    | ((with_reducible apply retF.r); (case hv => exact tRS))
    | ((with_reducible apply retF.nn); (case hv => exact tRS))
    | ((refine (sidx_call s c _).mono fun v h' hp => ?_); rw [hi] at hp; obtain ⟨rfl, rfl⟩ := hp))
    refine ⟨?_, rfl⟩
    rw [show ((a.length : Int) + ((1 : Nat) : Int)).toNat = a.length + 1 by omega, ← hle, hdr]
theorem cut_call (s : List UInt8) (c : UInt8) (h : AH) (hl : s.length ≤ 9000000000000000000) : Call P w0 strings_Cut [.v (.string (bs s)), .v (.string (bs [c]))] h
    (fun v h' => v = .tup [.v (.string (bs (cutB c s).1)), .v (.string (bs (cutB c s).2.1)), .v (.bool (cutB c s).2.2)] ∧ h' = h) := by
  refine Call.bodyF b_strings_Cut rfl rfl ?_
  unfold c_strings_Cut
  repeat' (first
    | ((with_reducible apply opsF.op rfl); (case hs => (first | exact tHT | exact tHS)))
    | with_reducible (first | apply opsF.nil | apply seqF.nn | apply vcF.seq | apply vcF.region | apply vcF.skip | apply vcF.ret | apply seqF.r)
    | ((with_reducible apply opsF.call); (case hx => exact tAG))
    | (first | ((with_reducible apply vcF.cond); (case hx => exact tEV))) <;> ((intro hc; try simp only [Int.reduceLT, Int.reduceLE, Int.reduceEq, Int.reduceNe, Int.cast_ofNat_Int, Int.reduceNeg, decide_true, decide_false, not_true_eq_false, not_false_eq_true, decide_eq_true_eq, decide_eq_false_iff_not, Bool.not_eq_true', Bool.not_eq_false', Bool.not_true, Bool.not_false, Bool.false_eq_true, Bool.true_eq_false, Bool.not_eq_true, Bool.not_eq_false, beq_iff_eq, beq_eq_false_iff_ne, bne_iff_ne, bne_eq_false_iff_eq, ne_eq, Int.not_lt, Int.not_le, ge_iff_le, gt_iff_lt, Decidable.not_not, reduceCtorEq, *] at hc) <;> (try (exfalso; omega)))
    | ((with_reducible apply retF.r); (case hv => exact tRS))
    | ((with_reducible apply retF.nn); (case hv => exact tRS))
    | ((refine (lcut_call s c _ hl).mono fun v h' hp => ?_); obtain ⟨rfl, rfl⟩ := hp))
  all_goals exact ⟨rfl, rfl⟩
theorem is_mks1 {σ : Fm} {h : AH} {eb : Nat} {z : AV} {l c : Opd} {n : Nat} (hx : evF σ l = .v (.int .i64 (n : Int))) (hy : evF σ c = .v (.int .i64 (n : Int))) (hb : n * eb ≤ 140737488355328 ∧ n ≤ 9223372036854775807) :
    istep (.mks 1 eb [z] l c) (evF σ) h = some (.row h.n 0 n (some n), h.alloc (.cells (List.replicate n z))) := by
  have hfl : ∀ k : Nat, (List.replicate k [z]).flatten = List.replicate k z := by
    intro k
    induction k with
    | zero => rfl
    | succ k ih => rw [List.replicate_succ, List.flatten_cons, ih, List.replicate_succ]; rfl
  simp only [istep, hx, hy]
  rw [if_pos (by omega), Int.toNat_natCast, hfl]
theorem is_mn {σ : Fm} {h : AH} {x y : Opd} {a b : Int} (hx : evF σ x = .v (.int .i64 a)) (hy : evF σ y = .v (.int .i64 b)) (hb : a ≤ b) : istep (.mnx false [x, y]) (evF σ) h = some (.v (.int .i64 a), h) := by
  simp only [istep, List.map_cons, List.map_nil, hx, hy, List.foldl_cons, List.foldl_nil, Option.map_some, Bool.false_eq_true, if_false]
  rw [if_neg (by omega)]
theorem wrL_mid {v y : AV} {ys : List AV} : ∀ {xs : List AV} {n : Nat}, n = xs.length → wrL (xs ++ y :: ys) n [v] = xs ++ v :: ys := by
  rintro xs n rfl
  simp [wrL]
theorem genSplit_call (s0 : List UInt8) (c : UInt8) (h : AH) (hl : s0.length ≤ 8000000000000) : Call P w0 strings_genSplit [.v (.string (bs s0)), .v (.string (bs [c])), .v (.int .i64 0), .v (.int .i64 (-1))] h
    (fun v h' => v = .list 1 (srows (splB c s0)) .no ∧ Ext h h') := by
  refine Call.frz ?_
  have hcl : s0.count c ≤ s0.length := List.count_le_length
  refine Call.bodyF b_strings_genSplit rfl rfl ?_
  unfold c_strings_genSplit
  repeat' (first
    | ((with_reducible apply opsF.op rfl); (case hs => (first | exact tHT | exact tHS)))
    | with_reducible (first | apply opsF.nil | apply seqF.nn | apply vcF.seq | apply vcF.region | apply vcF.skip | apply vcF.block | apply vcF.exit | apply vcF.ret | apply vcF.loop | apply seqF.e | apply seqF.r | apply blkF.nn | apply blkF.e | apply blkF.r | apply blkF.o rfl)
    | ((with_reducible apply opsF.call); (case hx => exact tAG))
    | (first | ((with_reducible apply vcF.cond); (case hx => exact tEV))) <;> ((intro hc; try simp only [Int.reduceLT, Int.reduceLE, Int.reduceEq, Int.reduceNe, Int.cast_ofNat_Int, Int.reduceNeg, decide_true, decide_false, not_true_eq_false, not_false_eq_true, decide_eq_true_eq, decide_eq_false_iff_not, Bool.not_eq_true', Bool.not_eq_false', Bool.not_true, Bool.not_false, Bool.false_eq_true, Bool.true_eq_false, Bool.not_eq_true, Bool.not_eq_false, beq_iff_eq, beq_eq_false_iff_ne, bne_iff_ne, bne_eq_false_iff_eq, ne_eq, Int.not_lt, Int.not_le, ge_iff_le, gt_iff_lt, Decidable.not_not, reduceCtorEq, *] at hc) <;> (try (exfalso; omega)))
    | ((with_reducible apply retF.r); (case hv => exact tRS))
    | ((with_reducible apply retF.nn); (case hv => exact tRS))
    | ((refine (count_call s0 c _).mono fun v h hp => ?_); obtain ⟨rfl, rfl⟩ := hp))
  have hrep : ∀ k : Nat, (List.replicate k [AV.v (.string (bs []))]).flatten = List.replicate k (AV.v (.string (bs []))) := by
    intro k
    induction k with
    | zero => rfl
    | succ k ih => rw [List.replicate_succ, List.flatten_cons, ih, List.replicate_succ]; rfl
  refine LpF.ind rfl (fun i : Nat => s0.length + 1 - i) (fun i σ h' => ∃ (s : List UInt8) (done : List (List UInt8)), Ext h h' ∧ h.n < h'.n ∧ σ 0 = .v (.string (bs s)) ∧ σ 1 = .v (.string (bs [c])) ∧ σ 2 = .v (.int .i64 0) ∧ σ 3 = .v (.int .i64 (s0.count c : Nat)) ∧ σ 9 = .row h.n 0 (s0.count c + 1) (some (s0.count c + 1)) ∧ σ 10 = .v (.int .i64 (i : Nat)) ∧
    done.length = i ∧ i + s.count c = s0.count c ∧ s.length ≤ s0.length ∧ splB c s0 = done ++ splB c s ∧ h'.objs h.n = some (.cells (done.map (fun x => AV.v (.string (bs x))) ++ List.replicate (s0.count c + 1 - i) (AV.v (.string (bs [])))))) ?_ (i := 0) ?_
  · rintro i σ h' ⟨s, done, hE, hn, h0, h1, h2, h3, h9, h10, hd, hc1, hsl, hsp, ho⟩
    have hcs : s.count c ≤ s.length := List.count_le_length
    rcases cutB_cases c s with ⟨g1, g2⟩ | ⟨a, r, hs, g2, g3⟩
    · have hz : s.count c = 0 := List.count_eq_zero.2 g1
      have hi : i = s0.count c := by omega
      have hrp : List.replicate (s0.count c + 1 - i) (AV.v (.string (bs []))) = [AV.v (.string (bs []))] := by rw [show s0.count c + 1 - i = 1 by omega]; rfl
      rw [hrp] at ho
      have hw := wrL_mid (v := .v (.string (bs s))) (y := AV.v (.string (bs []))) (ys := []) (xs := done.map (fun x => AV.v (.string (bs x)))) (n := i) (by simp [hd])
      have hlen : (done.map (fun x => AV.v (.string (bs x))) ++ [AV.v (.string (bs []))]).length = i + 1 := by simp [hd]
      generalize done.map (fun x => AV.v (.string (bs x))) ++ [AV.v (.string (bs []))] = cs at ho hw hlen
      repeat' (first
    | ((with_reducible apply opsF.op rfl); (case hs => (first | exact tHT | exact tHS)))
    | with_reducible (first | apply opsF.nil | apply seqF.nn | apply vcF.seq | apply vcF.region | apply vcF.skip | apply vcF.block | apply vcF.exit | apply vcF.ret | apply vcF.loop | apply seqF.e | apply seqF.r | apply blkF.nn | apply blkF.e | apply blkF.r | apply blkF.o rfl)
    | ((with_reducible apply opsF.call); (case hx => exact tAG))
    | (first | ((with_reducible apply vcF.cond); (case hx => exact tEV))) <;> ((intro hc; try simp only [Int.reduceLT, Int.reduceLE, Int.reduceEq, Int.reduceNe, Int.cast_ofNat_Int, Int.reduceNeg, decide_true, decide_false, not_true_eq_false, not_false_eq_true, decide_eq_true_eq, decide_eq_false_iff_not, Bool.not_eq_true', Bool.not_eq_false', Bool.not_true, Bool.not_false, Bool.false_eq_true, Bool.true_eq_false, Bool.not_eq_true, Bool.not_eq_false, beq_iff_eq, beq_eq_false_iff_ne, bne_iff_ne, bne_eq_false_iff_eq, ne_eq, Int.not_lt, Int.not_le, ge_iff_le, gt_iff_lt, Decidable.not_not, reduceCtorEq, *] at hc) <;> (try (exfalso; omega)))
    | ((with_reducible apply retF.r); (case hv => exact tRS))
    | ((with_reducible apply retF.nn); (case hv => exact tRS)))
      have e1 : (((s0.count c : Nat) : Int) + 1).toNat - 0 = ((done ++ [s]).map (fun x => AV.v (.string (bs x)))).length := by simp; omega
      have e2 : cs.set (0 + s0.count c * 1) (.v (.string (bs s))) = (done ++ [s]).map (fun x => AV.v (.string (bs x))) := by
        rw [Nat.zero_add, Nat.mul_one, ← hi, List.map_append]
        exact hw
      rw [e1, e2]
      refine ⟨h.n, _, _, [], rfl, ?_, ?_, ?_, (hE.set (Nat.le_refl _) _).drop (Nat.le_refl _)⟩
      · simp [set_at]
      · intro x hx
        obtain ⟨y, _, rfl⟩ := List.mem_map.1 hx
        rfl
      · rw [hsp, splB_miss g1]
        simp [srows]
    · have hpos : 0 < s.count c := by rw [hs]; simp; omega
      have hsl2 : s.length = a.length + (r.length + 1) := by rw [hs]; simp
      have hrc : s.count c = r.count c + 1 := by rw [hs, List.count_append, List.count_eq_zero.2 g2, List.count_cons_self]; omega
      have hidx : Lib.indexByte s c = (a.length : Int) := by rw [hs]; exact idx_hit g2
      have hsp2 : splB c s = a :: splB c r := by rw [hs]; exact splB_hit g2
      have htk : (s.take a.length).drop 0 = a := by rw [hs]; simp
      have hdr : (s.take s.length).drop (a.length + 1) = r := by rw [List.take_length, hs, show a ++ c :: r = (a ++ [c]) ++ r by simp, List.drop_left' (by simp)]
      have hrp : List.replicate (s0.count c + 1 - i) (AV.v (.string (bs []))) = AV.v (.string (bs [])) :: List.replicate (s0.count c + 1 - (i + 1)) (AV.v (.string (bs []))) := by rw [show s0.count c + 1 - i = (s0.count c + 1 - (i + 1)) + 1 by omega, List.replicate_succ]
      rw [hrp] at ho
      have hw := wrL_mid (v := .v (.string (bs a))) (y := AV.v (.string (bs []))) (ys := List.replicate (s0.count c + 1 - (i + 1)) (AV.v (.string (bs [])))) (xs := done.map (fun x => AV.v (.string (bs x)))) (n := i) (by simp [hd])
      have hlen : (done.map (fun x => AV.v (.string (bs x))) ++ AV.v (.string (bs [])) :: List.replicate (s0.count c + 1 - (i + 1)) (AV.v (.string (bs [])))).length = s0.count c + 1 := by simp [hd]; omega
      generalize done.map (fun x => AV.v (.string (bs x))) ++ AV.v (.string (bs [])) :: List.replicate (s0.count c + 1 - (i + 1)) (AV.v (.string (bs []))) = cs at ho hw hlen
      clear hs
      repeat' (first
    | ((with_reducible apply opsF.op rfl); (case hs => (first | exact tHT | exact tHS)))
    | with_reducible (first | apply opsF.nil | apply seqF.nn | apply vcF.seq | apply vcF.region | apply vcF.skip | apply vcF.block | apply vcF.exit | apply vcF.ret | apply vcF.loop | apply seqF.e | apply seqF.r | apply blkF.nn | apply blkF.e | apply blkF.r | apply blkF.o rfl)
    | ((with_reducible apply opsF.call); (case hx => exact tAG))
    | (first | ((with_reducible apply vcF.cond); (case hx => exact tEV))) <;> ((intro hc; try simp only [Int.reduceLT, Int.reduceLE, Int.reduceEq, Int.reduceNe, Int.cast_ofNat_Int, Int.reduceNeg, decide_true, decide_false, not_true_eq_false, not_false_eq_true, decide_eq_true_eq, decide_eq_false_iff_not, Bool.not_eq_true', Bool.not_eq_false', Bool.not_true, Bool.not_false, Bool.false_eq_true, Bool.true_eq_false, Bool.not_eq_true, Bool.not_eq_false, beq_iff_eq, beq_eq_false_iff_ne, bne_iff_ne, bne_eq_false_iff_eq, ne_eq, Int.not_lt, Int.not_le, ge_iff_le, gt_iff_lt, Decidable.not_not, reduceCtorEq, *] at hc) <;> (try (exfalso; omega)))
    | ((with_reducible apply retF.r); (case hv => exact tRS))
    | ((with_reducible apply retF.nn); (case hv => exact tRS))
    | ((refine (idx_call s c _).mono fun v h' hp => ?_); rw [hidx] at hp; obtain ⟨rfl, rfl⟩ := hp))
      refine ⟨i + 1, by omega, r, done ++ [a], hE.set (Nat.le_refl _) _, hn, ?_, h1, h2, h3, h9, rfl, by simp [hd], by omega, by omega, by rw [hsp, hsp2]; simp, ?_⟩
      · have e3 : (s.take (a.length + (r.length + 1))).drop ((a.length : Int) + ((1 : Nat) : Int)).toNat = r := by
          rw [show ((a.length : Int) + ((1 : Nat) : Int)).toNat = a.length + 1 by omega, ← hsl2, hdr]
        conv => lhs; whnf
        rw [e3]
      · have e2 : cs.set (0 + i * 1) (.v (.string (bs a))) = (done ++ [a]).map (fun x => AV.v (.string (bs x))) ++ List.replicate (s0.count c + 1 - (i + 1)) (AV.v (.string (bs []))) := by
          rw [Nat.zero_add, Nat.mul_one, List.map_append, List.append_assoc]
          exact hw
        rw [e2]
        simp [set_at]
  · refine ⟨s0, [], Ext.alloc _ _, ?_, rfl, rfl, rfl, ?_, ?_, rfl, rfl, by simp, Nat.le_refl _, rfl, ?_⟩
    · simp only [alloc_n]; omega
    · conv => lhs; whnf
      rw [if_neg (by omega), show ((s0.count c : Nat) : Int) + 1 - 1 = (s0.count c : Nat) by omega]
    · conv => lhs; whnf
      rw [show (((s0.count c : Nat) : Int) + 1).toNat = s0.count c + 1 by omega]
    · rw [hrep, show (((s0.count c : Nat) : Int) + 1).toNat = s0.count c + 1 by omega]
      simp [alloc_at]
theorem spl_call (s : List UInt8) (c : UInt8) (h : AH) (hl : s.length ≤ 8000000000000) : Call P w0 strings_Split [.v (.string (bs s)), .v (.string (bs [c]))] h
    (fun v h' => v = .list 1 (srows (splB c s)) .no ∧ Ext h h') := by
  refine Call.bodyF b_strings_Split rfl rfl ?_
  unfold c_strings_Split
  repeat' (first
    | ((with_reducible apply opsF.op rfl); (case hs => (first | exact tHT | exact tHS)))
    | with_reducible (first | apply opsF.nil | apply seqF.nn | apply vcF.seq | apply vcF.region | apply vcF.skip | apply vcF.ret | apply seqF.r)
    | ((with_reducible apply opsF.call); (case hx => exact tAG))
    | (first | ((with_reducible apply vcF.cond); (case hx => exact tEV))) <;> ((intro hc; try simp only [Int.reduceLT, Int.reduceLE, Int.reduceEq, Int.reduceNe, Int.cast_ofNat_Int, Int.reduceNeg, decide_true, decide_false, not_true_eq_false, not_false_eq_true, decide_eq_true_eq, decide_eq_false_iff_not, Bool.not_eq_true', Bool.not_eq_false', Bool.not_true, Bool.not_false, Bool.false_eq_true, Bool.true_eq_false, Bool.not_eq_true, Bool.not_eq_false, beq_iff_eq, beq_eq_false_iff_ne, bne_iff_ne, bne_eq_false_iff_eq, ne_eq, Int.not_lt, Int.not_le, ge_iff_le, gt_iff_lt, Decidable.not_not, reduceCtorEq, *] at hc) <;> (try (exfalso; omega)))
    | ((with_reducible apply retF.r); (case hv => exact tRS))
    | ((with_reducible apply retF.nn); (case hv => exact tRS))
    | ((refine (genSplit_call s c _ hl).mono fun v h' hp => ?_); obtain ⟨rfl, he⟩ := hp))
  all_goals exact ⟨rfl, he⟩
/-! a text without its first byte -/
theorem hasP_call (s : List UInt8) (c : UInt8) (h : AH) : Call P w0 i_stringslite_HasPrefix [.v (.string (bs s)), .v (.string (bs [c]))] h
    (fun v h' => v = .v (.bool (decide (s.head? = some c))) ∧ h' = h) := by
  refine Call.bodyF b_i_stringslite_HasPrefix rfl rfl ?_
  unfold c_i_stringslite_HasPrefix
  cases s with
  | nil =>
    repeat' (first
    | ((with_reducible apply opsF.op rfl); (case hs => (first | exact tHT | exact tHS)))
    | with_reducible (first | apply opsF.nil | apply seqF.nn | apply vcF.seq | apply vcF.region | apply vcF.skip | apply vcF.ret | apply seqF.r)
    | ((with_reducible apply opsF.call); (case hx => exact tAG))
    | ((with_reducible apply opsF.want); (case hg => exact tEV); (case hb => exact tNB))
    | ((with_reducible apply opsF.skip); (case hg => exact tEV); (case hb => exact tNB))
    | (first | ((with_reducible apply opsF.case); (case hg => exact tEV)) | ((with_reducible apply vcF.cond); (case hx => exact tEV))) <;> ((intro hc; try simp only [Int.reduceLT, Int.reduceLE, Int.reduceEq, Int.reduceNe, Int.cast_ofNat_Int, Int.reduceNeg, decide_true, decide_false, not_true_eq_false, not_false_eq_true, decide_eq_true_eq, decide_eq_false_iff_not, Bool.not_eq_true', Bool.not_eq_false', Bool.not_true, Bool.not_false, Bool.false_eq_true, Bool.true_eq_false, Bool.not_eq_true, Bool.not_eq_false, beq_iff_eq, beq_eq_false_iff_ne, bne_iff_ne, bne_eq_false_iff_eq, ne_eq, Int.not_lt, Int.not_le, ge_iff_le, gt_iff_lt, Decidable.not_not, reduceCtorEq, *] at hc) <;> (try (exfalso; omega)))
    | ((with_reducible apply opsF.und); (case hg => rfl))
    | ((with_reducible apply retF.r); (case hv => exact tRS))
    | ((with_reducible apply retF.nn); (case hv => exact tRS)))
    all_goals exact ⟨rfl, rfl⟩
  | cons x r =>
    repeat' (first
    | ((with_reducible apply opsF.op rfl); (case hs => (first | exact tHT | exact tHS)))
    | with_reducible (first | apply opsF.nil | apply seqF.nn | apply vcF.seq | apply vcF.region | apply vcF.skip | apply vcF.ret | apply seqF.r)
    | ((with_reducible apply opsF.call); (case hx => exact tAG))
    | ((with_reducible apply opsF.want); (case hg => exact tEV); (case hb => exact tNB))
    | ((with_reducible apply opsF.skip); (case hg => exact tEV); (case hb => exact tNB))
    | (first | ((with_reducible apply opsF.case); (case hg => exact tEV)) | ((with_reducible apply vcF.cond); (case hx => exact tEV))) <;> ((intro hc; try simp only [Int.reduceLT, Int.reduceLE, Int.reduceEq, Int.reduceNe, Int.cast_ofNat_Int, Int.reduceNeg, decide_true, decide_false, not_true_eq_false, not_false_eq_true, decide_eq_true_eq, decide_eq_false_iff_not, Bool.not_eq_true', Bool.not_eq_false', Bool.not_true, Bool.not_false, Bool.false_eq_true, Bool.true_eq_false, Bool.not_eq_true, Bool.not_eq_false, beq_iff_eq, beq_eq_false_iff_ne, bne_iff_ne, bne_eq_false_iff_eq, ne_eq, Int.not_lt, Int.not_le, ge_iff_le, gt_iff_lt, Decidable.not_not, reduceCtorEq, *] at hc) <;> (try (exfalso; omega)))
    | ((with_reducible apply opsF.und); (case hg => rfl))
    | ((with_reducible apply retF.r); (case hv => exact tRS))
    | ((with_reducible apply retF.nn); (case hv => exact tRS)))
    all_goals (refine ⟨?_, rfl⟩; simp)
end Go.Abs.F
