/- Texts found, cut, split: contracts of the strings package. ref01.Cut: its contract. -/
import Derived.Test.YtnpdmkbfphcioaaGreatDoorIto
import Derived.Test.YtnpdmkbfphcioaaGreatDoorScr1
import Derived.Test.YtnpdmkbfphcioaaGreatDoorFrz
import Derived.Lib.IndexLaws
import Derived.Test.YtnpdmkbfphcioaaGreatDoorGc
namespace Go.Abs.F
open Go Go.Abs
set_option maxRecDepth 10000
set_option maxHeartbeats 20000000
set_option linter.unusedSimpArgs false
set_option linter.unusedVariables false
variable {w0 : World}
theorem bs_list (s : List UInt8) : (bs s).data.toList = s := by simp [bs]
theorem idx_miss {c : UInt8} : ∀ {s : List UInt8}, c ∉ s → Lib.indexByte s c = -1
  | [], _ => rfl
  | x :: s, h => by
    simp only [List.mem_cons, not_or] at h
    have hx : (x == c) = false := by simpa using fun e => h.1 (Eq.symm e)
    rw [Lib.indexByte, hx, idx_miss h.2]
    rfl
theorem idx_hit {c : UInt8} {r : List UInt8} : ∀ {a : List UInt8}, c ∉ a → Lib.indexByte (a ++ c :: r) c = (a.length : Int)
  | [], _ => by simp [Lib.indexByte]
  | x :: a, h => by
    simp only [List.mem_cons, not_or] at h
    have hx : (x == c) = false := by simpa using fun e => h.1 (Eq.symm e)
    rw [List.cons_append, Lib.indexByte, hx, idx_hit h.2]
    have : ((a.length : Int) == -1) = false := by simp
    rw [this]
    simp
theorem idx_call (s : List UInt8) (c : UInt8) (h : AH) : Call P w0 strings_Index [.v (.string (bs s)), .v (.string (bs [c]))] h (fun v h' => v = .v (.int .i64 (Lib.indexByte s c)) ∧ h' = h) := by
  refine Call.plain (vs := [.string (bs s), .string (bs [c])]) ⟨_, Go.Proofs.Tryz.func138, by kernel_rfl, by kernel_rfl⟩ rfl fun Γ w H => ?_
  refine (Go.Proofs.Tryz.strings_Index_one (bs s) c w).mono fun e w' hh => ?_
  obtain ⟨rfl, rfl⟩ := hh
  rw [bs_list]
  exact ⟨rfl, .refl _ _⟩
theorem sidx_call (s : List UInt8) (c : UInt8) (h : AH) : Call P w0 i_stringslite_Index [.v (.string (bs s)), .v (.string (bs [c]))] h (fun v h' => v = .v (.int .i64 (Lib.indexByte s c)) ∧ h' = h) := by
  refine Call.plain (vs := [.string (bs s), .string (bs [c])]) ⟨_, Go.Proofs.Tryz.func131, by kernel_rfl, by kernel_rfl⟩ rfl fun Γ w H => ?_
  refine (Go.Proofs.Tryz.stringslite_Index_one (bs s) c w).mono fun e w' hh => ?_
  obtain ⟨rfl, rfl⟩ := hh
  rw [bs_list]
  exact ⟨rfl, .refl _ _⟩
theorem count_call (s : List UInt8) (c : UInt8) (h : AH) : Call P w0 strings_Count [.v (.string (bs s)), .v (.string (bs [c]))] h (fun v h' => v = .v (.int .i64 (s.count c : Nat)) ∧ h' = h) := by
  refine Call.plain (vs := [.string (bs s), .string (bs [c])]) ⟨_, Go.Proofs.Tryz.func137, by kernel_rfl, by kernel_rfl⟩ rfl fun Γ w H => ?_
  refine (Go.Proofs.Tryz.strings_Count_one (bs s) c w).mono fun e w' hh => ?_
  obtain ⟨rfl, rfl⟩ := hh
  rw [bs_list]
  exact ⟨rfl, .refl _ _⟩
theorem lcut_call (s : List UInt8) (c : UInt8) (h : AH) (hl : s.length ≤ 9000000000000000000) : Call P w0 i_stringslite_Cut [.v (.string (bs s)), .v (.string (bs [c]))] h
    (fun v h' => v = .tup [.v (.string (bs (cutB c s).1)), .v (.string (bs (cutB c s).2.1)), .v (.bool (cutB c s).2.2)] ∧ h' = h) := by
  refine Call.bodyF b_i_stringslite_Cut rfl rfl ?_
  unfold c_i_stringslite_Cut
  rcases cutB_cases c s with ⟨h1, h2⟩ | ⟨a, r, rfl, h2, h3⟩
  · rw [h2]
    have hi := idx_miss h1
    repeat' (first
    | ((with_reducible apply opsF.op rfl); (case hs => (first | exact tHT | exact tHS)))
    | with_reducible (first | apply opsF.nil | apply seqF.nn | apply vcF.seq | apply vcF.region | apply vcF.skip | apply vcF.ret | apply seqF.r)
    | ((with_reducible apply opsF.call); (case hx => exact tAG))
    | (first | ((with_reducible apply vcF.cond); (case hx => exact tEV))) <;> ((intro hc; try simp only [Int.reduceLT, Int.reduceLE, Int.reduceEq, Int.reduceNe, Int.cast_ofNat_Int, Int.reduceNeg, decide_true, decide_false, not_true_eq_false, not_false_eq_true, decide_eq_true_eq, decide_eq_false_iff_not, Bool.not_eq_true', Bool.not_eq_false', Bool.not_true, Bool.not_false, Bool.false_eq_true, Bool.true_eq_false, Bool.not_eq_true, Bool.not_eq_false, beq_iff_eq, beq_eq_false_iff_ne, bne_iff_ne, bne_eq_false_iff_eq, ne_eq, Int.not_lt, Int.not_le, ge_iff_le, gt_iff_lt, Decidable.not_not, reduceCtorEq, *] at hc) <;> (try (exfalso; omega)))
    | ((with_reducible apply retF.r); (case hv => exact tRS))
    | ((with_reducible apply retF.nn); (case hv => exact tRS))
    | ((refine (sidx_call s c _).mono fun v h' hp => ?_); rw [hi] at hp; obtain ⟨rfl, rfl⟩ := hp))
    all_goals exact ⟨rfl, rfl⟩
  · rw [h3]
    have hi := idx_hit (r := r) h2
    have hle : (a ++ c :: r).length = a.length + (r.length + 1) := by simp
    have htk : ((a ++ c :: r).take a.length).drop 0 = a := by simp
    have hdr : ((a ++ c :: r).take (a ++ c :: r).length).drop (a.length + 1) = r := by rw [List.take_length, show a ++ c :: r = (a ++ [c]) ++ r by simp, List.drop_left' (by simp)]
    generalize a ++ c :: r = s at *
    repeat' (first
    | ((with_reducible apply opsF.op rfl); (case hs => (first | exact tHT | exact tHS)))
    | with_reducible (first | apply opsF.nil | apply seqF.nn | apply vcF.seq | apply vcF.region | apply vcF.skip | apply vcF.ret | apply seqF.r)
    | ((with_reducible apply opsF.call); (case hx => exact tAG))
    | (first | ((with_reducible apply vcF.cond); (case hx => exact tEV))) <;> ((intro hc; try simp only [Int.reduceLT, Int.reduceLE, Int.reduceEq, Int.reduceNe, Int.cast_ofNat_Int, Int.reduceNeg, decide_true, decide_false, not_true_eq_false, not_false_eq_true, decide_eq_true_eq, decide_eq_false_iff_not, Bool.not_eq_true', Bool.not_eq_false', Bool.not_true, Bool.not_false, Bool.false_eq_true, Bool.true_eq_false, Bool.not_eq_true, Bool.not_eq_false, beq_iff_eq, beq_eq_false_iff_ne, bne_iff_ne, bne_eq_false_iff_eq, ne_eq, Int.not_lt, Int.not_le, ge_iff_le, gt_iff_lt, Decidable.not_not, reduceCtorEq, *] at hc) <;> (try (exfalso; omega)))
    | ((with_reducible apply retF.r); (case hv => exact tRS))
    | ((with_reducible apply retF.nn); (case hv => exact tRS))
    | ((refine (sidx_call s c _).mono fun v h' hp => ?_); rw [hi] at hp; obtain ⟨rfl, rfl⟩ := hp))
    refine ⟨?_, rfl⟩
    rw [show ((a.length : Int) + ((1 : Nat) : Int)).toNat = a.length + 1 by omega, ← hle, hdr]
theorem cut_call (s : List UInt8) (c : UInt8) (h : AH) (hl : s.length ≤ 9000000000000000000) : Call P w0 strings_Cut [.v (.string (bs s)), .v (.string (bs [c]))] h
    (fun v h' => v = .tup [.v (.string (bs (cutB c s).1)), .v (.string (bs (cutB c s).2.1)), .v (.bool (cutB c s).2.2)] ∧ h' = h) := by
  refine Call.bodyF b_strings_Cut rfl rfl ?_
  unfold c_strings_Cut
  repeat' (first
    | ((with_reducible apply opsF.op rfl); (case hs => (first | exact tHT | exact tHS)))
    | with_reducible (first | apply opsF.nil | apply seqF.nn | apply vcF.seq | apply vcF.region | apply vcF.skip | apply vcF.ret | apply seqF.r)
    | ((with_reducible apply opsF.call); (case hx => exact tAG))
    | (first | ((with_reducible apply vcF.cond); (case hx => exact tEV))) <;> ((intro hc; try simp only [Int.reduceLT, Int.reduceLE, Int.reduceEq, Int.reduceNe, Int.cast_ofNat_Int, Int.reduceNeg, decide_true, decide_false, not_true_eq_false, not_false_eq_true, decide_eq_true_eq, decide_eq_false_iff_not, Bool.not_eq_true', Bool.not_eq_false', Bool.not_true, Bool.not_false, Bool.false_eq_true, Bool.true_eq_false, Bool.not_eq_true, Bool.not_eq_false, beq_iff_eq, beq_eq_false_iff_ne, bne_iff_ne, bne_eq_false_iff_eq, ne_eq, Int.not_lt, Int.not_le, ge_iff_le, gt_iff_lt, Decidable.not_not, reduceCtorEq, *] at hc) <;> (try (exfalso; omega)))
    | ((with_reducible apply retF.r); (case hv => exact tRS))
    | ((with_reducible apply retF.nn); (case hv => exact tRS))
    | ((refine (lcut_call s c _ hl).mono fun v h' hp => ?_); obtain ⟨rfl, rfl⟩ := hp))
  all_goals exact ⟨rfl, rfl⟩
theorem is_mks1 {σ : Fm} {h : AH} {eb : Nat} {z : AV} {l c : Opd} {n : Nat} (hx : evF σ l = .v (.int .i64 (n : Int))) (hy : evF σ c = .v (.int .i64 (n : Int))) (hb : n * eb ≤ 140737488355328 ∧ n ≤ 9223372036854775807) :
    istep (.mks 1 eb [z] l c) (evF σ) h = some (.row h.n 0 n (some n), h.alloc (.cells (List.replicate n z))) := by
  have hfl : ∀ k : Nat, (List.replicate k [z]).flatten = List.replicate k z := by
    intro k
    induction k with
    | zero => rfl
    | succ k ih => rw [List.replicate_succ, List.flatten_cons, ih, List.replicate_succ]; rfl
  simp only [istep, hx, hy]
  rw [if_pos (by omega), Int.toNat_natCast, hfl]
theorem is_mn {σ : Fm} {h : AH} {x y : Opd} {a b : Int} (hx : evF σ x = .v (.int .i64 a)) (hy : evF σ y = .v (.int .i64 b)) (hb : a ≤ b) : istep (.mnx false [x, y]) (evF σ) h = some (.v (.int .i64 a), h) := by
  simp only [istep, List.map_cons, List.map_nil, hx, hy, List.foldl_cons, List.foldl_nil, Option.map_some, Bool.false_eq_true, if_false]
  rw [if_neg (by omega)]
theorem wrL_mid {v y : AV} {ys : List AV} : ∀ {xs : List AV} {n : Nat}, n = xs.length → wrL (xs ++ y :: ys) n [v] = xs ++ v :: ys := by
  rintro xs n rfl
  simp [wrL]
theorem genSplit_call (s0 : List UInt8) (c : UInt8) (h : AH) (hl : s0.length ≤ 8000000000000) : Call P w0 strings_genSplit [.v (.string (bs s0)), .v (.string (bs [c])), .v (.int .i64 0), .v (.int .i64 (-1))] h
    (fun v h' => v = .list 1 (srows (splB c s0)) .no ∧ Ext h h') := by
  refine Call.frz ?_
  have hcl : s0.count c ≤ s0.length := List.count_le_length
  refine Call.bodyF b_strings_genSplit rfl rfl ?_
  unfold c_strings_genSplit
  repeat' (first
    | ((with_reducible apply opsF.op rfl); (case hs => (first | exact tHT | exact tHS)))
    | with_reducible (first | apply opsF.nil | apply seqF.nn | apply vcF.seq | apply vcF.region | apply vcF.skip | apply vcF.block | apply vcF.exit | apply vcF.ret | apply vcF.loop | apply seqF.e | apply seqF.r | apply blkF.nn | apply blkF.e | apply blkF.r | apply blkF.o rfl)
    | ((with_reducible apply opsF.call); (case hx => exact tAG))
    | (first | ((with_reducible apply vcF.cond); (case hx => exact tEV))) <;> ((intro hc; try simp only [Int.reduceLT, Int.reduceLE, Int.reduceEq, Int.reduceNe, Int.cast_ofNat_Int, Int.reduceNeg, decide_true, decide_false, not_true_eq_false, not_false_eq_true, decide_eq_true_eq, decide_eq_false_iff_not, Bool.not_eq_true', Bool.not_eq_false', Bool.not_true, Bool.not_false, Bool.false_eq_true, Bool.true_eq_false, Bool.not_eq_true, Bool.not_eq_false, beq_iff_eq, beq_eq_false_iff_ne, bne_iff_ne, bne_eq_false_iff_eq, ne_eq, Int.not_lt, Int.not_le, ge_iff_le, gt_iff_lt, Decidable.not_not, reduceCtorEq, *] at hc) <;> (try (exfalso; omega)))
    | ((with_reducible apply retF.r); (case hv => exact tRS))
    | ((with_reducible apply retF.nn); (case hv => exact tRS))
    | ((refine (count_call s0 c _).mono fun v h hp => ?_); obtain ⟨rfl, rfl⟩ := hp))
  have hrep : ∀ k : Nat, (List.replicate k [AV.v (.string (bs []))]).flatten = List.replicate k (AV.v (.string (bs []))) := by
    intro k
    induction k with
    | zero => rfl
    | succ k ih => rw [List.replicate_succ, List.flatten_cons, ih, List.replicate_succ]; rfl
  refine LpF.ind rfl (fun i : Nat => s0.length + 1 - i) (fun i σ h' => ∃ (s : List UInt8) (done : List (List UInt8)), Ext h h' ∧ h.n < h'.n ∧ σ 0 = .v (.string (bs s)) ∧ σ 1 = .v (.string (bs [c])) ∧ σ 2 = .v (.int .i64 0) ∧ σ 3 = .v (.int .i64 (s0.count c : Nat)) ∧ σ 9 = .row h.n 0 (s0.count c + 1) (some (s0.count c + 1)) ∧ σ 10 = .v (.int .i64 (i : Nat)) ∧
    done.length = i ∧ i + s.count c = s0.count c ∧ s.length ≤ s0.length ∧ splB c s0 = done ++ splB c s ∧ h'.objs h.n = some (.cells (done.map (fun x => AV.v (.string (bs x))) ++ List.replicate (s0.count c + 1 - i) (AV.v (.string (bs [])))))) ?_ (i := 0) ?_
  · rintro i σ h' ⟨s, done, hE, hn, h0, h1, h2, h3, h9, h10, hd, hc1, hsl, hsp, ho⟩
    have hcs : s.count c ≤ s.length := List.count_le_length
    rcases cutB_cases c s with ⟨g1, g2⟩ | ⟨a, r, hs, g2, g3⟩
    · have hz : s.count c = 0 := List.count_eq_zero.2 g1
      have hi : i = s0.count c := by omega
      have hrp : List.replicate (s0.count c + 1 - i) (AV.v (.string (bs []))) = [AV.v (.string (bs []))] := by rw [show s0.count c + 1 - i = 1 by omega]; rfl
      rw [hrp] at ho
      have hw := wrL_mid (v := .v (.string (bs s))) (y := AV.v (.string (bs []))) (ys := []) (xs := done.map (fun x => AV.v (.string (bs x)))) (n := i) (by simp [hd])
      have hlen : (done.map (fun x => AV.v (.string (bs x))) ++ [AV.v (.string (bs []))]).length = i + 1 := by simp [hd]
      generalize done.map (fun x => AV.v (.string (bs x))) ++ [AV.v (.string (bs []))] = cs at ho hw hlen
      repeat' (first
    | ((with_reducible apply opsF.op rfl); (case hs => (first | exact tHT | exact tHS)))
    | with_reducible (first | apply opsF.nil | apply seqF.nn | apply vcF.seq | apply vcF.region | apply vcF.skip | apply vcF.block | apply vcF.exit | apply vcF.ret | apply vcF.loop | apply seqF.e | apply seqF.r | apply blkF.nn | apply blkF.e | apply blkF.r | apply blkF.o rfl)
    | ((with_reducible apply opsF.call); (case hx => exact tAG))
    | (first | ((with_reducible apply vcF.cond); (case hx => exact tEV))) <;> ((intro hc; try simp only [Int.reduceLT, Int.reduceLE, Int.reduceEq, Int.reduceNe, Int.cast_ofNat_Int, Int.reduceNeg, decide_true, decide_false, not_true_eq_false, not_false_eq_true, decide_eq_true_eq, decide_eq_false_iff_not, Bool.not_eq_true', Bool.not_eq_false', Bool.not_true, Bool.not_false, Bool.false_eq_true, Bool.true_eq_false, Bool.not_eq_true, Bool.not_eq_false, beq_iff_eq, beq_eq_false_iff_ne, bne_iff_ne, bne_eq_false_iff_eq, ne_eq, Int.not_lt, Int.not_le, ge_iff_le, gt_iff_lt, Decidable.not_not, reduceCtorEq, *] at hc) <;> (try (exfalso; omega)))
    | ((with_reducible apply retF.r); (case hv => exact tRS))
    | ((with_reducible apply retF.nn); (case hv => exact tRS)))
      have e1 : (((s0.count c : Nat) : Int) + 1).toNat - 0 = ((done ++ [s]).map (fun x => AV.v (.string (bs x)))).length := by simp; omega
      have e2 : cs.set (0 + s0.count c * 1) (.v (.string (bs s))) = (done ++ [s]).map (fun x => AV.v (.string (bs x))) := by
        rw [Nat.zero_add, Nat.mul_one, ← hi, List.map_append]
        exact hw
      rw [e1, e2]
      refine ⟨h.n, _, _, [], rfl, ?_, ?_, ?_, (hE.set (Nat.le_refl _) _).drop (Nat.le_refl _)⟩
      · simp [set_at]
      · intro x hx
        obtain ⟨y, _, rfl⟩ := List.mem_map.1 hx
        rfl
      · rw [hsp, splB_miss g1]
        simp [srows]
    · have hpos : 0 < s.count c := by rw [hs]; simp; omega
      have hsl2 : s.length = a.length + (r.length + 1) := by rw [hs]; simp
      have hrc : s.count c = r.count c + 1 := by rw [hs, List.count_append, List.count_eq_zero.2 g2, List.count_cons_self]; omega
      have hidx : Lib.indexByte s c = (a.length : Int) := by rw [hs]; exact idx_hit g2
      have hsp2 : splB c s = a :: splB c r := by rw [hs]; exact splB_hit g2
      have htk : (s.take a.length).drop 0 = a := by rw [hs]; simp
      have hdr : (s.take s.length).drop (a.length + 1) = r := by rw [List.take_length, hs, show a ++ c :: r = (a ++ [c]) ++ r by simp, List.drop_left' (by simp)]
      have hrp : List.replicate (s0.count c + 1 - i) (AV.v (.string (bs []))) = AV.v (.string (bs [])) :: List.replicate (s0.count c + 1 - (i + 1)) (AV.v (.string (bs []))) := by rw [show s0.count c + 1 - i = (s0.count c + 1 - (i + 1)) + 1 by omega, List.replicate_succ]
      rw [hrp] at ho
      have hw := wrL_mid (v := .v (.string (bs a))) (y := AV.v (.string (bs []))) (ys := List.replicate (s0.count c + 1 - (i + 1)) (AV.v (.string (bs [])))) (xs := done.map (fun x => AV.v (.string (bs x)))) (n := i) (by simp [hd])
      have hlen : (done.map (fun x => AV.v (.string (bs x))) ++ AV.v (.string (bs [])) :: List.replicate (s0.count c + 1 - (i + 1)) (AV.v (.string (bs [])))).length = s0.count c + 1 := by simp [hd]; omega
      generalize done.map (fun x => AV.v (.string (bs x))) ++ AV.v (.string (bs [])) :: List.replicate (s0.count c + 1 - (i + 1)) (AV.v (.string (bs []))) = cs at ho hw hlen
      clear hs
      repeat' (first
    | ((with_reducible apply opsF.op rfl); (case hs => (first | exact tHT | exact tHS)))
    | with_reducible (first | apply opsF.nil | apply seqF.nn | apply vcF.seq | apply vcF.region | apply vcF.skip | apply vcF.block | apply vcF.exit | apply vcF.ret | apply vcF.loop | apply seqF.e | apply seqF.r | apply blkF.nn | apply blkF.e | apply blkF.r | apply blkF.o rfl)
    | ((with_reducible apply opsF.call); (case hx => exact tAG))
    | (first | ((with_reducible apply vcF.cond); (case hx => exact tEV))) <;> ((intro hc; try simp only [Int.reduceLT, Int.reduceLE, Int.reduceEq, Int.reduceNe, Int.cast_ofNat_Int, Int.reduceNeg, decide_true, decide_false, not_true_eq_false, not_false_eq_true, decide_eq_true_eq, decide_eq_false_iff_not, Bool.not_eq_true', Bool.not_eq_false', Bool.not_true, Bool.not_false, Bool.false_eq_true, Bool.true_eq_false, Bool.not_eq_true, Bool.not_eq_false, beq_iff_eq, beq_eq_false_iff_ne, bne_iff_ne, bne_eq_false_iff_eq, ne_eq, Int.not_lt, Int.not_le, ge_iff_le, gt_iff_lt, Decidable.not_not, reduceCtorEq, *] at hc) <;> (try (exfalso; omega)))
    | ((with_reducible apply retF.r); (case hv => exact tRS))
    | ((with_reducible apply retF.nn); (case hv => exact tRS))
    | ((refine (idx_call s c _).mono fun v h' hp => ?_); rw [hidx] at hp; obtain ⟨rfl, rfl⟩ := hp))
      refine ⟨i + 1, by omega, r, done ++ [a], hE.set (Nat.le_refl _) _, hn, ?_, h1, h2, h3, h9, rfl, by simp [hd], by omega, by omega, by rw [hsp, hsp2]; simp, ?_⟩
      · have e3 : (s.take (a.length + (r.length + 1))).drop ((a.length : Int) + ((1 : Nat) : Int)).toNat = r := by
          rw [show ((a.length : Int) + ((1 : Nat) : Int)).toNat = a.length + 1 by omega, ← hsl2, hdr]
        conv => lhs; whnf
        rw [e3]
      · have e2 : cs.set (0 + i * 1) (.v (.string (bs a))) = (done ++ [a]).map (fun x => AV.v (.string (bs x))) ++ List.replicate (s0.count c + 1 - (i + 1)) (AV.v (.string (bs []))) := by
          rw [Nat.zero_add, Nat.mul_one, List.map_append, List.append_assoc]
          exact hw
        rw [e2]
        simp [set_at]
  · refine ⟨s0, [], Ext.alloc _ _, ?_, rfl, rfl, rfl, ?_, ?_, rfl, rfl, by simp, Nat.le_refl _, rfl, ?_⟩
    · simp only [alloc_n]; omega
    · conv => lhs; whnf
      rw [if_neg (by omega), show ((s0.count c : Nat) : Int) + 1 - 1 = (s0.count c : Nat) by omega]
    · conv => lhs; whnf
      rw [show (((s0.count c : Nat) : Int) + 1).toNat = s0.count c + 1 by omega]
    · rw [hrep, show (((s0.count c : Nat) : Int) + 1).toNat = s0.count c + 1 by omega]
      simp [alloc_at]
theorem spl_call (s : List UInt8) (c : UInt8) (h : AH) (hl : s.length ≤ 8000000000000) : Call P w0 strings_Split [.v (.string (bs s)), .v (.string (bs [c]))] h
    (fun v h' => v = .list 1 (srows (splB c s)) .no ∧ Ext h h') := by
  refine Call.bodyF b_strings_Split rfl rfl ?_
  unfold c_strings_Split
  repeat' (first
    | ((with_reducible apply opsF.op rfl); (case hs => (first | exact tHT | exact tHS)))
    | with_reducible (first | apply opsF.nil | apply seqF.nn | apply vcF.seq | apply vcF.region | apply vcF.skip | apply vcF.ret | apply seqF.r)
    | ((with_reducible apply opsF.call); (case hx => exact tAG))
    | (first | ((with_reducible apply vcF.cond); (case hx => exact tEV))) <;> ((intro hc; try simp only [Int.reduceLT, Int.reduceLE, Int.reduceEq, Int.reduceNe, Int.cast_ofNat_Int, Int.reduceNeg, decide_true, decide_false, not_true_eq_false, not_false_eq_true, decide_eq_true_eq, decide_eq_false_iff_not, Bool.not_eq_true', Bool.not_eq_false', Bool.not_true, Bool.not_false, Bool.false_eq_true, Bool.true_eq_false, Bool.not_eq_true, Bool.not_eq_false, beq_iff_eq, beq_eq_false_iff_ne, bne_iff_ne, bne_eq_false_iff_eq, ne_eq, Int.not_lt, Int.not_le, ge_iff_le, gt_iff_lt, Decidable.not_not, reduceCtorEq, *] at hc) <;> (try (exfalso; omega)))
    | ((with_reducible apply retF.r); (case hv => exact tRS))
    | ((with_reducible apply retF.nn); (case hv => exact tRS))
    | ((refine (genSplit_call s c _ hl).mono fun v h' hp => ?_); obtain ⟨rfl, he⟩ := hp))
  all_goals exact ⟨rfl, he⟩
/-! a text without its first byte -/
theorem hasP_call (s : List UInt8) (c : UInt8) (h : AH) : Call P w0 i_stringslite_HasPrefix [.v (.string (bs s)), .v (.string (bs [c]))] h
    (fun v h' => v = .v (.bool (decide (s.head? = some c))) ∧ h' = h) := by
  refine Call.bodyF b_i_stringslite_HasPrefix rfl rfl ?_
  unfold c_i_stringslite_HasPrefix
  cases s with
  | nil =>
    repeat' (first
    | ((with_reducible apply opsF.op rfl); (case hs => (first | exact tHT | exact tHS)))
    | with_reducible (first | apply opsF.nil | apply seqF.nn | apply vcF.seq | apply vcF.region | apply vcF.skip | apply vcF.ret | apply seqF.r)
    | ((with_reducible apply opsF.call); (case hx => exact tAG))
    | ((with_reducible apply opsF.want); (case hg => exact tEV); (case hb => exact tNB))
    | ((with_reducible apply opsF.skip); (case hg => exact tEV); (case hb => exact tNB))
    | (first | ((with_reducible apply opsF.case); (case hg => exact tEV)) | ((with_reducible apply vcF.cond); (case hx => exact tEV))) <;> ((intro hc; try simp only [Int.reduceLT, Int.reduceLE, Int.reduceEq, Int.reduceNe, Int.cast_ofNat_Int, Int.reduceNeg, decide_true, decide_false, not_true_eq_false, not_false_eq_true, decide_eq_true_eq, decide_eq_false_iff_not, Bool.not_eq_true', Bool.not_eq_false', Bool.not_true, Bool.not_false, Bool.false_eq_true, Bool.true_eq_false, Bool.not_eq_true, Bool.not_eq_false, beq_iff_eq, beq_eq_false_iff_ne, bne_iff_ne, bne_eq_false_iff_eq, ne_eq, Int.not_lt, Int.not_le, ge_iff_le, gt_iff_lt, Decidable.not_not, reduceCtorEq, *] at hc) <;> (try (exfalso; omega)))
    | ((with_reducible apply opsF.und); (case hg => rfl))
    | ((with_reducible apply retF.r); (case hv => exact tRS))
    | ((with_reducible apply retF.nn); (case hv => exact tRS)))
    all_goals exact ⟨rfl, rfl⟩
  | cons x r =>
    repeat' (first
    | ((with_reducible apply opsF.op rfl); (case hs => (first | exact tHT | exact tHS)))
    | with_reducible (first | apply opsF.nil | apply seqF.nn | apply vcF.seq | apply vcF.region | apply vcF.skip | apply vcF.ret | apply seqF.r)
    | ((with_reducible apply opsF.call); (case hx => exact tAG))
    | ((with_reducible apply opsF.want); (case hg => exact tEV); (case hb => exact tNB))
    | ((with_reducible apply opsF.skip); (case hg => exact tEV); (case hb => exact tNB))
    | (first | ((with_reducible apply opsF.case); (case hg => exact tEV)) | ((with_reducible apply vcF.cond); (case hx => exact tEV))) <;> ((intro hc; try simp only [Int.reduceLT, Int.reduceLE, Int.reduceEq, Int.reduceNe, Int.cast_ofNat_Int, Int.reduceNeg, decide_true, decide_false, not_true_eq_false, not_false_eq_true, decide_eq_true_eq, decide_eq_false_iff_not, Bool.not_eq_true', Bool.not_eq_false', Bool.not_true, Bool.not_false, Bool.false_eq_true, Bool.true_eq_false, Bool.not_eq_true, Bool.not_eq_false, beq_iff_eq, beq_eq_false_iff_ne, bne_iff_ne, bne_eq_false_iff_eq, ne_eq, Int.not_lt, Int.not_le, ge_iff_le, gt_iff_lt, Decidable.not_not, reduceCtorEq, *] at hc) <;> (try (exfalso; omega)))
    | ((with_reducible apply opsF.und); (case hg => rfl))
    | ((with_reducible apply retF.r); (case hv => exact tRS))
    | ((with_reducible apply retF.nn); (case hv => exact tRS)))
    all_goals (refine ⟨?_, rfl⟩; simp)
theorem lcutP_call (s : List UInt8) (c : UInt8) (h : AH) (hl : s.length ≤ 9000000000000000000) : Call P w0 i_stringslite_CutPrefix [.v (.string (bs s)), .v (.string (bs [c]))] h
    (fun v h' => v = (if s.head? = some c then .tup [.v (.string (bs s.tail)), .v (.bool true)] else .tup [.v (.string (bs s)), .v (.bool false)]) ∧ h' = h) := by
  refine Call.bodyF b_i_stringslite_CutPrefix rfl rfl ?_
  unfold c_i_stringslite_CutPrefix
  by_cases hc0 : s.head? = some c
  · have hd : decide (s.head? = some c) = true := decide_eq_true hc0
    obtain ⟨r, rfl⟩ : ∃ r, s = c :: r := by
      cases s with
      | nil => cases hc0
      | cons x r =>
        simp only [List.head?_cons, Option.some.injEq] at hc0
        exact ⟨r, by rw [hc0]⟩
    rw [if_pos hc0]
    have hdr : ((c :: r).take (c :: r).length).drop 1 = r := by rw [List.take_length]; rfl
    have hsl : (c :: r).length = r.length + 1 := rfl
    have htl : (c :: r).tail = r := rfl
    generalize c :: r = s at *
    repeat' (first
    | ((with_reducible apply opsF.op rfl); (case hs => (first | exact tHT | exact tHS)))
    | with_reducible (first | apply opsF.nil | apply seqF.nn | apply vcF.seq | apply vcF.region | apply vcF.skip | apply vcF.ret | apply seqF.r)
    | ((with_reducible apply opsF.call); (case hx => exact tAG))
    | (first | ((with_reducible apply vcF.cond); (case hx => exact tEV))) <;> ((intro hc; try simp only [Int.reduceLT, Int.reduceLE, Int.reduceEq, Int.reduceNe, Int.cast_ofNat_Int, Int.reduceNeg, decide_true, decide_false, not_true_eq_false, not_false_eq_true, decide_eq_true_eq, decide_eq_false_iff_not, Bool.not_eq_true', Bool.not_eq_false', Bool.not_true, Bool.not_false, Bool.false_eq_true, Bool.true_eq_false, Bool.not_eq_true, Bool.not_eq_false, beq_iff_eq, beq_eq_false_iff_ne, bne_iff_ne, bne_eq_false_iff_eq, ne_eq, Int.not_lt, Int.not_le, ge_iff_le, gt_iff_lt, Decidable.not_not, reduceCtorEq, *] at hc) <;> (try (exfalso; omega)))
    | ((with_reducible apply retF.r); (case hv => exact tRS))
    | ((with_reducible apply retF.nn); (case hv => exact tRS))
    | ((refine (hasP_call s c _).mono fun v h' hp => ?_); rw [hd] at hp; obtain ⟨rfl, rfl⟩ := hp))
    refine ⟨?_, rfl⟩
    rw [htl, ← hsl, hdr]
  · have hd : decide (s.head? = some c) = false := decide_eq_false hc0
    rw [if_neg hc0]
    repeat' (first
    | ((with_reducible apply opsF.op rfl); (case hs => (first | exact tHT | exact tHS)))
    | with_reducible (first | apply opsF.nil | apply seqF.nn | apply vcF.seq | apply vcF.region | apply vcF.skip | apply vcF.ret | apply seqF.r)
    | ((with_reducible apply opsF.call); (case hx => exact tAG))
    | (first | ((with_reducible apply vcF.cond); (case hx => exact tEV))) <;> ((intro hc; try simp only [Int.reduceLT, Int.reduceLE, Int.reduceEq, Int.reduceNe, Int.cast_ofNat_Int, Int.reduceNeg, decide_true, decide_false, not_true_eq_false, not_false_eq_true, decide_eq_true_eq, decide_eq_false_iff_not, Bool.not_eq_true', Bool.not_eq_false', Bool.not_true, Bool.not_false, Bool.false_eq_true, Bool.true_eq_false, Bool.not_eq_true, Bool.not_eq_false, beq_iff_eq, beq_eq_false_iff_ne, bne_iff_ne, bne_eq_false_iff_eq, ne_eq, Int.not_lt, Int.not_le, ge_iff_le, gt_iff_lt, Decidable.not_not, reduceCtorEq, *] at hc) <;> (try (exfalso; omega)))
    | ((with_reducible apply retF.r); (case hv => exact tRS))
    | ((with_reducible apply retF.nn); (case hv => exact tRS))
    | ((refine (hasP_call s c _).mono fun v h' hp => ?_); rw [hd] at hp; obtain ⟨rfl, rfl⟩ := hp))
    all_goals exact ⟨rfl, rfl⟩
theorem cutP_call (s : List UInt8) (c : UInt8) (h : AH) (hl : s.length ≤ 9000000000000000000) : Call P w0 strings_CutPrefix [.v (.string (bs s)), .v (.string (bs [c]))] h
    (fun v h' => v = (if s.head? = some c then .tup [.v (.string (bs s.tail)), .v (.bool true)] else .tup [.v (.string (bs s)), .v (.bool false)]) ∧ h' = h) := by
  refine Call.bodyF b_strings_CutPrefix rfl rfl ?_
  unfold c_strings_CutPrefix
  by_cases hc0 : s.head? = some c
  · simp only [if_pos hc0]
    repeat' (first
    | ((with_reducible apply opsF.op rfl); (case hs => (first | exact tHT | exact tHS)))
    | with_reducible (first | apply opsF.nil | apply seqF.nn | apply vcF.seq | apply vcF.region | apply vcF.skip | apply vcF.ret | apply seqF.r)
    | ((with_reducible apply opsF.call); (case hx => exact tAG))
    | (first | ((with_reducible apply vcF.cond); (case hx => exact tEV))) <;> ((intro hc; try simp only [Int.reduceLT, Int.reduceLE, Int.reduceEq, Int.reduceNe, Int.cast_ofNat_Int, Int.reduceNeg, decide_true, decide_false, not_true_eq_false, not_false_eq_true, decide_eq_true_eq, decide_eq_false_iff_not, Bool.not_eq_true', Bool.not_eq_false', Bool.not_true, Bool.not_false, Bool.false_eq_true, Bool.true_eq_false, Bool.not_eq_true, Bool.not_eq_false, beq_iff_eq, beq_eq_false_iff_ne, bne_iff_ne, bne_eq_false_iff_eq, ne_eq, Int.not_lt, Int.not_le, ge_iff_le, gt_iff_lt, Decidable.not_not, reduceCtorEq, *] at hc) <;> (try (exfalso; omega)))
    | ((with_reducible apply retF.r); (case hv => exact tRS))
    | ((with_reducible apply retF.nn); (case hv => exact tRS))
    | ((refine (lcutP_call s c _ hl).mono fun v h' hp => ?_); rw [if_pos hc0] at hp; obtain ⟨rfl, rfl⟩ := hp))
    all_goals exact ⟨rfl, rfl⟩
  · simp only [if_neg hc0]
    repeat' (first
    | ((with_reducible apply opsF.op rfl); (case hs => (first | exact tHT | exact tHS)))
    | with_reducible (first | apply opsF.nil | apply seqF.nn | apply vcF.seq | apply vcF.region | apply vcF.skip | apply vcF.ret | apply seqF.r)
    | ((with_reducible apply opsF.call); (case hx => exact tAG))
    | (first | ((with_reducible apply vcF.cond); (case hx => exact tEV))) <;> ((intro hc; try simp only [Int.reduceLT, Int.reduceLE, Int.reduceEq, Int.reduceNe, Int.cast_ofNat_Int, Int.reduceNeg, decide_true, decide_false, not_true_eq_false, not_false_eq_true, decide_eq_true_eq, decide_eq_false_iff_not, Bool.not_eq_true', Bool.not_eq_false', Bool.not_true, Bool.not_false, Bool.false_eq_true, Bool.true_eq_false, Bool.not_eq_true, Bool.not_eq_false, beq_iff_eq, beq_eq_false_iff_ne, bne_iff_ne, bne_eq_false_iff_eq, ne_eq, Int.not_lt, Int.not_le, ge_iff_le, gt_iff_lt, Decidable.not_not, reduceCtorEq, *] at hc) <;> (try (exfalso; omega)))
    | ((with_reducible apply retF.r); (case hv => exact tRS))
    | ((with_reducible apply retF.nn); (case hv => exact tRS))
    | ((refine (lcutP_call s c _ hl).mono fun v h' hp => ?_); rw [if_neg hc0] at hp; obtain ⟨rfl, rfl⟩ := hp))
    all_goals exact ⟨rfl, rfl⟩
end Go.Abs.F
namespace Go.Abs.F
open Go Go.Abs Go.RowKit
set_option maxRecDepth 10000
set_option maxHeartbeats 2000000
set_option linter.unusedSimpArgs false
set_option linter.unusedVariables false
variable {w0 : World}
theorem drop_step {α : Type} {l : List α} {i : Nat} {x : α} (hx : l[i]? = some x) : l.drop i = x :: l.drop (i + 1) := by
  obtain ⟨h, rfl⟩ := List.getElem?_eq_some_iff.1 hx
  exact List.drop_eq_getElem_cons h
def glue (cur : List UInt8) : List (List UInt8) → List (List UInt8)
  | [] => [cur]
  | a :: t => (cur ++ a) :: t
theorem glue_nil (c : UInt8) (s : List UInt8) : glue [] (splB c s) = splB c s := by
  cases h : splB c s with
  | nil => exact absurd h (splB_ne c s)
  | cons a t => rfl
/-- The cells of strings. -/
def scel (l : List (List UInt8)) : List AV := l.map fun s => .v (.string (bs s))
theorem scel_len (l : List (List UInt8)) : (scel l).length = l.length := by simp [scel]
theorem scel_app (l m : List (List UInt8)) : scel (l ++ m) = scel l ++ scel m := by simp [scel]
theorem wrL_nil (cs : List AV) (n : Nat) : wrL cs n [] = cs := rfl
theorem wrL_one (cs : List AV) (n : Nat) (a : AV) : wrL cs n [a] = cs.set n a := rfl
/-- A row of strings that grows. -/
structure Grow (h0 h' : AH) (l : List (List UInt8)) (id c : Nat) (sp : List AV) : Prop where
  ob : h'.objs id = some (.cells (scel l ++ sp))
  cl : l.length + sp.length = c
  hi : h0.n ≤ id
  lt : id < h'.n
  ext : Ext h0 h'
theorem Grow.put {h0 h' : AH} {l : List (List UInt8)} {id c : Nat} {sp : List AV} (g : Grow h0 h' l id c sp) (x : List UInt8) (hr : l.length + 1 ≤ c) : ∃ sp', Grow h0 (h'.set id (.cells (wrL (scel l ++ sp) (l.length * 1) [.v (.string (bs x))]))) (l ++ [x]) id c sp' := by
  have hcl := g.cl
  cases sp with
  | nil => simp at hcl; omega
  | cons a sp =>
    refine ⟨sp, ?_, by simp at hcl ⊢; omega, g.hi, g.lt, g.ext.set g.hi _⟩
    rw [set_at, if_pos rfl, wrL_one, Nat.mul_one, List.set_append_right _ _ (by rw [scel_len]; exact Nat.le_refl _), scel_len, Nat.sub_self, List.set_cons_zero, scel_app]
    simp [scel]
theorem Grow.new {h0 h' : AH} {l : List (List UInt8)} {id c : Nat} {sp : List AV} (g : Grow h0 h' l id c sp) (x : List UInt8) {C : Nat} {sp2 : List AV} (hC : l.length + 1 ≤ C) (hs : sp2.length = (C - (l.length + 1)) * 1) : Grow h0 (h'.alloc (.cells ((scel l ++ sp).take (l.length * 1) ++ ([.v (.string (bs x))] ++ sp2)))) (l ++ [x]) h'.n C sp2 := by
  refine ⟨?_, by simp; omega, Nat.le_trans g.hi (Nat.le_of_lt g.lt), by rw [alloc_n]; omega, g.ext.trans (Ext.alloc _ _)⟩
  rw [alloc_at, if_pos rfl, List.take_append_of_le_length (by rw [scel_len]; omega), List.take_of_length_le (by rw [scel_len]; omega), scel_app]
  simp [scel]
theorem Grow.store {h0 h' : AH} {l : List (List UInt8)} {y : List UInt8} {id c : Nat} {sp : List AV} (g : Grow h0 h' (l ++ [y]) id c sp) (x : List UInt8) : Grow h0 (h'.set id (.cells (wrL (scel (l ++ [y]) ++ sp) l.length [.v (.string (bs x))]))) (l ++ [x]) id c sp := by
  have hcl := g.cl
  refine ⟨?_, by simp at hcl ⊢; omega, g.hi, g.lt, g.ext.set g.hi _⟩
  rw [set_at, if_pos rfl, wrL_one, scel_app, scel_app, List.append_assoc, List.append_assoc, List.set_append_right _ _ (by rw [scel_len]; exact Nat.le_refl _), scel_len, Nat.sub_self]
  rfl
theorem rcut_row (s : List UInt8) (c : UInt8) (h : AH) (hl : s.length ≤ 1000000000) : Call P w0 ref01_Cut [.v (.string (bs s)), .v (.int .u8 (c.toNat : Int))] h
    (fun v h' => ∃ id cp sp, v = .row id 0 (splB c s).length (some cp) ∧ Grow h h' (splB c s) id cp sp) := by
  refine Call.bodyF b_ref01_Cut rfl rfl ?_
  unfold c_ref01_Cut
  repeat' (first
    | ((with_reducible apply opsF.op rfl); (case hs => (first | exact tHT | exact tHS)))
    | with_reducible (first | apply opsF.nil | apply seqF.nn | apply vcF.seq | apply vcF.region | apply vcF.skip | apply vcF.block | apply vcF.exit | apply vcF.ret | apply vcF.loop | apply seqF.e | apply seqF.r | apply blkF.nn | apply blkF.e | apply blkF.r | apply blkF.o rfl)
    | ((with_reducible apply opsF.call); (case hx => exact tAG))
    | (first | ((with_reducible apply vcF.cond); (case hx => exact tEV))) <;> ((intro hc; try simp only [Int.reduceLT, Int.reduceLE, Int.reduceEq, Int.reduceNe, Int.cast_ofNat_Int, Int.reduceNeg, decide_true, decide_false, not_true_eq_false, not_false_eq_true, decide_eq_true_eq, decide_eq_false_iff_not, Bool.not_eq_true', Bool.not_eq_false', Bool.not_true, Bool.not_false, Bool.false_eq_true, Bool.true_eq_false, Bool.not_eq_true, Bool.not_eq_false, beq_iff_eq, beq_eq_false_iff_ne, bne_iff_ne, bne_eq_false_iff_eq, ne_eq, Int.not_lt, Int.not_le, ge_iff_le, gt_iff_lt, Decidable.not_not, reduceCtorEq, *] at hc) <;> (try (exfalso; omega)))
    | ((with_reducible apply retF.r); (case hv => exact tRS))
    | ((with_reducible apply retF.nn); (case hv => exact tRS))
    | ((with_reducible apply opsF.op rfl); (case hs => rfl)))
  refine LpF.ind rfl (fun i : Nat => s.length - i) (fun i σ h' => ∃ (done : List (List UInt8)) (cur : List UInt8) (id cp : Nat) (sp : List AV), i ≤ s.length ∧ σ 0 = .v (.string (bs s)) ∧ σ 1 = .v (.int .u8 (c.toNat : Int)) ∧ σ 6 = .v (.int .i64 (i : Nat)) ∧ σ 5 = .row id 0 (done.length + 1) (some cp) ∧ Grow h h' (done ++ [cur]) id cp sp ∧
    done ++ glue cur (splB c (s.drop i)) = splB c s ∧ done.length ≤ i ∧ cur.length ≤ i) ?_ (i := 0)
    ⟨[], [], h.n, 1, [], Nat.zero_le _, rfl, rfl, rfl, rfl, ⟨by rw [alloc_at, if_pos rfl]; rfl, rfl, Nat.le_refl _, by rw [alloc_n]; omega, Ext.alloc _ _⟩, by simp [glue_nil], by simp, by simp⟩
  rintro i σ h' ⟨done, cur, id, cp, sp, hi, h0, h1, h6, h5, hG, hS, hd, hc⟩
  have hob := hG.ob
  have hcl : done.length + 1 + sp.length = cp := by have := hG.cl; simpa using this
  have hlt := hG.lt
  have hcs : (scel (done ++ [cur]) ++ sp).length = cp := by simp [scel_len]; omega
  rcases Nat.lt_or_ge i s.length with hil | hil
  · obtain ⟨x, hx⟩ : ∃ x, s[i]? = some x := ⟨_, List.getElem?_eq_getElem hil⟩
    by_cases hxc : x = c
    · subst hxc
      repeat' (first
    | ((with_reducible apply opsF.op rfl); (case hs => (first | exact tHT | exact tHS)))
    | with_reducible (first | apply opsF.nil | apply seqF.nn | apply vcF.seq | apply vcF.region | apply vcF.skip | apply vcF.block | apply vcF.exit | apply vcF.ret | apply vcF.loop | apply seqF.e | apply seqF.r | apply blkF.nn | apply blkF.e | apply blkF.r | apply blkF.o rfl)
    | ((with_reducible apply opsF.call); (case hx => exact tAG))
    | (first | ((with_reducible apply vcF.cond); (case hx => exact tEV))) <;> ((intro hc; try simp only [Int.reduceLT, Int.reduceLE, Int.reduceEq, Int.reduceNe, Int.cast_ofNat_Int, Int.reduceNeg, decide_true, decide_false, not_true_eq_false, not_false_eq_true, decide_eq_true_eq, decide_eq_false_iff_not, Bool.not_eq_true', Bool.not_eq_false', Bool.not_true, Bool.not_false, Bool.false_eq_true, Bool.true_eq_false, Bool.not_eq_true, Bool.not_eq_false, beq_iff_eq, beq_eq_false_iff_ne, bne_iff_ne, bne_eq_false_iff_eq, ne_eq, Int.not_lt, Int.not_le, ge_iff_le, gt_iff_lt, Decidable.not_not, reduceCtorEq, *] at hc) <;> (try (exfalso; omega)))
    | ((with_reducible apply retF.r); (case hv => exact tRS))
    | ((with_reducible apply retF.nn); (case hv => exact tRS))
    | ((with_reducible apply opsF.appR); (case hx => exact tEV); (case hy => exact tEV); (case hv => exact tSR); (case ho => assumption); (case hl => omega); (case hc => omega); (case hb => exact tNB); (case hne => simp); all_goals intro hcp; all_goals (try intro C sp2 hC hs2)))
      · obtain ⟨sp', g2⟩ := hG.put [] (by simpa using hcp)
        rw [List.length_append, List.length_singleton] at g2
        refine ⟨i + 1, by omega, done ++ [cur], [], id, cp, sp', by omega, h0, h1, rfl, by rw [List.length_append]; rfl, g2, ?_, by simp; omega, by simp⟩
        rw [glue_nil, ← hS, drop_step hx, splB, if_pos rfl]
        simp [glue]
      · have g2 := hG.new [] (C := C) (sp2 := sp2) (by simpa using hC) (by simpa using hs2)
        rw [List.length_append, List.length_singleton] at g2
        refine ⟨i + 1, by omega, done ++ [cur], [], h'.n, C, sp2, by omega, h0, h1, rfl, by rw [List.length_append]; rfl, g2, ?_, by simp; omega, by simp⟩
        rw [glue_nil, ← hS, drop_step hx, splB, if_pos rfl]
        simp [glue]
    · have hne : ¬ (x.toNat : Int) = (c.toNat : Int) := fun e => hxc (UInt8.toNat_inj.1 (by omega))
      have hgt : (scel (done ++ [cur]) ++ sp)[done.length]? = some (.v (.string (bs cur))) := by
        rw [scel_app, List.append_assoc, List.getElem?_append_right (by rw [scel_len]; exact Nat.le_refl _), scel_len, Nat.sub_self]; rfl
      have hsl : (s.take (i + 1)).drop i = [x] := by
        rw [List.take_add_one, hx, Option.toList_some, List.drop_append_of_le_length (by simp; omega), List.drop_eq_nil_of_le (by simp; omega)]
        rfl
      have hix : (((done.length + 1 : Nat) : Int) - 1).toNat = done.length := by omega
      have hz : ∀ n : Nat, 0 + n * 1 = n := fun n => by omega
      have hi1 : ((i : Int) + 1).toNat = i + 1 := by omega
      repeat' (first
    | ((with_reducible apply opsF.op rfl); (case hs => (first | exact tHT | exact tHS)))
    | with_reducible (first | apply opsF.nil | apply seqF.nn | apply vcF.seq | apply vcF.region | apply vcF.skip | apply vcF.block | apply vcF.exit | apply vcF.ret | apply vcF.loop | apply seqF.e | apply seqF.r | apply blkF.nn | apply blkF.e | apply blkF.r | apply blkF.o rfl)
    | ((with_reducible apply opsF.call); (case hx => exact tAG))
    | (first | ((with_reducible apply vcF.cond); (case hx => exact tEV))) <;> ((intro hc; try simp only [Int.reduceLT, Int.reduceLE, Int.reduceEq, Int.reduceNe, Int.cast_ofNat_Int, Int.reduceNeg, decide_true, decide_false, not_true_eq_false, not_false_eq_true, decide_eq_true_eq, decide_eq_false_iff_not, Bool.not_eq_true', Bool.not_eq_false', Bool.not_true, Bool.not_false, Bool.false_eq_true, Bool.true_eq_false, Bool.not_eq_true, Bool.not_eq_false, beq_iff_eq, beq_eq_false_iff_ne, bne_iff_ne, bne_eq_false_iff_eq, ne_eq, Int.not_lt, Int.not_le, ge_iff_le, gt_iff_lt, Decidable.not_not, reduceCtorEq, *] at hc) <;> (try (exfalso; omega)))
    | ((with_reducible apply retF.r); (case hv => exact tRS))
    | ((with_reducible apply retF.nn); (case hv => exact tRS)))
      refine ⟨i + 1, by omega, done, cur ++ [x], id, cp, sp, by omega, h0, h1, rfl, h5, ?_, ?_, by omega, by simp; omega⟩
      · have g2 := hG.store (cur ++ [x])
        simpa only [wrL_one, hz] using g2
      · rw [← hS, drop_step hx, splB, if_neg hxc]
        cases hsp : splB c (s.drop (i + 1)) with
        | nil => exact absurd hsp (splB_ne _ _)
        | cons a t => simp [glue]
  · rw [List.drop_eq_nil_of_le hil] at hS
    simp only [splB, glue, List.append_nil] at hS
    rw [← hS]
    repeat' (first
    | ((with_reducible apply opsF.op rfl); (case hs => (first | exact tHT | exact tHS)))
    | with_reducible (first | apply opsF.nil | apply seqF.nn | apply vcF.seq | apply vcF.region | apply vcF.skip | apply vcF.block | apply vcF.exit | apply vcF.ret | apply vcF.loop | apply seqF.e | apply seqF.r | apply blkF.nn | apply blkF.e | apply blkF.r | apply blkF.o rfl)
    | ((with_reducible apply opsF.call); (case hx => exact tAG))
    | (first | ((with_reducible apply vcF.cond); (case hx => exact tEV))) <;> ((intro hc; try simp only [Int.reduceLT, Int.reduceLE, Int.reduceEq, Int.reduceNe, Int.cast_ofNat_Int, Int.reduceNeg, decide_true, decide_false, not_true_eq_false, not_false_eq_true, decide_eq_true_eq, decide_eq_false_iff_not, Bool.not_eq_true', Bool.not_eq_false', Bool.not_true, Bool.not_false, Bool.false_eq_true, Bool.true_eq_false, Bool.not_eq_true, Bool.not_eq_false, beq_iff_eq, beq_eq_false_iff_ne, bne_iff_ne, bne_eq_false_iff_eq, ne_eq, Int.not_lt, Int.not_le, ge_iff_le, gt_iff_lt, Decidable.not_not, reduceCtorEq, *] at hc) <;> (try (exfalso; omega)))
    | ((with_reducible apply retF.r); (case hv => exact tRS))
    | ((with_reducible apply retF.nn); (case hv => exact tRS)))
    all_goals exact ⟨id, cp, sp, by rw [List.length_append]; rfl, hG⟩
theorem rcut_call (s : List UInt8) (c : UInt8) (h : AH) (hl : s.length ≤ 1000000000) : Call P w0 ref01_Cut [.v (.string (bs s)), .v (.int .u8 (c.toNat : Int))] h (fun v h' => v = .list 1 (srows (splB c s)) .no ∧ h' = h) := by
  have key := Call.listed (Q' := fun v h' => v = .list 1 (srows (splB c s)) .no ∧ Ext h h') (rcut_row (w0 := w0) s c h hl) (fun v h' hq => by
    obtain ⟨id, cp, sp, rfl, g⟩ := hq
    refine ⟨id, _, some cp, 1, srows (splB c s), sp, .no, rfl, ?_, srows_len _, fun r hr => ?_, Nat.one_pos, .inl rfl, rfl, g.ext.drop g.hi⟩
    · rw [g.ob]
      congr 2
      simp only [srows, scel]
      clear g hl
      congr 1
      induction splB c s with
      | nil => rfl
      | cons a l ih => rw [List.map_cons, List.map_cons, List.flatten_cons, ih]; rfl
    · simp only [srows, List.mem_map] at hr
      obtain ⟨a, _, rfl⟩ := hr
      rfl)
  refine key.gc fun v h' hq => ⟨?_, hq.2, hq.1⟩
  rw [hq.1]
  refine Plain.listv trivial fun r hr x hx => ?_
  simp only [srows, List.mem_map] at hr
  obtain ⟨a, _, rfl⟩ := hr
  rw [List.mem_singleton.1 hx]
  exact .v _
end Go.Abs.F
