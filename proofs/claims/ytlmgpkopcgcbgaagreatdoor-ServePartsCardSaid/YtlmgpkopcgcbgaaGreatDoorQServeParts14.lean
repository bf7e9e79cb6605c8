/- What the proof needs, part 14: Texts found, cut, split: contracts of the strings package. ref01.Cut: its contract; Layer 1: letters, local parts, labels, domains: the plain side and the program's. Layer 1: the program's local parts, domains. Layer 1: the program's mailboxes; Layer 1: the program's mailboxes and paths. Layer 1: the program's routes and paths. Layer 1: the reference's local parts, domains, mailboxes. Layer 1: the reference's domains, mailboxes; Layer 1: paths: the program's and the reference's; For a seat that has the texts of addresses: what Smb holds elsewhere stands there; built under Smb's name; Replies' lines, read by the program and by the document; Layer 5: bodies; Layer 7: a session with the next hop: the plain side. -/
import Derived.Test.YtlmgpkopcgcbgaaGreatDoorQServeParts13
import Derived.Test.YtlmgpkopcgcbgaaGreatDoorQServeParts12
import Derived.Test.YtlmgpkopcgcbgaaGreatDoorQServeParts11
import Derived.Lib.IndexLaws
import Derived.Test.YtlmgpkopcgcbgaaGreatDoorQServeParts10
/- Texts found, cut, split: contracts of the strings package. ref01.Cut: its contract. -/
namespace Go.Abs.F
open Go Go.Abs
set_option maxRecDepth 10000
set_option maxHeartbeats 20000000
set_option linter.unusedSimpArgs false
set_option linter.unusedVariables false
variable {w0 : World}
theorem bs_list (s : List UInt8) : (bs s).data.toList = s := by simp [bs]
theorem idx_miss {c : UInt8} : ∀ {s : List UInt8}, c ∉ s → Lib.indexByte s c = -1
  | [], _ => rfl
  | x :: s, h => by
    simp only [List.mem_cons, not_or] at h
    have hx : (x == c) = false := by simpa using fun e => h.1 (Eq.symm e)
    rw [Lib.indexByte, hx, idx_miss h.2]
    rfl
theorem idx_hit {c : UInt8} {r : List UInt8} : ∀ {a : List UInt8}, c ∉ a → Lib.indexByte (a ++ c :: r) c = (a.length : Int)
  | [], _ => by simp [Lib.indexByte]
  | x :: a, h => by
    simp only [List.mem_cons, not_or] at h
    have hx : (x == c) = false := by simpa using fun e => h.1 (Eq.symm e)
    rw [List.cons_append, Lib.indexByte, hx, idx_hit h.2]
    have : ((a.length : Int) == -1) = false := by simp
    rw [this]
    simp
theorem idx_call (s : List UInt8) (c : UInt8) (h : AH) : Call P w0 strings_Index [.v (.string (bs s)), .v (.string (bs [c]))] h (fun v h' => v = .v (.int .i64 (Lib.indexByte s c)) ∧ h' = h) := by
  refine Call.plain (vs := [.string (bs s), .string (bs [c])]) ⟨_, Go.Proofs.Tryz.func69, by kernel_rfl, by kernel_rfl⟩ rfl fun Γ w H => ?_
  refine (Go.Proofs.Tryz.strings_Index_one (bs s) c w).mono fun e w' hh => ?_
  obtain ⟨rfl, rfl⟩ := hh
  rw [bs_list]
  exact ⟨rfl, .refl _ _⟩
theorem sidx_call (s : List UInt8) (c : UInt8) (h : AH) : Call P w0 i_stringslite_Index [.v (.string (bs s)), .v (.string (bs [c]))] h (fun v h' => v = .v (.int .i64 (Lib.indexByte s c)) ∧ h' = h) := by
  refine Call.plain (vs := [.string (bs s), .string (bs [c])]) ⟨_, Go.Proofs.Tryz.func84, by kernel_rfl, by kernel_rfl⟩ rfl fun Γ w H => ?_
  refine (Go.Proofs.Tryz.stringslite_Index_one (bs s) c w).mono fun e w' hh => ?_
  obtain ⟨rfl, rfl⟩ := hh
  rw [bs_list]
  exact ⟨rfl, .refl _ _⟩
theorem count_call (s : List UInt8) (c : UInt8) (h : AH) : Call P w0 strings_Count [.v (.string (bs s)), .v (.string (bs [c]))] h (fun v h' => v = .v (.int .i64 (s.count c : Nat)) ∧ h' = h) := by
  refine Call.plain (vs := [.string (bs s), .string (bs [c])]) ⟨_, Go.Proofs.Tryz.func68, by kernel_rfl, by kernel_rfl⟩ rfl fun Γ w H => ?_
  refine (Go.Proofs.Tryz.strings_Count_one (bs s) c w).mono fun e w' hh => ?_
  obtain ⟨rfl, rfl⟩ := hh
  rw [bs_list]
  exact ⟨rfl, .refl _ _⟩
theorem lcut_call (s : List UInt8) (c : UInt8) (h : AH) (hl : s.length ≤ 9000000000000000000) : Call P w0 i_stringslite_Cut [.v (.string (bs s)), .v (.string (bs [c]))] h
    (fun v h' => v = .tup [.v (.string (bs (cutB c s).1)), .v (.string (bs (cutB c s).2.1)), .v (.bool (cutB c s).2.2)] ∧ h' = h) := by
  refine Call.bodyF b_i_stringslite_Cut rfl rfl ?_
  unfold c_i_stringslite_Cut
  rcases cutB_cases c s with ⟨h1, h2⟩ | ⟨a, r, rfl, h2, h3⟩
  · rw [h2]
    have hi := idx_miss h1
    repeat' (first
| ((with_reducible apply opsF.op rfl); case hs => first | exact tHT | exact tHS)
| (with_reducible first | apply opsF.nil | apply seqF.nn | apply vcF.seq | apply vcF.region | apply vcF.skip | apply vcF.ret | apply seqF.r)
| ((with_reducible apply opsF.call); case hx => exact tAG)
| ((with_reducible apply vcF.cond); case hx => exact tEV) <;> ((intro hc; try simp only [Int.reduceLT, Int.reduceLE, Int.reduceEq, Int.reduceNe, Int.cast_ofNat_Int, Int.reduceNeg, reduceCtorEq, ne_eq, ge_iff_le, gt_iff_lt, beq_iff_eq, beq_eq_false_iff_ne, bne_iff_ne, bne_eq_false_iff_eq, nrm, *] at hc) <;> try (exfalso; omega))
| ((with_reducible first | apply retF.r | apply retF.nn); case hv => exact tRS)
| ((refine (sidx_call s c _).mono fun v h' hp => ?_); rw [hi] at hp; obtain ⟨rfl, rfl⟩ := hp))
    all_goals exact ⟨rfl, rfl⟩
  · rw [h3]
    have hi := idx_hit (r := r) h2
    have hle : (a ++ c :: r).length = a.length + (r.length + 1) := by simp
    have htk : ((a ++ c :: r).take a.length).drop 0 = a := by simp
    have hdr : ((a ++ c :: r).take (a ++ c :: r).length).drop (a.length + 1) = r := by rw [List.take_length, show a ++ c :: r = (a ++ [c]) ++ r by simp, List.drop_left' (by simp)]
    generalize a ++ c :: r = s at *
    repeat' (first
| ((with_reducible apply opsF.op rfl); case hs => first | exact tHT | exact tHS)
| (with_reducible first | apply opsF.nil | apply seqF.nn | apply vcF.seq | apply vcF.region | apply vcF.skip | apply vcF.ret | apply seqF.r)
| ((with_reducible apply opsF.call); case hx => exact tAG)
| ((with_reducible apply vcF.cond); case hx => exact tEV) <;> ((intro hc; try simp only [Int.reduceLT, Int.reduceLE, Int.reduceEq, Int.reduceNe, Int.cast_ofNat_Int, Int.reduceNeg, reduceCtorEq, ne_eq, ge_iff_le, gt_iff_lt, beq_iff_eq, beq_eq_false_iff_ne, bne_iff_ne, bne_eq_false_iff_eq, nrm, *] at hc) <;> try (exfalso; omega))
| ((with_reducible first | apply retF.r | apply retF.nn); case hv => exact tRS)
| ((refine (sidx_call s c _).mono fun v h' hp => ?_); rw [hi] at hp; obtain ⟨rfl, rfl⟩ := hp))
    refine ⟨?_, rfl⟩
    rw [show ((a.length : Int) + ((1 : Nat) : Int)).toNat = a.length + 1 by omega, ← hle, hdr]
theorem cut_call (s : List UInt8) (c : UInt8) (h : AH) (hl : s.length ≤ 9000000000000000000) : Call P w0 strings_Cut [.v (.string (bs s)), .v (.string (bs [c]))] h
    (fun v h' => v = .tup [.v (.string (bs (cutB c s).1)), .v (.string (bs (cutB c s).2.1)), .v (.bool (cutB c s).2.2)] ∧ h' = h) := by
  refine Call.bodyF b_strings_Cut rfl rfl ?_
  unfold c_strings_Cut
  repeat' (first
| ((with_reducible apply opsF.op rfl); case hs => first | exact tHT | exact tHS)
| (with_reducible first | apply opsF.nil | apply seqF.nn | apply vcF.seq | apply vcF.region | apply vcF.skip | apply vcF.ret | apply seqF.r)
| ((with_reducible apply opsF.call); case hx => exact tAG)
| ((with_reducible apply vcF.cond); case hx => exact tEV) <;> ((intro hc; try simp only [Int.reduceLT, Int.reduceLE, Int.reduceEq, Int.reduceNe, Int.cast_ofNat_Int, Int.reduceNeg, reduceCtorEq, ne_eq, ge_iff_le, gt_iff_lt, beq_iff_eq, beq_eq_false_iff_ne, bne_iff_ne, bne_eq_false_iff_eq, nrm, *] at hc) <;> try (exfalso; omega))
| ((with_reducible first | apply retF.r | apply retF.nn); case hv => exact tRS)
| ((refine (lcut_call s c _ hl).mono fun v h' hp => ?_); obtain ⟨rfl, rfl⟩ := hp))
  all_goals exact ⟨rfl, rfl⟩
theorem is_mn {σ : Fm} {h : AH} {x y : Opd} {a b : Int} (hx : evF σ x = .v (.int .i64 a)) (hy : evF σ y = .v (.int .i64 b)) (hb : a ≤ b) : istep (.mnx false [x, y]) (evF σ) h = some (.v (.int .i64 a), h) := by
  simp only [istep, List.map_cons, List.map_nil, hx, hy, List.foldl_cons, List.foldl_nil, Option.map_some, Bool.false_eq_true, if_false]
  rw [if_neg (by omega)]
theorem wrL_mid {v y : AV} {ys : List AV} : ∀ {xs : List AV} {n : Nat}, n = xs.length → wrL (xs ++ y :: ys) n [v] = xs ++ v :: ys := by
  rintro xs n rfl
  simp [wrL]
theorem genSplit_call (s0 : List UInt8) (c : UInt8) (h : AH) (hl : s0.length ≤ 8000000000000) : Call P w0 strings_genSplit [.v (.string (bs s0)), .v (.string (bs [c])), .v (.int .i64 0), .v (.int .i64 (-1))] h
    (fun v h' => v = .list 1 (srows (splB c s0)) .no ∧ Ext h h') := by
  refine Call.frz ?_
  have hcl : s0.count c ≤ s0.length := List.count_le_length
  refine Call.bodyF b_strings_genSplit rfl rfl ?_
  unfold c_strings_genSplit
  repeat' (first
| ((with_reducible apply opsF.op rfl); case hs => first | exact tHT | exact tHS)
| (with_reducible first | apply opsF.nil | apply seqF.nn | apply vcF.seq | apply vcF.region | apply vcF.skip | apply vcF.block | apply vcF.exit | apply vcF.ret | apply vcF.loop | apply seqF.e | apply seqF.r | apply blkF.nn | apply blkF.e | apply blkF.r | apply blkF.o rfl)
| ((with_reducible apply opsF.call); case hx => exact tAG)
| ((with_reducible apply vcF.cond); case hx => exact tEV) <;> ((intro hc; try simp only [Int.reduceLT, Int.reduceLE, Int.reduceEq, Int.reduceNe, Int.cast_ofNat_Int, Int.reduceNeg, reduceCtorEq, ne_eq, ge_iff_le, gt_iff_lt, beq_iff_eq, beq_eq_false_iff_ne, bne_iff_ne, bne_eq_false_iff_eq, nrm, *] at hc) <;> try (exfalso; omega))
| ((with_reducible first | apply retF.r | apply retF.nn); case hv => exact tRS)
| ((refine (count_call s0 c _).mono fun v h hp => ?_); obtain ⟨rfl, rfl⟩ := hp))
  have hrep : ∀ k : Nat, (List.replicate k [AV.v (.string (bs []))]).flatten = List.replicate k (AV.v (.string (bs []))) := by
    intro k
    induction k with
    | zero => rfl
    | succ k ih => rw [List.replicate_succ, List.flatten_cons, ih, List.replicate_succ]; rfl
  refine LpF.ind rfl (fun i : Nat => s0.length + 1 - i) (fun i σ h' => ∃ (s : List UInt8) (done : List (List UInt8)), Ext h h' ∧ h.n < h'.n ∧ σ 0 = .v (.string (bs s)) ∧ σ 1 = .v (.string (bs [c])) ∧ σ 2 = .v (.int .i64 0) ∧ σ 3 = .v (.int .i64 (s0.count c : Nat)) ∧ σ 9 = .row h.n 0 (s0.count c + 1) (some (s0.count c + 1)) ∧ σ 10 = .v (.int .i64 (i : Nat)) ∧
    done.length = i ∧ i + s.count c = s0.count c ∧ s.length ≤ s0.length ∧ splB c s0 = done ++ splB c s ∧ h'.objs h.n = some (.cells (done.map (fun x => AV.v (.string (bs x))) ++ List.replicate (s0.count c + 1 - i) (AV.v (.string (bs [])))))) ?_ (i := 0) ?_
  · rintro i σ h' ⟨s, done, hE, hn, h0, h1, h2, h3, h9, h10, hd, hc1, hsl, hsp, ho⟩
    have hcs : s.count c ≤ s.length := List.count_le_length
    rcases cutB_cases c s with ⟨g1, g2⟩ | ⟨a, r, hs, g2, g3⟩
    · have hz : s.count c = 0 := List.count_eq_zero.2 g1
      have hi : i = s0.count c := by omega
      have hrp : List.replicate (s0.count c + 1 - i) (AV.v (.string (bs []))) = [AV.v (.string (bs []))] := by rw [show s0.count c + 1 - i = 1 by omega]; rfl
      rw [hrp] at ho
      have hw := wrL_mid (v := .v (.string (bs s))) (y := AV.v (.string (bs []))) (ys := []) (xs := done.map (fun x => AV.v (.string (bs x)))) (n := i) (by simp [hd])
      have hlen : (done.map (fun x => AV.v (.string (bs x))) ++ [AV.v (.string (bs []))]).length = i + 1 := by simp [hd]
      generalize done.map (fun x => AV.v (.string (bs x))) ++ [AV.v (.string (bs []))] = cs at ho hw hlen
      repeat' (first
| ((with_reducible apply opsF.op rfl); case hs => first | exact tHT | exact tHS)
| (with_reducible first | apply opsF.nil | apply seqF.nn | apply vcF.seq | apply vcF.region | apply vcF.skip | apply vcF.block | apply vcF.exit | apply vcF.ret | apply vcF.loop | apply seqF.e | apply seqF.r | apply blkF.nn | apply blkF.e | apply blkF.r | apply blkF.o rfl)
| ((with_reducible apply opsF.call); case hx => exact tAG)
| ((with_reducible apply vcF.cond); case hx => exact tEV) <;> ((intro hc; try simp only [Int.reduceLT, Int.reduceLE, Int.reduceEq, Int.reduceNe, Int.cast_ofNat_Int, Int.reduceNeg, reduceCtorEq, ne_eq, ge_iff_le, gt_iff_lt, beq_iff_eq, beq_eq_false_iff_ne, bne_iff_ne, bne_eq_false_iff_eq, nrm, *] at hc) <;> try (exfalso; omega))
| ((with_reducible first | apply retF.r | apply retF.nn); case hv => exact tRS))
      have e1 : (((s0.count c : Nat) : Int) + 1).toNat - 0 = ((done ++ [s]).map (fun x => AV.v (.string (bs x)))).length := by simp; omega
      have e2 : cs.set (0 + s0.count c * 1) (.v (.string (bs s))) = (done ++ [s]).map (fun x => AV.v (.string (bs x))) := by
        rw [Nat.zero_add, Nat.mul_one, ← hi, List.map_append]
        exact hw
      rw [e1, e2]
      refine ⟨h.n, _, _, [], rfl, ?_, ?_, ?_, (hE.set (Nat.le_refl _) _).drop (Nat.le_refl _)⟩
      · simp [set_at]
      · intro x hx
        obtain ⟨y, _, rfl⟩ := List.mem_map.1 hx
        rfl
      · rw [hsp, splB_miss g1]
        simp [srows]
    · have hpos : 0 < s.count c := by rw [hs]; simp; omega
      have hsl2 : s.length = a.length + (r.length + 1) := by rw [hs]; simp
      have hrc : s.count c = r.count c + 1 := by rw [hs, List.count_append, List.count_eq_zero.2 g2, List.count_cons_self]; omega
      have hidx : Lib.indexByte s c = (a.length : Int) := by rw [hs]; exact idx_hit g2
      have hsp2 : splB c s = a :: splB c r := by rw [hs]; exact splB_hit g2
      have htk : (s.take a.length).drop 0 = a := by rw [hs]; simp
      have hdr : (s.take s.length).drop (a.length + 1) = r := by rw [List.take_length, hs, show a ++ c :: r = (a ++ [c]) ++ r by simp, List.drop_left' (by simp)]
      have hrp : List.replicate (s0.count c + 1 - i) (AV.v (.string (bs []))) = AV.v (.string (bs [])) :: List.replicate (s0.count c + 1 - (i + 1)) (AV.v (.string (bs []))) := by rw [show s0.count c + 1 - i = (s0.count c + 1 - (i + 1)) + 1 by omega, List.replicate_succ]
      rw [hrp] at ho
      have hw := wrL_mid (v := .v (.string (bs a))) (y := AV.v (.string (bs []))) (ys := List.replicate (s0.count c + 1 - (i + 1)) (AV.v (.string (bs [])))) (xs := done.map (fun x => AV.v (.string (bs x)))) (n := i) (by simp [hd])
      have hlen : (done.map (fun x => AV.v (.string (bs x))) ++ AV.v (.string (bs [])) :: List.replicate (s0.count c + 1 - (i + 1)) (AV.v (.string (bs [])))).length = s0.count c + 1 := by simp [hd]; omega
      generalize done.map (fun x => AV.v (.string (bs x))) ++ AV.v (.string (bs [])) :: List.replicate (s0.count c + 1 - (i + 1)) (AV.v (.string (bs []))) = cs at ho hw hlen
      clear hs
      repeat' (first
| ((with_reducible apply opsF.op rfl); case hs => first | exact tHT | exact tHS)
| (with_reducible first | apply opsF.nil | apply seqF.nn | apply vcF.seq | apply vcF.region | apply vcF.skip | apply vcF.block | apply vcF.exit | apply vcF.ret | apply vcF.loop | apply seqF.e | apply seqF.r | apply blkF.nn | apply blkF.e | apply blkF.r | apply blkF.o rfl)
| ((with_reducible apply opsF.call); case hx => exact tAG)
| ((with_reducible apply vcF.cond); case hx => exact tEV) <;> ((intro hc; try simp only [Int.reduceLT, Int.reduceLE, Int.reduceEq, Int.reduceNe, Int.cast_ofNat_Int, Int.reduceNeg, reduceCtorEq, ne_eq, ge_iff_le, gt_iff_lt, beq_iff_eq, beq_eq_false_iff_ne, bne_iff_ne, bne_eq_false_iff_eq, nrm, *] at hc) <;> try (exfalso; omega))
| ((with_reducible first | apply retF.r | apply retF.nn); case hv => exact tRS)
| ((refine (idx_call s c _).mono fun v h' hp => ?_); rw [hidx] at hp; obtain ⟨rfl, rfl⟩ := hp))
      refine ⟨i + 1, by omega, r, done ++ [a], hE.set (Nat.le_refl _) _, hn, ?_, h1, h2, h3, h9, rfl, by simp [hd], by omega, by omega, by rw [hsp, hsp2]; simp, ?_⟩
      · have e3 : (s.take (a.length + (r.length + 1))).drop ((a.length : Int) + ((1 : Nat) : Int)).toNat = r := by
          rw [show ((a.length : Int) + ((1 : Nat) : Int)).toNat = a.length + 1 by omega, ← hsl2, hdr]
        conv => lhs; whnf
        rw [e3]
      · have e2 : cs.set (0 + i * 1) (.v (.string (bs a))) = (done ++ [a]).map (fun x => AV.v (.string (bs x))) ++ List.replicate (s0.count c + 1 - (i + 1)) (AV.v (.string (bs []))) := by
          rw [Nat.zero_add, Nat.mul_one, List.map_append, List.append_assoc]
          exact hw
        rw [e2]
        simp [set_at]
  · refine ⟨s0, [], Ext.alloc _ _, ?_, rfl, rfl, rfl, ?_, ?_, rfl, rfl, by simp, Nat.le_refl _, rfl, ?_⟩
    · simp only [alloc_n]; omega
    · conv => lhs; whnf
      rw [if_neg (by omega), show ((s0.count c : Nat) : Int) + 1 - 1 = (s0.count c : Nat) by omega]
    · conv => lhs; whnf
      rw [show (((s0.count c : Nat) : Int) + 1).toNat = s0.count c + 1 by omega]
    · rw [hrep, show (((s0.count c : Nat) : Int) + 1).toNat = s0.count c + 1 by omega]
      simp [alloc_at]
theorem spl_call (s : List UInt8) (c : UInt8) (h : AH) (hl : s.length ≤ 8000000000000) : Call P w0 strings_Split [.v (.string (bs s)), .v (.string (bs [c]))] h
    (fun v h' => v = .list 1 (srows (splB c s)) .no ∧ Ext h h') := by
  refine Call.bodyF b_strings_Split rfl rfl ?_
  unfold c_strings_Split
  repeat' (first
| ((with_reducible apply opsF.op rfl); case hs => first | exact tHT | exact tHS)
| (with_reducible first | apply opsF.nil | apply seqF.nn | apply vcF.seq | apply vcF.region | apply vcF.skip | apply vcF.ret | apply seqF.r)
| ((with_reducible apply opsF.call); case hx => exact tAG)
| ((with_reducible apply vcF.cond); case hx => exact tEV) <;> ((intro hc; try simp only [Int.reduceLT, Int.reduceLE, Int.reduceEq, Int.reduceNe, Int.cast_ofNat_Int, Int.reduceNeg, reduceCtorEq, ne_eq, ge_iff_le, gt_iff_lt, beq_iff_eq, beq_eq_false_iff_ne, bne_iff_ne, bne_eq_false_iff_eq, nrm, *] at hc) <;> try (exfalso; omega))
| ((with_reducible first | apply retF.r | apply retF.nn); case hv => exact tRS)
| ((refine (genSplit_call s c _ hl).mono fun v h' hp => ?_); obtain ⟨rfl, he⟩ := hp))
  all_goals exact ⟨rfl, he⟩
/-! a text without its first byte -/
theorem hasP_call (s : List UInt8) (c : UInt8) (h : AH) : Call P w0 i_stringslite_HasPrefix [.v (.string (bs s)), .v (.string (bs [c]))] h
    (fun v h' => v = .v (.bool (decide (s.head? = some c))) ∧ h' = h) := by
  refine Call.bodyF b_i_stringslite_HasPrefix rfl rfl ?_
  unfold c_i_stringslite_HasPrefix
  cases s with
  | nil =>
    repeat' (first
| ((with_reducible apply opsF.op rfl); case hs => first | exact tHT | exact tHS)
| (with_reducible first | apply opsF.nil | apply seqF.nn | apply vcF.seq | apply vcF.region | apply vcF.skip | apply vcF.ret | apply seqF.r)
| ((with_reducible apply opsF.call); case hx => exact tAG)
| ((with_reducible apply opsF.want); (case hg => exact tEV); case hb => exact tNB)
| ((with_reducible apply opsF.skip); (case hg => exact tEV); case hb => exact tNB)
| (first | ((with_reducible apply opsF.case); case hg => exact tEV) | ((with_reducible apply vcF.cond); case hx => exact tEV)) <;> ((intro hc; try simp only [Int.reduceLT, Int.reduceLE, Int.reduceEq, Int.reduceNe, Int.cast_ofNat_Int, Int.reduceNeg, reduceCtorEq, ne_eq, ge_iff_le, gt_iff_lt, beq_iff_eq, beq_eq_false_iff_ne, bne_iff_ne, bne_eq_false_iff_eq, nrm, *] at hc) <;> try (exfalso; omega))
| ((with_reducible apply opsF.und); case hg => rfl)
| ((with_reducible first | apply retF.r | apply retF.nn); case hv => exact tRS))
    all_goals exact ⟨rfl, rfl⟩
  | cons x r =>
    repeat' (first
| ((with_reducible apply opsF.op rfl); case hs => first | exact tHT | exact tHS)
| (with_reducible first | apply opsF.nil | apply seqF.nn | apply vcF.seq | apply vcF.region | apply vcF.skip | apply vcF.ret | apply seqF.r)
| ((with_reducible apply opsF.call); case hx => exact tAG)
| ((with_reducible apply opsF.want); (case hg => exact tEV); case hb => exact tNB)
| ((with_reducible apply opsF.skip); (case hg => exact tEV); case hb => exact tNB)
| (first | ((with_reducible apply opsF.case); case hg => exact tEV) | ((with_reducible apply vcF.cond); case hx => exact tEV)) <;> ((intro hc; try simp only [Int.reduceLT, Int.reduceLE, Int.reduceEq, Int.reduceNe, Int.cast_ofNat_Int, Int.reduceNeg, reduceCtorEq, ne_eq, ge_iff_le, gt_iff_lt, beq_iff_eq, beq_eq_false_iff_ne, bne_iff_ne, bne_eq_false_iff_eq, nrm, *] at hc) <;> try (exfalso; omega))
| ((with_reducible apply opsF.und); case hg => rfl)
| ((with_reducible first | apply retF.r | apply retF.nn); case hv => exact tRS))
    all_goals (refine ⟨?_, rfl⟩; simp)
end Go.Abs.F
namespace Go.Abs.F
open Go Go.Abs Go.RowKit
set_option maxRecDepth 10000
set_option maxHeartbeats 2000000
set_option linter.unusedSimpArgs false
set_option linter.unusedVariables false
variable {w0 : World}
theorem drop_step {α : Type} {l : List α} {i : Nat} {x : α} (hx : l[i]? = some x) : l.drop i = x :: l.drop (i + 1) := by
  obtain ⟨h, rfl⟩ := List.getElem?_eq_some_iff.1 hx
  exact List.drop_eq_getElem_cons h
end Go.Abs.F
/- Layer 1: letters, local parts, labels, domains: the plain side and the program's. Layer 1: the program's local parts, domains. Layer 1: the program's mailboxes. -/
namespace Go.Abs.F
open Go Go.Abs
set_option maxRecDepth 10000
set_option maxHeartbeats 20000000
set_option linter.unusedSimpArgs false
set_option linter.unusedVariables false
variable {w0 : World}
def letterB (b : UInt8) : Bool := decide ((97 ≤ b.toNat ∧ b.toNat ≤ 122) ∨ (65 ≤ b.toNat ∧ b.toNat ≤ 90) ∨ (48 ≤ b.toNat ∧ b.toNat ≤ 57))
theorem bool_iff {a b : Bool} (h : a = true ↔ b = true) : AV.v (.bool a) = AV.v (.bool b) := by rw [Bool.eq_iff_iff.2 h]
def atomL : List UInt8 := [33, 35, 36, 37, 38, 39, 42, 43, 45, 47, 61, 63, 94, 95, 96, 123, 124, 125, 126]
def atomB (b : UInt8) : Bool := letterB b || atomL.contains b
def innerB (b : UInt8) : Bool := letterB b || decide (b.toNat = 45)
def fullP (p : UInt8 → Bool) (s : List UInt8) : Bool := !s.isEmpty && s.all p
def localS (s : List UInt8) : Bool := decide (s.length ≤ 64) && (splB 46 s).all (fullP atomB)
def labelS (s : List UInt8) : Bool := decide (s.length ≤ 63) && fullP innerB s && decide (s.head? ≠ some 45) && decide (s.getLast? ≠ some 45)
def domainS (s : List UInt8) : Bool := decide (s.length ≤ 255) && (splB 46 s).all labelS
def lowB (b : UInt8) : UInt8 := if 65 ≤ b.toNat ∧ b.toNat ≤ 90 then UInt8.ofNat (b.toNat + 32) else b
def upB (b : UInt8) : UInt8 := if 97 ≤ b.toNat ∧ b.toNat ≤ 122 then UInt8.ofNat (b.toNat - 32) else b
def lowerS (s : List UInt8) : List UInt8 := s.map lowB
def upperS (s : List UInt8) : List UInt8 := s.map upB
def splitO (s : List UInt8) : Option (List UInt8 × List UInt8) := if (cutB 64 s).2.2 = true ∧ localS (cutB 64 s).1 = true ∧ domainS (cutB 64 s).2.1 = true then some ((cutB 64 s).1, (cutB 64 s).2.1) else none
def canonO (s : List UInt8) : Option (List UInt8) := (splitO s).map fun x => x.1 ++ 64 :: lowerS x.2
def atS (p : List UInt8) : Bool := decide (p.head? = some 64) && domainS p.tail
def routeO (s : List UInt8) : Option (List UInt8) := if s.head? = some 64 then (if (cutB 58 s).2.2 = true ∧ (splB 44 (cutB 58 s).1).all atS = true then some (cutB 58 s).2.1 else none) else some s
def pathO (s : List UInt8) : Option (List UInt8) := if s = [60, 62] then some [] else if 2 ≤ s.length ∧ s.head? = some 60 ∧ s.getLast? = some 62 then (routeO (s.tail.dropLast)).bind canonO else none
/-! letters -/
theorem letter_call (b : UInt8) (h : AH) : Call P w0 addr_letter [.v (.int .u8 (b.toNat : Int))] h (fun v h' => v = .v (.bool (letterB b)) ∧ h' = h) := by
  have hb := b.toNat_lt
  refine Call.bodyF b_addr_letter rfl rfl ?_
  unfold c_addr_letter
  repeat' (first
| ((with_reducible apply opsF.op rfl); case hs => first | exact tHT | exact tHS)
| (with_reducible first | apply opsF.nil | apply seqF.nn | apply vcF.seq | apply vcF.region | apply vcF.skip | apply vcF.ret | apply seqF.r)
| ((with_reducible apply opsF.call); case hx => exact tAG)
| ((with_reducible apply opsF.want); (case hg => exact tEV); case hb => exact tNB)
| ((with_reducible apply opsF.skip); (case hg => exact tEV); case hb => exact tNB)
| (first | ((with_reducible apply opsF.case); case hg => exact tEV) | ((with_reducible apply vcF.cond); case hx => exact tEV)) <;> ((intro hc; try simp only [Int.reduceLT, Int.reduceLE, Int.reduceEq, Int.reduceNe, Int.cast_ofNat_Int, Int.reduceNeg, reduceCtorEq, ne_eq, ge_iff_le, gt_iff_lt, beq_iff_eq, beq_eq_false_iff_ne, bne_iff_ne, bne_eq_false_iff_eq, nrm, *] at hc) <;> try (exfalso; omega))
| ((with_reducible apply opsF.und); case hg => rfl)
| ((with_reducible first | apply retF.r | apply retF.nn); case hv => exact tRS))
  all_goals refine ⟨bool_iff ?_, rfl⟩
  all_goals simp only [letterB, decide_eq_true_eq, Bool.false_eq_true, false_iff, true_iff, iff_true, iff_false]
  all_goals omega
theorem idxB_call (s : List UInt8) (c : UInt8) (h : AH) : Call P w0 strings_IndexByte [.v (.string (bs s)), .v (.int .u8 (c.toNat : Int))] h (fun v h' => v = .v (.int .i64 (Lib.indexByte s c)) ∧ h' = h) := by
  refine Call.plain (vs := [.string (bs s), .int .u8 (c.toNat : Int)]) ⟨_, Go.Proofs.Tryz.func79, by kernel_rfl, by kernel_rfl⟩ rfl fun Γ w H => ?_
  refine (Go.Proofs.Tryz.strings_IndexByte (bs s) (c.toNat : Int) w).mono fun e w' hh => ?_
  obtain ⟨rfl, rfl⟩ := hh
  refine ⟨?_, .refl _ _⟩
  rw [bs_list, show ((c.toNat : Int)).toNat.toUInt8 = c from u8_of c]
theorem idx_ge {c : UInt8} {s : List UInt8} : decide (0 ≤ Lib.indexByte s c) = s.contains c := by
  rcases cutB_cases c s with ⟨h1, _⟩ | ⟨a, r, rfl, h2, _⟩
  · rw [idx_miss h1]
    simp [h1]
  · rw [idx_hit h2]
    simp
theorem atom_call (b : UInt8) (h : AH) : Call P w0 addr_atom [.v (.int .u8 (b.toNat : Int))] h (fun v h' => v = .v (.bool (atomB b)) ∧ h' = h) := by
  have hi := idx_ge (c := b) (s := atomL)
  have hcall := fun h => idxB_call (w0 := w0) atomL b h
  refine Call.bodyF b_addr_atom rfl rfl ?_
  unfold c_addr_atom
  cases hl : letterB b with
  | true =>
    repeat' (first
| ((with_reducible apply opsF.op rfl); case hs => first | exact tHT | exact tHS)
| (with_reducible first | apply opsF.nil | apply seqF.nn | apply vcF.seq | apply vcF.region | apply vcF.skip | apply vcF.ret | apply seqF.r)
| ((with_reducible apply opsF.call); case hx => exact tAG)
| ((with_reducible apply opsF.want); (case hg => exact tEV); case hb => exact tNB)
| ((with_reducible apply opsF.skip); (case hg => exact tEV); case hb => exact tNB)
| (first | ((with_reducible apply opsF.case); case hg => exact tEV) | ((with_reducible apply vcF.cond); case hx => exact tEV)) <;> ((intro hc; try simp only [Int.reduceLT, Int.reduceLE, Int.reduceEq, Int.reduceNe, Int.cast_ofNat_Int, Int.reduceNeg, reduceCtorEq, ne_eq, ge_iff_le, gt_iff_lt, beq_iff_eq, beq_eq_false_iff_ne, bne_iff_ne, bne_eq_false_iff_eq, nrm, *] at hc) <;> try (exfalso; omega))
| ((with_reducible apply opsF.und); case hg => rfl)
| ((with_reducible first | apply retF.r | apply retF.nn); case hv => exact tRS)
| ((refine (letter_call b _).mono fun v h' hp => ?_); rw [hl] at hp; obtain ⟨rfl, rfl⟩ := hp))
    all_goals (refine ⟨?_, rfl⟩; simp [atomB, hl])
  | false =>
    repeat' (first
| ((with_reducible apply opsF.op rfl); case hs => first | exact tHT | exact tHS)
| (with_reducible first | apply opsF.nil | apply seqF.nn | apply vcF.seq | apply vcF.region | apply vcF.skip | apply vcF.ret | apply seqF.r)
| ((with_reducible apply opsF.call); case hx => exact tAG)
| ((with_reducible apply opsF.want); (case hg => exact tEV); case hb => exact tNB)
| ((with_reducible apply opsF.skip); (case hg => exact tEV); case hb => exact tNB)
| (first | ((with_reducible apply opsF.case); case hg => exact tEV) | ((with_reducible apply vcF.cond); case hx => exact tEV)) <;> ((intro hc; try simp only [Int.reduceLT, Int.reduceLE, Int.reduceEq, Int.reduceNe, Int.cast_ofNat_Int, Int.reduceNeg, reduceCtorEq, ne_eq, ge_iff_le, gt_iff_lt, beq_iff_eq, beq_eq_false_iff_ne, bne_iff_ne, bne_eq_false_iff_eq, nrm, *] at hc) <;> try (exfalso; omega))
| ((with_reducible apply opsF.und); case hg => rfl)
| ((with_reducible first | apply retF.r | apply retF.nn); case hv => exact tRS)
| ((refine (letter_call b _).mono fun v h' hp => ?_); rw [hl] at hp; obtain ⟨rfl, rfl⟩ := hp)
| ((refine (hcall _).mono fun v h' hp => ?_); obtain ⟨rfl, rfl⟩ := hp))
    all_goals (refine ⟨?_, rfl⟩; simp [atomB, hl])
theorem inner_call (b : UInt8) (h : AH) : Call P w0 addr_label_1 [.v (.int .u8 (b.toNat : Int))] h (fun v h' => v = .v (.bool (innerB b)) ∧ h' = h) := by
  have hb := b.toNat_lt
  refine Call.bodyF b_addr_label_1 rfl rfl ?_
  unfold c_addr_label_1
  cases hl : letterB b with
  | true =>
    repeat' (first
| ((with_reducible apply opsF.op rfl); case hs => first | exact tHT | exact tHS)
| (with_reducible first | apply opsF.nil | apply seqF.nn | apply vcF.seq | apply vcF.region | apply vcF.skip | apply vcF.ret | apply seqF.r)
| ((with_reducible apply opsF.call); case hx => exact tAG)
| ((with_reducible apply opsF.want); (case hg => exact tEV); case hb => exact tNB)
| ((with_reducible apply opsF.skip); (case hg => exact tEV); case hb => exact tNB)
| (first | ((with_reducible apply opsF.case); case hg => exact tEV) | ((with_reducible apply vcF.cond); case hx => exact tEV)) <;> ((intro hc; try simp only [Int.reduceLT, Int.reduceLE, Int.reduceEq, Int.reduceNe, Int.cast_ofNat_Int, Int.reduceNeg, reduceCtorEq, ne_eq, ge_iff_le, gt_iff_lt, beq_iff_eq, beq_eq_false_iff_ne, bne_iff_ne, bne_eq_false_iff_eq, nrm, *] at hc) <;> try (exfalso; omega))
| ((with_reducible apply opsF.und); case hg => rfl)
| ((with_reducible first | apply retF.r | apply retF.nn); case hv => exact tRS)
| ((refine (letter_call b _).mono fun v h' hp => ?_); rw [hl] at hp; obtain ⟨rfl, rfl⟩ := hp))
    all_goals (refine ⟨?_, rfl⟩; simp [innerB, hl])
  | false =>
    repeat' (first
| ((with_reducible apply opsF.op rfl); case hs => first | exact tHT | exact tHS)
| (with_reducible first | apply opsF.nil | apply seqF.nn | apply vcF.seq | apply vcF.region | apply vcF.skip | apply vcF.ret | apply seqF.r)
| ((with_reducible apply opsF.call); case hx => exact tAG)
| ((with_reducible apply opsF.want); (case hg => exact tEV); case hb => exact tNB)
| ((with_reducible apply opsF.skip); (case hg => exact tEV); case hb => exact tNB)
| (first | ((with_reducible apply opsF.case); case hg => exact tEV) | ((with_reducible apply vcF.cond); case hx => exact tEV)) <;> ((intro hc; try simp only [Int.reduceLT, Int.reduceLE, Int.reduceEq, Int.reduceNe, Int.cast_ofNat_Int, Int.reduceNeg, reduceCtorEq, ne_eq, ge_iff_le, gt_iff_lt, beq_iff_eq, beq_eq_false_iff_ne, bne_iff_ne, bne_eq_false_iff_eq, nrm, *] at hc) <;> try (exfalso; omega))
| ((with_reducible apply opsF.und); case hg => rfl)
| ((with_reducible first | apply retF.r | apply retF.nn); case hv => exact tRS)
| ((refine (letter_call b _).mono fun v h' hp => ?_); rw [hl] at hp; obtain ⟨rfl, rfl⟩ := hp))
    all_goals (refine ⟨?_, rfl⟩; simp [innerB, hl])
    all_goals omega
/-! texts of such bytes -/
theorem all_call (fn : FuncId) (p : UInt8 → Bool) (hp : ∀ (b : UInt8) (h : AH), Call P w0 fn [.v (.int .u8 (b.toNat : Int))] h fun v h' => v = .v (.bool (p b)) ∧ h' = h) (s : List UInt8) (h : AH) (hl : s.length ≤ 1000000000000) :
    Call P w0 addr_all [.v (.string (bs s)), .func (.func fn) [] []] h (fun v h' => v = .v (.bool (fullP p s)) ∧ h' = h) := by
  refine Call.bodyF b_addr_all rfl rfl ?_
  unfold c_addr_all
  repeat' (first
| ((with_reducible apply opsF.op rfl); case hs => first | exact tHT | exact tHS)
| (with_reducible first | apply opsF.nil | apply seqF.nn | apply vcF.seq | apply vcF.region | apply vcF.skip | apply vcF.block | apply vcF.exit | apply vcF.ret | apply vcF.loop | apply seqF.e | apply seqF.r | apply blkF.nn | apply blkF.e | apply blkF.r | apply blkF.o rfl)
| ((with_reducible apply opsF.call); case hx => exact tAG)
| ((with_reducible apply vcF.cond); case hx => exact tEV) <;> ((intro hc; try simp only [Int.reduceLT, Int.reduceLE, Int.reduceEq, Int.reduceNe, Int.cast_ofNat_Int, Int.reduceNeg, reduceCtorEq, ne_eq, ge_iff_le, gt_iff_lt, beq_iff_eq, beq_eq_false_iff_ne, bne_iff_ne, bne_eq_false_iff_eq, nrm, *] at hc) <;> try (exfalso; omega))
| ((with_reducible apply opsF.callv); (case hf => exact tEV); case hx => exact tCV)
| ((with_reducible first | apply retF.r | apply retF.nn); case hv => exact tRS))
  refine LpF.ind rfl (fun i : Nat => s.length - i) (fun i σ h' => h' = h ∧ σ 0 = .v (.string (bs s)) ∧ σ 1 = .func (.func fn) [] [] ∧ σ 7 = .v (.int .i64 (s.length : Nat)) ∧ σ 8 = .v (.int .i64 (i : Nat)) ∧ i ≤ s.length ∧ (s.take i).all p = true) ?_ (i := 0) ⟨rfl, rfl, rfl, rfl, rfl, Nat.zero_le _, rfl⟩
  rintro i σ h' ⟨rfl, h0, h1, h7, h8, hi, ha⟩
  rcases Nat.lt_or_ge i s.length with hlt | hge
  · obtain ⟨x, hx⟩ : ∃ x, s[i]? = some x := ⟨_, List.getElem?_eq_getElem hlt⟩
    cases hpx : p x with
    | false =>
      have hf : fullP p s = false := by
        rw [fullP, Bool.and_eq_false_iff]
        right
        rw [List.all_eq_false]
        exact ⟨x, List.mem_of_getElem? hx, by simp [hpx]⟩
      rw [hf]
      repeat' (first
| ((with_reducible apply opsF.op rfl); case hs => first | exact tHT | exact tHS)
| (with_reducible first | apply opsF.nil | apply seqF.nn | apply vcF.seq | apply vcF.region | apply vcF.skip | apply vcF.block | apply vcF.exit | apply vcF.ret | apply vcF.loop | apply seqF.e | apply seqF.r | apply blkF.nn | apply blkF.e | apply blkF.r | apply blkF.o rfl)
| ((with_reducible apply opsF.call); case hx => exact tAG)
| ((with_reducible apply vcF.cond); case hx => exact tEV) <;> ((intro hc; try simp only [Int.reduceLT, Int.reduceLE, Int.reduceEq, Int.reduceNe, Int.cast_ofNat_Int, Int.reduceNeg, reduceCtorEq, ne_eq, ge_iff_le, gt_iff_lt, beq_iff_eq, beq_eq_false_iff_ne, bne_iff_ne, bne_eq_false_iff_eq, nrm, *] at hc) <;> try (exfalso; omega))
| ((with_reducible apply opsF.callv); (case hf => exact tEV); case hx => exact tCV)
| ((with_reducible first | apply retF.r | apply retF.nn); case hv => exact tRS)
| ((refine (hp x _).mono fun v h' hq => ?_); rw [hpx] at hq; obtain ⟨rfl, rfl⟩ := hq))
      all_goals exact ⟨rfl, rfl⟩
    | true =>
      repeat' (first
| ((with_reducible apply opsF.op rfl); case hs => first | exact tHT | exact tHS)
| (with_reducible first | apply opsF.nil | apply seqF.nn | apply vcF.seq | apply vcF.region | apply vcF.skip | apply vcF.block | apply vcF.exit | apply vcF.ret | apply vcF.loop | apply seqF.e | apply seqF.r | apply blkF.nn | apply blkF.e | apply blkF.r | apply blkF.o rfl)
| ((with_reducible apply opsF.call); case hx => exact tAG)
| ((with_reducible apply vcF.cond); case hx => exact tEV) <;> ((intro hc; try simp only [Int.reduceLT, Int.reduceLE, Int.reduceEq, Int.reduceNe, Int.cast_ofNat_Int, Int.reduceNeg, reduceCtorEq, ne_eq, ge_iff_le, gt_iff_lt, beq_iff_eq, beq_eq_false_iff_ne, bne_iff_ne, bne_eq_false_iff_eq, nrm, *] at hc) <;> try (exfalso; omega))
| ((with_reducible apply opsF.callv); (case hf => exact tEV); case hx => exact tCV)
| ((with_reducible first | apply retF.r | apply retF.nn); case hv => exact tRS)
| ((refine (hp x _).mono fun v h' hq => ?_); rw [hpx] at hq; obtain ⟨rfl, rfl⟩ := hq))
      refine ⟨i + 1, by omega, rfl, h0, h1, h7, rfl, by omega, ?_⟩
      rw [List.take_add_one, hx, List.all_append, ha]
      simp [hpx]
  · obtain rfl : i = s.length := by omega
    rw [List.take_length] at ha
    repeat' (first
| ((with_reducible apply opsF.op rfl); case hs => first | exact tHT | exact tHS)
| (with_reducible first | apply opsF.nil | apply seqF.nn | apply vcF.seq | apply vcF.region | apply vcF.skip | apply vcF.block | apply vcF.exit | apply vcF.ret | apply vcF.loop | apply seqF.e | apply seqF.r | apply blkF.nn | apply blkF.e | apply blkF.r | apply blkF.o rfl)
| ((with_reducible apply opsF.call); case hx => exact tAG)
| ((with_reducible apply vcF.cond); case hx => exact tEV) <;> ((intro hc; try simp only [Int.reduceLT, Int.reduceLE, Int.reduceEq, Int.reduceNe, Int.cast_ofNat_Int, Int.reduceNeg, reduceCtorEq, ne_eq, ge_iff_le, gt_iff_lt, beq_iff_eq, beq_eq_false_iff_ne, bne_iff_ne, bne_eq_false_iff_eq, nrm, *] at hc) <;> try (exfalso; omega))
| ((with_reducible apply opsF.callv); (case hf => exact tEV); case hx => exact tCV)
| ((with_reducible first | apply retF.r | apply retF.nn); case hv => exact tRS))
    refine ⟨?_, rfl⟩
    cases s <;> simp [fullP, ha]
    all_goals simpa using ha
end Go.Abs.F
namespace Go.Abs.F
open Go Go.Abs
set_option maxRecDepth 10000
set_option maxHeartbeats 20000000
set_option linter.unusedSimpArgs false
set_option linter.unusedVariables false
variable {w0 : World}
theorem local1_call (s : List UInt8) (h : AH) (hl : s.length ≤ 1000000000000) : Call P w0 addr_Local_1 [.v (.string (bs s))] h (fun v h' => v = .v (.bool (!fullP atomB s)) ∧ h' = h) := by
  have ha := fun h => all_call (w0 := w0) addr_atom atomB (fun b h => atom_call b h) s h hl
  refine Call.bodyF b_addr_Local_1 rfl rfl ?_
  unfold c_addr_Local_1
  repeat' (first
| ((with_reducible apply opsF.op rfl); case hs => first | exact tHT | exact tHS)
| (with_reducible first | apply opsF.nil | apply seqF.nn | apply vcF.seq | apply vcF.region | apply vcF.skip | apply vcF.ret | apply seqF.r)
| ((with_reducible apply opsF.call); case hx => exact tAG)
| ((with_reducible apply vcF.cond); case hx => exact tEV) <;> ((intro hc; try simp only [Int.reduceLT, Int.reduceLE, Int.reduceEq, Int.reduceNe, Int.cast_ofNat_Int, Int.reduceNeg, reduceCtorEq, ne_eq, ge_iff_le, gt_iff_lt, beq_iff_eq, beq_eq_false_iff_ne, bne_iff_ne, bne_eq_false_iff_eq, nrm, *] at hc) <;> try (exfalso; omega))
| ((with_reducible first | apply retF.r | apply retF.nn); case hv => exact tRS)
| ((refine (ha _).mono fun v h' hp => ?_); obtain ⟨rfl, rfl⟩ := hp))
  all_goals exact ⟨rfl, rfl⟩
theorem label_call (s : List UInt8) (h : AH) (hl : s.length ≤ 1000000000000) : Call P w0 addr_label [.v (.string (bs s))] h (fun v h' => v = .v (.bool (labelS s)) ∧ h' = h) := by
  have ha := fun h => all_call (w0 := w0) addr_label_1 innerB (fun b h => inner_call b h) s h hl
  refine Call.bodyF b_addr_label rfl rfl ?_
  unfold c_addr_label
  by_cases h63 : s.length ≤ 63
  · cases hf : fullP innerB s with
    | false =>
      rw [hf] at ha
      have hls : labelS s = false := by simp [labelS, hf]
      rw [hls]
      repeat' (first
| ((with_reducible apply opsF.op rfl); case hs => first | exact tHT | exact tHS)
| (with_reducible first | apply opsF.nil | apply seqF.nn | apply vcF.seq | apply vcF.region | apply vcF.skip | apply vcF.ret | apply seqF.r)
| ((with_reducible apply opsF.call); case hx => exact tAG)
| ((with_reducible apply opsF.want); (case hg => exact tEV); case hb => exact tNB)
| ((with_reducible apply opsF.skip); (case hg => exact tEV); case hb => exact tNB)
| (first | ((with_reducible apply opsF.case); case hg => exact tEV) | ((with_reducible apply vcF.cond); case hx => exact tEV)) <;> ((intro hc; try simp only [Int.reduceLT, Int.reduceLE, Int.reduceEq, Int.reduceNe, Int.cast_ofNat_Int, Int.reduceNeg, reduceCtorEq, ne_eq, ge_iff_le, gt_iff_lt, beq_iff_eq, beq_eq_false_iff_ne, bne_iff_ne, bne_eq_false_iff_eq, nrm, *] at hc) <;> try (exfalso; omega))
| ((with_reducible apply opsF.und); case hg => rfl)
| ((with_reducible first | apply retF.r | apply retF.nn); case hv => exact tRS)
| ((refine (ha _).mono fun v h' hp => ?_); obtain ⟨rfl, rfl⟩ := hp))
      all_goals exact ⟨rfl, rfl⟩
    | true =>
      rw [hf] at ha
      obtain ⟨x, r, hs⟩ : ∃ x r, s = x :: r := by
        cases s with
        | nil => simp [fullP] at hf
        | cons x r => exact ⟨x, r, rfl⟩
      have hpos : 0 < s.length := by rw [hs]; simp
      have h0 : s[0]? = some x := by rw [hs]; rfl
      obtain ⟨z, hz⟩ : ∃ z, s[s.length - 1]? = some z := ⟨_, List.getElem?_eq_getElem (by omega)⟩
      have hi1 : ((s.length : Int) - 1).toNat = s.length - 1 := by omega
      have hhd : s.head? = some x := by rw [hs]; rfl
      have hlt : s.getLast? = some z := by rw [List.getLast?_eq_getElem?]; exact hz
      have hls : labelS s = (decide (¬ (x.toNat : Int) = 45) && decide (¬ (z.toNat : Int) = 45)) := by
        have e1 : ∀ y : UInt8, (some y ≠ some (45 : UInt8)) ↔ ¬ (y.toNat : Int) = 45 := fun y => by
          constructor
          · intro hh e
            exact hh (congrArg some (UInt8.toNat_inj.1 (by rw [show (45 : UInt8).toNat = 45 from rfl]; omega)))
          · intro hh e
            injection e with e
            exact hh (by rw [e]; rfl)
        simp only [labelS, hf, decide_eq_true h63, Bool.true_and, hhd, hlt, e1]
      rw [hls]
      clear hs hls
      repeat' (first
| ((with_reducible apply opsF.op rfl); case hs => first | exact tHT | exact tHS)
| (with_reducible first | apply opsF.nil | apply seqF.nn | apply vcF.seq | apply vcF.region | apply vcF.skip | apply vcF.ret | apply seqF.r)
| ((with_reducible apply opsF.call); case hx => exact tAG)
| ((with_reducible apply opsF.want); (case hg => exact tEV); case hb => exact tNB)
| ((with_reducible apply opsF.skip); (case hg => exact tEV); case hb => exact tNB)
| (first | ((with_reducible apply opsF.case); case hg => exact tEV) | ((with_reducible apply vcF.cond); case hx => exact tEV)) <;> ((intro hc; try simp only [Int.reduceLT, Int.reduceLE, Int.reduceEq, Int.reduceNe, Int.cast_ofNat_Int, Int.reduceNeg, reduceCtorEq, ne_eq, ge_iff_le, gt_iff_lt, beq_iff_eq, beq_eq_false_iff_ne, bne_iff_ne, bne_eq_false_iff_eq, nrm, *] at hc) <;> try (exfalso; omega))
| ((with_reducible apply opsF.und); case hg => rfl)
| ((with_reducible first | apply retF.r | apply retF.nn); case hv => exact tRS)
| ((refine (ha _).mono fun v h' hp => ?_); obtain ⟨rfl, rfl⟩ := hp))
      all_goals (refine ⟨?_, rfl⟩; simp [*])
  · have hls : labelS s = false := by simp [labelS, h63]
    rw [hls]
    repeat' (first
| ((with_reducible apply opsF.op rfl); case hs => first | exact tHT | exact tHS)
| (with_reducible first | apply opsF.nil | apply seqF.nn | apply vcF.seq | apply vcF.region | apply vcF.skip | apply vcF.ret | apply seqF.r)
| ((with_reducible apply opsF.call); case hx => exact tAG)
| ((with_reducible apply opsF.want); (case hg => exact tEV); case hb => exact tNB)
| ((with_reducible apply opsF.skip); (case hg => exact tEV); case hb => exact tNB)
| (first | ((with_reducible apply opsF.case); case hg => exact tEV) | ((with_reducible apply vcF.cond); case hx => exact tEV)) <;> ((intro hc; try simp only [Int.reduceLT, Int.reduceLE, Int.reduceEq, Int.reduceNe, Int.cast_ofNat_Int, Int.reduceNeg, reduceCtorEq, ne_eq, ge_iff_le, gt_iff_lt, beq_iff_eq, beq_eq_false_iff_ne, bne_iff_ne, bne_eq_false_iff_eq, nrm, *] at hc) <;> try (exfalso; omega))
| ((with_reducible apply opsF.und); case hg => rfl)
| ((with_reducible first | apply retF.r | apply retF.nn); case hv => exact tRS))
    all_goals exact ⟨rfl, rfl⟩
theorem domain1_call (s : List UInt8) (h : AH) (hl : s.length ≤ 1000000000000) : Call P w0 addr_Domain_1 [.v (.string (bs s))] h (fun v h' => v = .v (.bool (!labelS s)) ∧ h' = h) := by
  refine Call.bodyF b_addr_Domain_1 rfl rfl ?_
  unfold c_addr_Domain_1
  repeat' (first
| ((with_reducible apply opsF.op rfl); case hs => first | exact tHT | exact tHS)
| (with_reducible first | apply opsF.nil | apply seqF.nn | apply vcF.seq | apply vcF.region | apply vcF.skip | apply vcF.ret | apply seqF.r)
| ((with_reducible apply opsF.call); case hx => exact tAG)
| ((with_reducible apply vcF.cond); case hx => exact tEV) <;> ((intro hc; try simp only [Int.reduceLT, Int.reduceLE, Int.reduceEq, Int.reduceNe, Int.cast_ofNat_Int, Int.reduceNeg, reduceCtorEq, ne_eq, ge_iff_le, gt_iff_lt, beq_iff_eq, beq_eq_false_iff_ne, bne_iff_ne, bne_eq_false_iff_eq, nrm, *] at hc) <;> try (exfalso; omega))
| ((with_reducible first | apply retF.r | apply retF.nn); case hv => exact tRS)
| ((refine (label_call s _ hl).mono fun v h' hp => ?_); obtain ⟨rfl, rfl⟩ := hp))
  all_goals exact ⟨rfl, rfl⟩
theorem any_get {α : Type} {p : α → Bool} {l : List α} {i : Nat} {x : α} (hx : l[i]? = some x) (h : p x = true) : l.any p = true := by
  rw [List.any_eq_true]
  exact ⟨x, List.mem_of_getElem? hx, h⟩
theorem idxf_call (fn : FuncId) (p : List UInt8 → Bool) (l : List (List UInt8)) (tok : Tok) (hp : ∀ s ∈ l, ∀ h, Call P w0 fn [.v (.string (bs s))] h fun v h' => v = .v (.bool (p s)) ∧ Ext h h') (h : AH) (hl : l.length ≤ 1000000000000) :
    Call P w0 slices_IndexFunc_string_string [.list 1 (srows l) tok, .func (.func fn) [] []] h (fun v h' => (∃ n : Int, v = .v (.int .i64 n) ∧ decide (0 ≤ n) = l.any p) ∧ Ext h h') := by
  have xl := srows_len
  have xg := srows_get
  refine Call.bodyF b_slices_IndexFunc_string_string rfl rfl ?_
  unfold c_slices_IndexFunc_string_string
  repeat' (first
| ((with_reducible apply opsF.op rfl); case hs => first | exact tHT | exact tHS)
| (with_reducible first | apply opsF.nil | apply seqF.nn | apply vcF.seq | apply vcF.region | apply vcF.skip | apply vcF.block | apply vcF.exit | apply vcF.ret | apply vcF.loop | apply seqF.e | apply seqF.r | apply blkF.nn | apply blkF.e | apply blkF.r | apply blkF.o rfl)
| ((with_reducible apply opsF.call); case hx => exact tAG)
| ((with_reducible apply vcF.cond); case hx => exact tEV) <;> ((intro hc; try simp only [Int.reduceLT, Int.reduceLE, Int.reduceEq, Int.reduceNe, Int.cast_ofNat_Int, Int.reduceNeg, reduceCtorEq, ne_eq, ge_iff_le, gt_iff_lt, beq_iff_eq, beq_eq_false_iff_ne, bne_iff_ne, bne_eq_false_iff_eq, nrm, *] at hc) <;> try (exfalso; omega))
| ((with_reducible apply opsF.callv); (case hf => exact tEV); case hx => exact tCV)
| ((with_reducible first | apply retF.r | apply retF.nn); case hv => exact tRS))
  refine LpF.ind rfl (fun i : Nat => l.length - i) (fun i σ h' => Ext h h' ∧ σ 0 = .list 1 (srows l) tok ∧ σ 1 = .func (.func fn) [] [] ∧ σ 7 = .v (.int .i64 (l.length : Nat)) ∧ σ 8 = .v (.int .i64 (i : Nat)) ∧ i ≤ l.length ∧ (l.take i).any p = false) ?_ (i := 0) ⟨.refl _, rfl, rfl, rfl, rfl, Nat.zero_le _, rfl⟩
  rintro i σ h' ⟨hE, h0, h1, h7, h8, hi, ha⟩
  rcases Nat.lt_or_ge i l.length with hlt | hge
  · obtain ⟨x, hx⟩ : ∃ x, l[i]? = some x := ⟨_, List.getElem?_eq_getElem hlt⟩
    have hpx := hp x (List.mem_of_getElem? hx)
    cases hb : p x with
    | true =>
      have hf := any_get hx hb
      rw [hf]
      rw [hb] at hpx
      repeat' (first
| ((with_reducible apply opsF.op rfl); case hs => first | exact tHT | exact tHS)
| (with_reducible first | apply opsF.nil | apply seqF.nn | apply vcF.seq | apply vcF.region | apply vcF.skip | apply vcF.block | apply vcF.exit | apply vcF.ret | apply vcF.loop | apply seqF.e | apply seqF.r | apply blkF.nn | apply blkF.e | apply blkF.r | apply blkF.o rfl)
| ((with_reducible apply opsF.call); case hx => exact tAG)
| ((with_reducible apply vcF.cond); case hx => exact tEV) <;> ((intro hc; try simp only [Int.reduceLT, Int.reduceLE, Int.reduceEq, Int.reduceNe, Int.cast_ofNat_Int, Int.reduceNeg, reduceCtorEq, ne_eq, ge_iff_le, gt_iff_lt, beq_iff_eq, beq_eq_false_iff_ne, bne_iff_ne, bne_eq_false_iff_eq, nrm, *] at hc) <;> try (exfalso; omega))
| ((with_reducible apply opsF.callv); (case hf => exact tEV); case hx => exact tCV)
| ((with_reducible first | apply retF.r | apply retF.nn); case hv => exact tRS)
| ((refine (hpx _).mono fun v h2 hq => ?_); obtain ⟨rfl, he⟩ := hq; have hN := he.n; have hO := he.objs; (try simp only [alloc_n, set_n, newTok_n, bump_n] at hN hO)))
      all_goals exact ⟨⟨_, rfl, by simp⟩, hE.trans he⟩
    | false =>
      rw [hb] at hpx
      repeat' (first
| ((with_reducible apply opsF.op rfl); case hs => first | exact tHT | exact tHS)
| (with_reducible first | apply opsF.nil | apply seqF.nn | apply vcF.seq | apply vcF.region | apply vcF.skip | apply vcF.block | apply vcF.exit | apply vcF.ret | apply vcF.loop | apply seqF.e | apply seqF.r | apply blkF.nn | apply blkF.e | apply blkF.r | apply blkF.o rfl)
| ((with_reducible apply opsF.call); case hx => exact tAG)
| ((with_reducible apply vcF.cond); case hx => exact tEV) <;> ((intro hc; try simp only [Int.reduceLT, Int.reduceLE, Int.reduceEq, Int.reduceNe, Int.cast_ofNat_Int, Int.reduceNeg, reduceCtorEq, ne_eq, ge_iff_le, gt_iff_lt, beq_iff_eq, beq_eq_false_iff_ne, bne_iff_ne, bne_eq_false_iff_eq, nrm, *] at hc) <;> try (exfalso; omega))
| ((with_reducible apply opsF.callv); (case hf => exact tEV); case hx => exact tCV)
| ((with_reducible first | apply retF.r | apply retF.nn); case hv => exact tRS)
| ((refine (hpx _).mono fun v h2 hq => ?_); obtain ⟨rfl, he⟩ := hq; have hN := he.n; have hO := he.objs; (try simp only [alloc_n, set_n, newTok_n, bump_n] at hN hO)))
      refine ⟨i + 1, by omega, hE.trans he, h0, h1, h7, rfl, by omega, ?_⟩
      rw [List.take_add_one, hx, List.any_append, ha]
      simp [hb]
  · obtain rfl : i = l.length := by omega
    rw [List.take_length] at ha
    rw [ha]
    repeat' (first
| ((with_reducible apply opsF.op rfl); case hs => first | exact tHT | exact tHS)
| (with_reducible first | apply opsF.nil | apply seqF.nn | apply vcF.seq | apply vcF.region | apply vcF.skip | apply vcF.block | apply vcF.exit | apply vcF.ret | apply vcF.loop | apply seqF.e | apply seqF.r | apply blkF.nn | apply blkF.e | apply blkF.r | apply blkF.o rfl)
| ((with_reducible apply opsF.call); case hx => exact tAG)
| ((with_reducible apply vcF.cond); case hx => exact tEV) <;> ((intro hc; try simp only [Int.reduceLT, Int.reduceLE, Int.reduceEq, Int.reduceNe, Int.cast_ofNat_Int, Int.reduceNeg, reduceCtorEq, ne_eq, ge_iff_le, gt_iff_lt, beq_iff_eq, beq_eq_false_iff_ne, bne_iff_ne, bne_eq_false_iff_eq, nrm, *] at hc) <;> try (exfalso; omega))
| ((with_reducible apply opsF.callv); (case hf => exact tEV); case hx => exact tCV)
| ((with_reducible first | apply retF.r | apply retF.nn); case hv => exact tRS))
    exact ⟨⟨_, rfl, by simp⟩, hE⟩
theorem conf_call (fn : FuncId) (p : List UInt8 → Bool) (l : List (List UInt8)) (tok : Tok) (hp : ∀ s ∈ l, ∀ h, Call P w0 fn [.v (.string (bs s))] h fun v h' => v = .v (.bool (p s)) ∧ Ext h h') (h : AH) (hl : l.length ≤ 1000000000000) :
    Call P w0 slices_ContainsFunc_string_string [.list 1 (srows l) tok, .func (.func fn) [] []] h (fun v h' => v = .v (.bool (l.any p)) ∧ Ext h h') := by
  refine Call.bodyF b_slices_ContainsFunc_string_string rfl rfl ?_
  unfold c_slices_ContainsFunc_string_string
  repeat' (first
| ((with_reducible apply opsF.op rfl); case hs => first | exact tHT | exact tHS)
| (with_reducible first | apply opsF.nil | apply seqF.nn | apply vcF.seq | apply vcF.region | apply vcF.skip | apply vcF.ret | apply seqF.r)
| ((with_reducible apply opsF.call); case hx => exact tAG)
| ((with_reducible apply vcF.cond); case hx => exact tEV) <;> ((intro hc; try simp only [Int.reduceLT, Int.reduceLE, Int.reduceEq, Int.reduceNe, Int.cast_ofNat_Int, Int.reduceNeg, reduceCtorEq, ne_eq, ge_iff_le, gt_iff_lt, beq_iff_eq, beq_eq_false_iff_ne, bne_iff_ne, bne_eq_false_iff_eq, nrm, *] at hc) <;> try (exfalso; omega))
| ((with_reducible first | apply retF.r | apply retF.nn); case hv => exact tRS)
| ((refine (idxf_call fn p l tok hp _ hl).mono fun v h2 hq => ?_); obtain ⟨⟨n, rfl, hn⟩, he⟩ := hq; have hN := he.n; have hO := he.objs; (try simp only [alloc_n, set_n, newTok_n, bump_n] at hN hO)))
  exact ⟨rfl, he⟩
theorem splB_mem {c : UInt8} : ∀ (n : Nat) {s w : List UInt8}, s.length ≤ n → w ∈ splB c s → w.length ≤ s.length
  | 0, [], w, _, h => by simp [splB] at h; simp [h]
  | n + 1, s, w, hn, h => by
    rcases cutB_cases c s with ⟨g1, _⟩ | ⟨a, r, rfl, g2, _⟩
    · rw [splB_miss g1] at h
      simp at h
      rw [h]; exact Nat.le_refl _
    · rw [splB_hit g2] at h
      simp only [List.length_append, List.length_cons] at hn ⊢
      rcases List.mem_cons.1 h with rfl | h
      · omega
      · have := splB_mem n (s := r) (by omega) h
        omega
theorem splB_len {c : UInt8} : ∀ (n : Nat) {s : List UInt8}, s.length ≤ n → (splB c s).length ≤ s.length + 1
  | 0, [], _ => by simp [splB]
  | n + 1, s, hn => by
    rcases cutB_cases c s with ⟨g1, _⟩ | ⟨a, r, rfl, g2, _⟩
    · rw [splB_miss g1]; simp
    · rw [splB_hit g2]
      simp only [List.length_append, List.length_cons] at hn ⊢
      have := splB_len n (s := r) (c := c) (by omega)
      omega
theorem call_ext {f : FuncId} {args : List AV} {h : AH} {Q : AV → Prop} (hc : Call P w0 f args h fun v h' => Q v ∧ h' = h) : Call P w0 f args h fun v h' => Q v ∧ Ext h h' := hc.mono fun v h' hh => ⟨hh.1, by rw [hh.2]; exact .refl _⟩
theorem any_not {α : Type} (p : α → Bool) (l : List α) : l.any (fun x => !p x) = !l.all p := by
  induction l with
  | nil => rfl
  | cons x l ih => simp only [List.any_cons, List.all_cons, ih, Bool.not_and]
theorem local_call (s : List UInt8) (h : AH) (hl : s.length ≤ 1000000000) : Call P w0 addr_Local [.v (.string (bs s))] h (fun v h' => v = .v (.bool (localS s)) ∧ Ext h h') := by
  have hsp := fun h => spl_call (w0 := w0) s 46 h (by omega)
  have hsl := splB_len (c := 46) s.length (Nat.le_refl _)
  have hp := fun h => conf_call (w0 := w0) addr_Local_1 (fun s => !fullP atomB s) (splB 46 s) .no (fun w hw h => call_ext (Q := fun v => v = .v (.bool (!fullP atomB w))) (local1_call w h (by have := splB_mem s.length (Nat.le_refl _) hw; omega))) h (by omega)
  rw [any_not] at hp
  refine Call.bodyF b_addr_Local rfl rfl ?_
  unfold c_addr_Local
  by_cases h64 : s.length ≤ 64
  · have hls : localS s = (splB 46 s).all (fullP atomB) := by simp [localS, h64]
    rw [hls]
    generalize (splB 46 s).all (fullP atomB) = B at *
    generalize splB 46 s = ws at *
    repeat' (first
| ((with_reducible apply opsF.op rfl); case hs => first | exact tHT | exact tHS)
| (with_reducible first | apply opsF.nil | apply seqF.nn | apply vcF.seq | apply vcF.region | apply vcF.skip | apply vcF.ret | apply seqF.r)
| ((with_reducible apply opsF.call); case hx => exact tAG)
| ((with_reducible apply opsF.want); (case hg => exact tEV); case hb => exact tNB)
| ((with_reducible apply opsF.skip); (case hg => exact tEV); case hb => exact tNB)
| (first | ((with_reducible apply opsF.case); case hg => exact tEV) | ((with_reducible apply vcF.cond); case hx => exact tEV)) <;> ((intro hc; try simp only [Int.reduceLT, Int.reduceLE, Int.reduceEq, Int.reduceNe, Int.cast_ofNat_Int, Int.reduceNeg, reduceCtorEq, ne_eq, ge_iff_le, gt_iff_lt, beq_iff_eq, beq_eq_false_iff_ne, bne_iff_ne, bne_eq_false_iff_eq, nrm, *] at hc) <;> try (exfalso; omega))
| ((with_reducible apply opsF.und); case hg => rfl)
| ((with_reducible first | apply retF.r | apply retF.nn); case hv => exact tRS)
| ((refine (hsp _).mono fun v h2 hp => ?_); obtain ⟨rfl, he⟩ := hp; have hN := he.n; have hO := he.objs; (try simp only [alloc_n, set_n, newTok_n, bump_n] at hN hO))
| ((refine (hp _).mono fun v h3 hp => ?_); obtain ⟨rfl, he2⟩ := hp; have hN := he2.n; have hO := he2.objs; (try simp only [alloc_n, set_n, newTok_n, bump_n] at hN hO)))
    all_goals exact ⟨by simp, he.trans he2⟩
  · have hls : localS s = false := by simp [localS, h64]
    rw [hls]
    repeat' (first
| ((with_reducible apply opsF.op rfl); case hs => first | exact tHT | exact tHS)
| (with_reducible first | apply opsF.nil | apply seqF.nn | apply vcF.seq | apply vcF.region | apply vcF.skip | apply vcF.ret | apply seqF.r)
| ((with_reducible apply opsF.call); case hx => exact tAG)
| ((with_reducible apply opsF.want); (case hg => exact tEV); case hb => exact tNB)
| ((with_reducible apply opsF.skip); (case hg => exact tEV); case hb => exact tNB)
| (first | ((with_reducible apply opsF.case); case hg => exact tEV) | ((with_reducible apply vcF.cond); case hx => exact tEV)) <;> ((intro hc; try simp only [Int.reduceLT, Int.reduceLE, Int.reduceEq, Int.reduceNe, Int.cast_ofNat_Int, Int.reduceNeg, reduceCtorEq, ne_eq, ge_iff_le, gt_iff_lt, beq_iff_eq, beq_eq_false_iff_ne, bne_iff_ne, bne_eq_false_iff_eq, nrm, *] at hc) <;> try (exfalso; omega))
| ((with_reducible apply opsF.und); case hg => rfl)
| ((with_reducible first | apply retF.r | apply retF.nn); case hv => exact tRS))
    all_goals exact ⟨rfl, .refl _⟩
theorem domain_call (s : List UInt8) (h : AH) (hl : s.length ≤ 1000000000) : Call P w0 addr_Domain [.v (.string (bs s))] h (fun v h' => v = .v (.bool (domainS s)) ∧ Ext h h') := by
  have hsp := fun h => spl_call (w0 := w0) s 46 h (by omega)
  have hsl := splB_len (c := 46) s.length (Nat.le_refl _)
  have hp := fun h => conf_call (w0 := w0) addr_Domain_1 (fun s => !labelS s) (splB 46 s) .no (fun w hw h => call_ext (Q := fun v => v = .v (.bool (!labelS w))) (domain1_call w h (by have := splB_mem s.length (Nat.le_refl _) hw; omega))) h (by omega)
  rw [any_not] at hp
  refine Call.bodyF b_addr_Domain rfl rfl ?_
  unfold c_addr_Domain
  by_cases h64 : s.length ≤ 255
  · have hls : domainS s = (splB 46 s).all labelS := by simp [domainS, h64]
    rw [hls]
    generalize (splB 46 s).all labelS = B at *
    generalize splB 46 s = ws at *
    repeat' (first
| ((with_reducible apply opsF.op rfl); case hs => first | exact tHT | exact tHS)
| (with_reducible first | apply opsF.nil | apply seqF.nn | apply vcF.seq | apply vcF.region | apply vcF.skip | apply vcF.ret | apply seqF.r)
| ((with_reducible apply opsF.call); case hx => exact tAG)
| ((with_reducible apply opsF.want); (case hg => exact tEV); case hb => exact tNB)
| ((with_reducible apply opsF.skip); (case hg => exact tEV); case hb => exact tNB)
| (first | ((with_reducible apply opsF.case); case hg => exact tEV) | ((with_reducible apply vcF.cond); case hx => exact tEV)) <;> ((intro hc; try simp only [Int.reduceLT, Int.reduceLE, Int.reduceEq, Int.reduceNe, Int.cast_ofNat_Int, Int.reduceNeg, reduceCtorEq, ne_eq, ge_iff_le, gt_iff_lt, beq_iff_eq, beq_eq_false_iff_ne, bne_iff_ne, bne_eq_false_iff_eq, nrm, *] at hc) <;> try (exfalso; omega))
| ((with_reducible apply opsF.und); case hg => rfl)
| ((with_reducible first | apply retF.r | apply retF.nn); case hv => exact tRS)
| ((refine (hsp _).mono fun v h2 hp => ?_); obtain ⟨rfl, he⟩ := hp; have hN := he.n; have hO := he.objs; (try simp only [alloc_n, set_n, newTok_n, bump_n] at hN hO))
| ((refine (hp _).mono fun v h3 hp => ?_); obtain ⟨rfl, he2⟩ := hp; have hN := he2.n; have hO := he2.objs; (try simp only [alloc_n, set_n, newTok_n, bump_n] at hN hO)))
    all_goals exact ⟨by simp, he.trans he2⟩
  · have hls : domainS s = false := by simp [domainS, h64]
    rw [hls]
    repeat' (first
| ((with_reducible apply opsF.op rfl); case hs => first | exact tHT | exact tHS)
| (with_reducible first | apply opsF.nil | apply seqF.nn | apply vcF.seq | apply vcF.region | apply vcF.skip | apply vcF.ret | apply seqF.r)
| ((with_reducible apply opsF.call); case hx => exact tAG)
| ((with_reducible apply opsF.want); (case hg => exact tEV); case hb => exact tNB)
| ((with_reducible apply opsF.skip); (case hg => exact tEV); case hb => exact tNB)
| (first | ((with_reducible apply opsF.case); case hg => exact tEV) | ((with_reducible apply vcF.cond); case hx => exact tEV)) <;> ((intro hc; try simp only [Int.reduceLT, Int.reduceLE, Int.reduceEq, Int.reduceNe, Int.cast_ofNat_Int, Int.reduceNeg, reduceCtorEq, ne_eq, ge_iff_le, gt_iff_lt, beq_iff_eq, beq_eq_false_iff_ne, bne_iff_ne, bne_eq_false_iff_eq, nrm, *] at hc) <;> try (exfalso; omega))
| ((with_reducible apply opsF.und); case hg => rfl)
| ((with_reducible first | apply retF.r | apply retF.nn); case hv => exact tRS))
    all_goals exact ⟨rfl, .refl _⟩
end Go.Abs.F
namespace Go.Abs.F
open Go Go.Abs
set_option maxRecDepth 10000
set_option maxHeartbeats 20000000
set_option linter.unusedSimpArgs false
set_option linter.unusedVariables false
variable {w0 : World}
def bcA (l : List UInt8) : List AV := l.map fun b => AV.v (.int .u8 (b.toNat : Int))
theorem bcA_len (l : List UInt8) : (bcA l).length = l.length := by simp [bcA]
theorem bcA_get (l : List UInt8) (i : Nat) : (bcA l)[i]? = (l[i]?).map fun b => AV.v (.int .u8 (b.toNat : Int)) := by simp [bcA]
theorem chunk_bcA : ∀ (l : List UInt8), chunk 1 l.length (bcA l) = brows l
  | [] => rfl
  | b :: l => by
    show (bcA (b :: l)).take 1 :: chunk 1 l.length ((bcA (b :: l)).drop 1) = _
    have : (bcA (b :: l)).drop 1 = bcA l := rfl
    rw [this, chunk_bcA l]
    rfl
theorem src_bcA {h : AH} {id : Nat} {cap : Option Nat} {l : List UInt8} {n : Nat} (ho : h.objs id = some (.cells (bcA l))) (hn : l.length = n) : srcRows 1 h (.row id 0 n cap) = some (brows l) := by
  subst hn
  simp only [srcRows, ho, Nat.mul_one, Nat.zero_add, List.drop_zero]
  rw [if_pos (by rw [bcA_len]; omega), chunk_bcA]
theorem bcA_set (l : List UInt8) (i : Nat) (b : UInt8) : (bcA l).set i (.v (.int .u8 (b.toNat : Int))) = bcA (l.set i b) := by simp [bcA, List.map_set]
theorem lower_get {s : List UInt8} {f : UInt8 → UInt8} {i : Nat} {x : UInt8} (hx : s[i]? = some x) : ((s.take i).map f ++ s.drop i)[i]? = some x := by
  obtain ⟨hlt, _⟩ := List.getElem?_eq_some_iff.1 hx
  rw [List.getElem?_append_right (by simp; omega)]
  simp
  rw [show i + (i - min i s.length) = i by omega]
  exact hx
theorem lower_set {s : List UInt8} {f : UInt8 → UInt8} {i : Nat} {x : UInt8} (hx : s[i]? = some x) : ((s.take i).map f ++ s.drop i).set i (f x) = (s.take (i + 1)).map f ++ s.drop (i + 1) := by
  obtain ⟨hlt, _⟩ := List.getElem?_eq_some_iff.1 hx
  rw [List.set_append_right _ _ (by simp; omega), List.take_add_one, hx, drop_step hx]
  have : i - ((s.take i).map f).length = 0 := by simp; omega
  rw [this]
  simp
theorem lower_keep {s : List UInt8} {f : UInt8 → UInt8} {i : Nat} {x : UInt8} (hx : s[i]? = some x) (hf : f x = x) : (s.take i).map f ++ s.drop i = (s.take (i + 1)).map f ++ s.drop (i + 1) := by
  rw [List.take_add_one, hx, drop_step hx]
  simp [hf]
theorem lower_call (s : List UInt8) (h : AH) (hl : s.length ≤ 1000000000000) : Call P w0 addr_Lower [.v (.string (bs s))] h (fun v h' => v = .v (.string (bs (lowerS s))) ∧ Ext h h') := by
  refine Call.bodyF b_addr_Lower rfl rfl ?_
  unfold c_addr_Lower
  repeat' (first
| ((with_reducible apply opsF.op rfl); case hs => first | exact tHT | exact tHS)
| (with_reducible first | apply opsF.nil | apply seqF.nn | apply vcF.seq | apply vcF.region | apply vcF.skip | apply vcF.block | apply vcF.exit | apply vcF.ret | apply vcF.loop | apply seqF.e | apply seqF.r | apply blkF.nn | apply blkF.e | apply blkF.r | apply blkF.o rfl)
| ((with_reducible apply opsF.call); case hx => exact tAG)
| ((with_reducible apply opsF.want); (case hg => exact tEV); case hb => exact tNB)
| ((with_reducible apply opsF.skip); (case hg => exact tEV); case hb => exact tNB)
| (first | ((with_reducible apply opsF.case); case hg => exact tEV) | ((with_reducible apply vcF.cond); case hx => exact tEV)) <;> ((intro hc; try simp only [Int.reduceLT, Int.reduceLE, Int.reduceEq, Int.reduceNe, Int.cast_ofNat_Int, Int.reduceNeg, reduceCtorEq, ne_eq, ge_iff_le, gt_iff_lt, beq_iff_eq, beq_eq_false_iff_ne, bne_iff_ne, bne_eq_false_iff_eq, nrm, *] at hc) <;> try (exfalso; omega))
| ((with_reducible apply opsF.und); case hg => rfl)
| ((with_reducible first | apply retF.r | apply retF.nn); case hv => exact tRS))
  refine LpF.ind rfl (fun i : Nat => s.length - i) (fun i σ hh => Ext h hh ∧ h.n < hh.n ∧ hh.objs h.n = some (.cells (bcA ((s.take i).map lowB ++ s.drop i))) ∧ σ 3 = .row h.n 0 s.length none ∧ σ 8 = .row h.n 0 s.length none ∧ σ 9 = .v (.int .i64 (s.length : Nat)) ∧ σ 10 = .v (.int .i64 (i : Nat)) ∧ i ≤ s.length) ?_ (i := 0) ⟨Ext.alloc _ _, by simp [alloc_n], by simp [alloc_at, bcA, bs_list], rfl, rfl, rfl, rfl, Nat.zero_le _⟩
  rintro i σ hh ⟨hE, hn, ho, g3, g8, g9, g10, hi⟩
  have hLl : ((s.take i).map lowB ++ s.drop i).length = s.length := by simp; omega
  rcases Nat.lt_or_ge i s.length with hlt | hge
  · obtain ⟨x, hx⟩ : ∃ x, s[i]? = some x := ⟨_, List.getElem?_eq_getElem hlt⟩
    have hxl := x.toNat_lt
    have hLg := lower_get (f := lowB) hx
    have hLs := lower_set (f := lowB) hx
    have hLk := fun e => lower_keep (f := lowB) hx e
    have hrd : rd (bcA ((s.take i).map lowB ++ s.drop i)) (0 + i * 1) none = some (.v (.int .u8 (x.toNat : Int))) := by
      show (bcA ((s.take i).map lowB ++ s.drop i))[0 + i * 1]? = _
      rw [Nat.zero_add, Nat.mul_one, bcA_get, hLg]; rfl
    have hcl := bcA_len ((s.take i).map lowB ++ s.drop i)
    by_cases hc0 : 65 ≤ x.toNat ∧ x.toNat ≤ 90
    · have hfx : ((lowB x).toNat : Int) = (x.toNat : Int) + 97 - 65 := by rw [lowB, if_pos hc0, u8n (by omega)]; omega
      have hst := bcA_set ((s.take i).map lowB ++ s.drop i) i (lowB x)
      rw [hLs] at hst
      clear hLk hLs
      generalize hL : (s.take i).map lowB ++ s.drop i = L at *
      repeat' (first
| ((with_reducible apply opsF.op rfl); case hs => first | exact tHT | exact tHS)
| (with_reducible first | apply opsF.nil | apply seqF.nn | apply vcF.seq | apply vcF.region | apply vcF.skip | apply vcF.block | apply vcF.exit | apply vcF.ret | apply vcF.loop | apply seqF.e | apply seqF.r | apply blkF.nn | apply blkF.e | apply blkF.r | apply blkF.o rfl)
| ((with_reducible apply opsF.call); case hx => exact tAG)
| ((with_reducible apply opsF.want); (case hg => exact tEV); case hb => exact tNB)
| ((with_reducible apply opsF.skip); (case hg => exact tEV); case hb => exact tNB)
| (first | ((with_reducible apply opsF.case); case hg => exact tEV) | ((with_reducible apply vcF.cond); case hx => exact tEV)) <;> ((intro hc; try simp only [Int.reduceLT, Int.reduceLE, Int.reduceEq, Int.reduceNe, Int.cast_ofNat_Int, Int.reduceNeg, reduceCtorEq, ne_eq, ge_iff_le, gt_iff_lt, beq_iff_eq, beq_eq_false_iff_ne, bne_iff_ne, bne_eq_false_iff_eq, nrm, *] at hc) <;> try (exfalso; omega))
| ((with_reducible apply opsF.und); case hg => rfl)
| ((with_reducible first | apply retF.r | apply retF.nn); case hv => exact tRS)
| ((with_reducible apply opsF.op rfl); (case hs => exact is_load tEV ho hrd)))
      refine ⟨i + 1, by omega, hE.set (Nat.le_refl _) _, hn, ?_, g3, g8, g9, rfl, by omega⟩
      rw [← hst, hfx]
      simp [set_at]
    · have hfx : lowB x = x := by rw [lowB, if_neg hc0]
      have hkeep := hLk hfx
      clear hLk hLs
      generalize hL : (s.take i).map lowB ++ s.drop i = L at *
      repeat' (first
| ((with_reducible apply opsF.op rfl); case hs => first | exact tHT | exact tHS)
| (with_reducible first | apply opsF.nil | apply seqF.nn | apply vcF.seq | apply vcF.region | apply vcF.skip | apply vcF.block | apply vcF.exit | apply vcF.ret | apply vcF.loop | apply seqF.e | apply seqF.r | apply blkF.nn | apply blkF.e | apply blkF.r | apply blkF.o rfl)
| ((with_reducible apply opsF.call); case hx => exact tAG)
| ((with_reducible apply opsF.want); (case hg => exact tEV); case hb => exact tNB)
| ((with_reducible apply opsF.skip); (case hg => exact tEV); case hb => exact tNB)
| (first | ((with_reducible apply opsF.case); case hg => exact tEV) | ((with_reducible apply vcF.cond); case hx => exact tEV)) <;> ((intro hc; try simp only [Int.reduceLT, Int.reduceLE, Int.reduceEq, Int.reduceNe, Int.cast_ofNat_Int, Int.reduceNeg, reduceCtorEq, ne_eq, ge_iff_le, gt_iff_lt, beq_iff_eq, beq_eq_false_iff_ne, bne_iff_ne, bne_eq_false_iff_eq, nrm, *] at hc) <;> try (exfalso; omega))
| ((with_reducible apply opsF.und); case hg => rfl)
| ((with_reducible first | apply retF.r | apply retF.nn); case hv => exact tRS)
| ((with_reducible apply opsF.op rfl); (case hs => exact is_load tEV ho hrd)))
      all_goals exact ⟨i + 1, by omega, hE, hn, by rw [← hkeep]; exact ho, g3, g8, g9, rfl, by omega⟩
  · obtain rfl : i = s.length := by omega
    rw [List.take_length, List.drop_length, List.append_nil] at ho
    have hsr := src_bcA (cap := none) ho (n := s.length) (by simp)
    repeat' (first
| ((with_reducible apply opsF.op rfl); case hs => first | exact tHT | exact tHS)
| (with_reducible first | apply opsF.nil | apply seqF.nn | apply vcF.seq | apply vcF.region | apply vcF.skip | apply vcF.block | apply vcF.exit | apply vcF.ret | apply vcF.loop | apply seqF.e | apply seqF.r | apply blkF.nn | apply blkF.e | apply blkF.r | apply blkF.o rfl)
| ((with_reducible apply opsF.call); case hx => exact tAG)
| ((with_reducible apply opsF.want); (case hg => exact tEV); case hb => exact tNB)
| ((with_reducible apply opsF.skip); (case hg => exact tEV); case hb => exact tNB)
| (first | ((with_reducible apply opsF.case); case hg => exact tEV) | ((with_reducible apply vcF.cond); case hx => exact tEV)) <;> ((intro hc; try simp only [Int.reduceLT, Int.reduceLE, Int.reduceEq, Int.reduceNe, Int.cast_ofNat_Int, Int.reduceNeg, reduceCtorEq, ne_eq, ge_iff_le, gt_iff_lt, beq_iff_eq, beq_eq_false_iff_ne, bne_iff_ne, bne_eq_false_iff_eq, nrm, *] at hc) <;> try (exfalso; omega))
| ((with_reducible apply opsF.und); case hg => rfl)
| ((with_reducible first | apply retF.r | apply retF.nn); case hv => exact tRS)
| ((with_reducible apply opsF.op rfl); (case hs => exact is_b2s tEV hsr (bytes_brows _))))
    exact ⟨rfl, hE⟩
theorem upper_call (s : List UInt8) (h : AH) (hl : s.length ≤ 1000000000000) : Call P w0 verb_upper [.v (.string (bs s))] h (fun v h' => v = .v (.string (bs (upperS s))) ∧ Ext h h') := by
  refine Call.bodyF b_verb_upper rfl rfl ?_
  unfold c_verb_upper
  repeat' (first
| ((with_reducible apply opsF.op rfl); case hs => first | exact tHT | exact tHS)
| (with_reducible first | apply opsF.nil | apply seqF.nn | apply vcF.seq | apply vcF.region | apply vcF.skip | apply vcF.block | apply vcF.exit | apply vcF.ret | apply vcF.loop | apply seqF.e | apply seqF.r | apply blkF.nn | apply blkF.e | apply blkF.r | apply blkF.o rfl)
| ((with_reducible apply opsF.call); case hx => exact tAG)
| ((with_reducible apply opsF.want); (case hg => exact tEV); case hb => exact tNB)
| ((with_reducible apply opsF.skip); (case hg => exact tEV); case hb => exact tNB)
| (first | ((with_reducible apply opsF.case); case hg => exact tEV) | ((with_reducible apply vcF.cond); case hx => exact tEV)) <;> ((intro hc; try simp only [Int.reduceLT, Int.reduceLE, Int.reduceEq, Int.reduceNe, Int.cast_ofNat_Int, Int.reduceNeg, reduceCtorEq, ne_eq, ge_iff_le, gt_iff_lt, beq_iff_eq, beq_eq_false_iff_ne, bne_iff_ne, bne_eq_false_iff_eq, nrm, *] at hc) <;> try (exfalso; omega))
| ((with_reducible apply opsF.und); case hg => rfl)
| ((with_reducible first | apply retF.r | apply retF.nn); case hv => exact tRS))
  refine LpF.ind rfl (fun i : Nat => s.length - i) (fun i σ hh => Ext h hh ∧ h.n < hh.n ∧ hh.objs h.n = some (.cells (bcA ((s.take i).map upB ++ s.drop i))) ∧ σ 3 = .row h.n 0 s.length none ∧ σ 8 = .row h.n 0 s.length none ∧ σ 9 = .v (.int .i64 (s.length : Nat)) ∧ σ 10 = .v (.int .i64 (i : Nat)) ∧ i ≤ s.length) ?_ (i := 0) ⟨Ext.alloc _ _, by simp [alloc_n], by simp [alloc_at, bcA, bs_list], rfl, rfl, rfl, rfl, Nat.zero_le _⟩
  rintro i σ hh ⟨hE, hn, ho, g3, g8, g9, g10, hi⟩
  have hLl : ((s.take i).map upB ++ s.drop i).length = s.length := by simp; omega
  rcases Nat.lt_or_ge i s.length with hlt | hge
  · obtain ⟨x, hx⟩ : ∃ x, s[i]? = some x := ⟨_, List.getElem?_eq_getElem hlt⟩
    have hxl := x.toNat_lt
    have hLg := lower_get (f := upB) hx
    have hLs := lower_set (f := upB) hx
    have hLk := fun e => lower_keep (f := upB) hx e
    have hrd : rd (bcA ((s.take i).map upB ++ s.drop i)) (0 + i * 1) none = some (.v (.int .u8 (x.toNat : Int))) := by
      show (bcA ((s.take i).map upB ++ s.drop i))[0 + i * 1]? = _
      rw [Nat.zero_add, Nat.mul_one, bcA_get, hLg]; rfl
    have hcl := bcA_len ((s.take i).map upB ++ s.drop i)
    by_cases hc0 : 97 ≤ x.toNat ∧ x.toNat ≤ 122
    · have hfx : ((upB x).toNat : Int) = (x.toNat : Int) - 97 + 65 := by rw [upB, if_pos hc0, u8n (by omega)]; omega
      have hst := bcA_set ((s.take i).map upB ++ s.drop i) i (upB x)
      rw [hLs] at hst
      clear hLk hLs
      generalize hL : (s.take i).map upB ++ s.drop i = L at *
      repeat' (first
| ((with_reducible apply opsF.op rfl); case hs => first | exact tHT | exact tHS)
| (with_reducible first | apply opsF.nil | apply seqF.nn | apply vcF.seq | apply vcF.region | apply vcF.skip | apply vcF.block | apply vcF.exit | apply vcF.ret | apply vcF.loop | apply seqF.e | apply seqF.r | apply blkF.nn | apply blkF.e | apply blkF.r | apply blkF.o rfl)
| ((with_reducible apply opsF.call); case hx => exact tAG)
| ((with_reducible apply opsF.want); (case hg => exact tEV); case hb => exact tNB)
| ((with_reducible apply opsF.skip); (case hg => exact tEV); case hb => exact tNB)
| (first | ((with_reducible apply opsF.case); case hg => exact tEV) | ((with_reducible apply vcF.cond); case hx => exact tEV)) <;> ((intro hc; try simp only [Int.reduceLT, Int.reduceLE, Int.reduceEq, Int.reduceNe, Int.cast_ofNat_Int, Int.reduceNeg, reduceCtorEq, ne_eq, ge_iff_le, gt_iff_lt, beq_iff_eq, beq_eq_false_iff_ne, bne_iff_ne, bne_eq_false_iff_eq, nrm, *] at hc) <;> try (exfalso; omega))
| ((with_reducible apply opsF.und); case hg => rfl)
| ((with_reducible first | apply retF.r | apply retF.nn); case hv => exact tRS)
| ((with_reducible apply opsF.op rfl); (case hs => exact is_load tEV ho hrd)))
      refine ⟨i + 1, by omega, hE.set (Nat.le_refl _) _, hn, ?_, g3, g8, g9, rfl, by omega⟩
      rw [← hst, hfx]
      simp [set_at]
    · have hfx : upB x = x := by rw [upB, if_neg hc0]
      have hkeep := hLk hfx
      clear hLk hLs
      generalize hL : (s.take i).map upB ++ s.drop i = L at *
      repeat' (first
| ((with_reducible apply opsF.op rfl); case hs => first | exact tHT | exact tHS)
| (with_reducible first | apply opsF.nil | apply seqF.nn | apply vcF.seq | apply vcF.region | apply vcF.skip | apply vcF.block | apply vcF.exit | apply vcF.ret | apply vcF.loop | apply seqF.e | apply seqF.r | apply blkF.nn | apply blkF.e | apply blkF.r | apply blkF.o rfl)
| ((with_reducible apply opsF.call); case hx => exact tAG)
| ((with_reducible apply opsF.want); (case hg => exact tEV); case hb => exact tNB)
| ((with_reducible apply opsF.skip); (case hg => exact tEV); case hb => exact tNB)
| (first | ((with_reducible apply opsF.case); case hg => exact tEV) | ((with_reducible apply vcF.cond); case hx => exact tEV)) <;> ((intro hc; try simp only [Int.reduceLT, Int.reduceLE, Int.reduceEq, Int.reduceNe, Int.cast_ofNat_Int, Int.reduceNeg, reduceCtorEq, ne_eq, ge_iff_le, gt_iff_lt, beq_iff_eq, beq_eq_false_iff_ne, bne_iff_ne, bne_eq_false_iff_eq, nrm, *] at hc) <;> try (exfalso; omega))
| ((with_reducible apply opsF.und); case hg => rfl)
| ((with_reducible first | apply retF.r | apply retF.nn); case hv => exact tRS)
| ((with_reducible apply opsF.op rfl); (case hs => exact is_load tEV ho hrd)))
      all_goals exact ⟨i + 1, by omega, hE, hn, by rw [← hkeep]; exact ho, g3, g8, g9, rfl, by omega⟩
  · obtain rfl : i = s.length := by omega
    rw [List.take_length, List.drop_length, List.append_nil] at ho
    have hsr := src_bcA (cap := none) ho (n := s.length) (by simp)
    repeat' (first
| ((with_reducible apply opsF.op rfl); case hs => first | exact tHT | exact tHS)
| (with_reducible first | apply opsF.nil | apply seqF.nn | apply vcF.seq | apply vcF.region | apply vcF.skip | apply vcF.block | apply vcF.exit | apply vcF.ret | apply vcF.loop | apply seqF.e | apply seqF.r | apply blkF.nn | apply blkF.e | apply blkF.r | apply blkF.o rfl)
| ((with_reducible apply opsF.call); case hx => exact tAG)
| ((with_reducible apply opsF.want); (case hg => exact tEV); case hb => exact tNB)
| ((with_reducible apply opsF.skip); (case hg => exact tEV); case hb => exact tNB)
| (first | ((with_reducible apply opsF.case); case hg => exact tEV) | ((with_reducible apply vcF.cond); case hx => exact tEV)) <;> ((intro hc; try simp only [Int.reduceLT, Int.reduceLE, Int.reduceEq, Int.reduceNe, Int.cast_ofNat_Int, Int.reduceNeg, reduceCtorEq, ne_eq, ge_iff_le, gt_iff_lt, beq_iff_eq, beq_eq_false_iff_ne, bne_iff_ne, bne_eq_false_iff_eq, nrm, *] at hc) <;> try (exfalso; omega))
| ((with_reducible apply opsF.und); case hg => rfl)
| ((with_reducible first | apply retF.r | apply retF.nn); case hv => exact tRS)
| ((with_reducible apply opsF.op rfl); (case hs => exact is_b2s tEV hsr (bytes_brows _))))
    exact ⟨rfl, hE⟩
end Go.Abs.F
/- Layer 1: the program's mailboxes and paths. Layer 1: the program's routes and paths. Layer 1: the reference's local parts, domains, mailboxes. Layer 1: the reference's domains, mailboxes. -/
namespace Go.Abs.F
open Go Go.Abs
set_option maxRecDepth 10000
set_option maxHeartbeats 20000000
set_option linter.unusedSimpArgs false
set_option linter.unusedVariables false
variable {w0 : World}
def splitV (s : List UInt8) : AV := match splitO s with
  | some x => .tup [.v (.string (bs x.1)), .v (.string (bs x.2)), .v (.bool true)]
  | none => .tup [.v (.string (bs [])), .v (.string (bs [])), .v (.bool false)]
def optV : Option (List UInt8) → AV
  | some c => .tup [.v (.string (bs c)), .v (.bool true)]
  | none => .tup [.v (.string (bs [])), .v (.bool false)]
theorem cutB_le (c : UInt8) (s : List UInt8) : (cutB c s).1.length ≤ s.length ∧ (cutB c s).2.1.length ≤ s.length := by
  rcases cutB_cases c s with ⟨_, h⟩ | ⟨a, r, rfl, _, h⟩
  · rw [h]; exact ⟨Nat.le_refl _, Nat.zero_le _⟩
  · rw [h]; simp; omega
theorem split_call (s : List UInt8) (h : AH) (hl : s.length ≤ 1000000000) : Call P w0 addr_Split [.v (.string (bs s))] h (fun v h' => v = splitV s ∧ Ext h h') := by
  have hcut := fun h => cut_call (w0 := w0) s 64 h (by omega)
  obtain ⟨l1, l2⟩ := cutB_le 64 s
  have hlo := fun h => local_call (w0 := w0) (cutB 64 s).1 h (by omega)
  have hdo := fun h => domain_call (w0 := w0) (cutB 64 s).2.1 h (by omega)
  have hsv : splitV s = if (cutB 64 s).2.2 = true ∧ localS (cutB 64 s).1 = true ∧ domainS (cutB 64 s).2.1 = true then .tup [.v (.string (bs (cutB 64 s).1)), .v (.string (bs (cutB 64 s).2.1)), .v (.bool true)] else .tup [.v (.string (bs [])), .v (.string (bs [])), .v (.bool false)] := by
    unfold splitV splitO
    by_cases hc : (cutB 64 s).2.2 = true ∧ localS (cutB 64 s).1 = true ∧ domainS (cutB 64 s).2.1 = true
    · rw [if_pos hc, if_pos hc]
    · rw [if_neg hc, if_neg hc]
  rw [hsv]
  clear hsv
  refine Call.bodyF b_addr_Split rfl rfl ?_
  unfold c_addr_Split
  generalize cutB 64 s = q at *
  obtain ⟨a, r, ok⟩ := q
  simp only [] at *
  cases ok <;> cases hA : localS a <;> cases hD : domainS r
  all_goals rw [hA] at hlo
  all_goals rw [hD] at hdo
  all_goals simp only [Bool.false_eq_true, false_and, and_false, if_false, and_self, if_true]
  all_goals repeat' (first
| ((with_reducible apply opsF.op rfl); case hs => first | exact tHT | exact tHS)
| (with_reducible first | apply opsF.nil | apply seqF.nn | apply vcF.seq | apply vcF.region | apply vcF.skip | apply vcF.ret | apply seqF.r)
| ((with_reducible apply opsF.call); case hx => exact tAG)
| ((with_reducible apply opsF.want); (case hg => exact tEV); case hb => exact tNB)
| ((with_reducible apply opsF.skip); (case hg => exact tEV); case hb => exact tNB)
| (first | ((with_reducible apply opsF.case); case hg => exact tEV) | ((with_reducible apply vcF.cond); case hx => exact tEV)) <;> ((intro hc; try simp only [Int.reduceLT, Int.reduceLE, Int.reduceEq, Int.reduceNe, Int.cast_ofNat_Int, Int.reduceNeg, reduceCtorEq, ne_eq, ge_iff_le, gt_iff_lt, beq_iff_eq, beq_eq_false_iff_ne, bne_iff_ne, bne_eq_false_iff_eq, nrm, *] at hc) <;> try (exfalso; omega))
| ((with_reducible apply opsF.und); case hg => rfl)
| ((with_reducible first | apply retF.r | apply retF.nn); case hv => exact tRS)
| ((refine (hcut _).mono fun v h2 hp => ?_); obtain ⟨rfl, rfl⟩ := hp)
| ((refine (hlo _).mono fun v h2 hp => ?_); obtain ⟨rfl, he⟩ := hp; have hN := he.n; have hO := he.objs; (try simp only [alloc_n, set_n, newTok_n, bump_n] at hN hO))
| ((refine (hdo _).mono fun v h3 hp => ?_); obtain ⟨rfl, he2⟩ := hp; have hN := he2.n; have hO := he2.objs; (try simp only [alloc_n, set_n, newTok_n, bump_n] at hN hO)))
  all_goals first
    | exact ⟨rfl, .refl _⟩
    | exact ⟨rfl, he.trans he2⟩
    | exact ⟨rfl, he⟩
theorem canonV_eq (s : List UInt8) : optV (canonO s) = match splitO s with
    | some x => .tup [.v (.string (bs (x.1 ++ 64 :: lowerS x.2))), .v (.bool true)]
    | none => .tup [.v (.string (bs [])), .v (.bool false)] := by
  unfold canonO
  cases splitO s <;> rfl
theorem splitO_len {s : List UInt8} {x : List UInt8 × List UInt8} (h : splitO s = some x) : x.1.length ≤ 64 ∧ x.2.length ≤ 255 := by
  unfold splitO at h
  split at h
  · rename_i hh
    injection h with h
    subst h
    obtain ⟨_, h2, h3⟩ := hh
    simp only [localS, domainS, Bool.and_eq_true, decide_eq_true_eq] at h2 h3
    exact ⟨h2.1, h3.1⟩
  · cases h
theorem lowerS_len (s : List UInt8) : (lowerS s).length = s.length := by simp [lowerS]
theorem canon_call (s : List UInt8) (h : AH) (hl : s.length ≤ 1000000000) : Call P w0 addr_Canon [.v (.string (bs s))] h (fun v h' => v = optV (canonO s) ∧ Ext h h') := by
  have hsp := fun h => split_call (w0 := w0) s h hl
  rw [canonV_eq]
  unfold splitV at hsp
  refine Call.bodyF b_addr_Canon rfl rfl ?_
  unfold c_addr_Canon
  cases hx : splitO s with
  | none =>
    rw [hx] at hsp
    repeat' (first
| ((with_reducible apply opsF.op rfl); case hs => first | exact tHT | exact tHS)
| (with_reducible first | apply opsF.nil | apply seqF.nn | apply vcF.seq | apply vcF.region | apply vcF.skip | apply vcF.ret | apply seqF.r)
| ((with_reducible apply opsF.call); case hx => exact tAG)
| ((with_reducible apply vcF.cond); case hx => exact tEV) <;> ((intro hc; try simp only [Int.reduceLT, Int.reduceLE, Int.reduceEq, Int.reduceNe, Int.cast_ofNat_Int, Int.reduceNeg, reduceCtorEq, ne_eq, ge_iff_le, gt_iff_lt, beq_iff_eq, beq_eq_false_iff_ne, bne_iff_ne, bne_eq_false_iff_eq, nrm, *] at hc) <;> try (exfalso; omega))
| ((with_reducible first | apply retF.r | apply retF.nn); case hv => exact tRS)
| ((refine (hsp _).mono fun v h2 hp => ?_); obtain ⟨rfl, he⟩ := hp; have hN := he.n; have hO := he.objs; (try simp only [alloc_n, set_n, newTok_n, bump_n] at hN hO)))
    all_goals exact ⟨rfl, he⟩
  | some x =>
    obtain ⟨a, b⟩ := x
    obtain ⟨g1, g2⟩ := splitO_len hx
    rw [hx] at hsp
    simp only [] at g1 g2 hsp ⊢
    have hlw := fun h => lower_call (w0 := w0) b h (by omega)
    have hll := lowerS_len b
    repeat' (first
| ((with_reducible apply opsF.op rfl); case hs => first | exact tHT | exact tHS)
| (with_reducible first | apply opsF.nil | apply seqF.nn | apply vcF.seq | apply vcF.region | apply vcF.skip | apply vcF.ret | apply seqF.r)
| ((with_reducible apply opsF.call); case hx => exact tAG)
| ((with_reducible apply vcF.cond); case hx => exact tEV) <;> ((intro hc; try simp only [Int.reduceLT, Int.reduceLE, Int.reduceEq, Int.reduceNe, Int.cast_ofNat_Int, Int.reduceNeg, reduceCtorEq, ne_eq, ge_iff_le, gt_iff_lt, beq_iff_eq, beq_eq_false_iff_ne, bne_iff_ne, bne_eq_false_iff_eq, nrm, *] at hc) <;> try (exfalso; omega))
| ((with_reducible first | apply retF.r | apply retF.nn); case hv => exact tRS)
| ((refine (hsp _).mono fun v h2 hp => ?_); obtain ⟨rfl, he⟩ := hp; have hN := he.n; have hO := he.objs; (try simp only [alloc_n, set_n, newTok_n, bump_n] at hN hO))
| ((refine (hlw _).mono fun v h3 hp => ?_); obtain ⟨rfl, he2⟩ := hp; have hN := he2.n; have hO := he2.objs; (try simp only [alloc_n, set_n, newTok_n, bump_n] at hN hO)))
    all_goals exact ⟨by simp, he.trans he2⟩
end Go.Abs.F
namespace Go.Abs.F
open Go Go.Abs
set_option maxRecDepth 10000
set_option maxHeartbeats 20000000
set_option linter.unusedSimpArgs false
set_option linter.unusedVariables false
variable {w0 : World}
theorem route1_call (s : List UInt8) (h : AH) (hl : s.length ≤ 1000000000) : Call P w0 addr_route_1 [.v (.string (bs s))] h (fun v h' => v = .v (.bool (!atS s)) ∧ Ext h h') := by
  refine Call.bodyF b_addr_route_1 rfl rfl ?_
  unfold c_addr_route_1
  cases s with
  | nil =>
    have : atS [] = false := rfl
    rw [this]
    repeat' (first
| ((with_reducible apply opsF.op rfl); case hs => first | exact tHT | exact tHS)
| (with_reducible first | apply opsF.nil | apply seqF.nn | apply vcF.seq | apply vcF.region | apply vcF.skip | apply vcF.ret | apply seqF.r)
| ((with_reducible apply opsF.call); case hx => exact tAG)
| ((with_reducible apply opsF.want); (case hg => exact tEV); case hb => exact tNB)
| ((with_reducible apply opsF.skip); (case hg => exact tEV); case hb => exact tNB)
| (first | ((with_reducible apply opsF.case); case hg => exact tEV) | ((with_reducible apply vcF.cond); case hx => exact tEV)) <;> ((intro hc; try simp only [Int.reduceLT, Int.reduceLE, Int.reduceEq, Int.reduceNe, Int.cast_ofNat_Int, Int.reduceNeg, reduceCtorEq, ne_eq, ge_iff_le, gt_iff_lt, beq_iff_eq, beq_eq_false_iff_ne, bne_iff_ne, bne_eq_false_iff_eq, nrm, *] at hc) <;> try (exfalso; omega))
| ((with_reducible apply opsF.und); case hg => rfl)
| ((with_reducible first | apply retF.r | apply retF.nn); case hv => exact tRS))
    all_goals exact ⟨rfl, .refl _⟩
  | cons x r =>
    have hdo := fun h => domain_call (w0 := w0) r h (by simp at hl; omega)
    have h0 : (x :: r)[0]? = some x := rfl
    have hne : (x :: r) ≠ [] := by simp
    have hsl : (x :: r).length = r.length + 1 := rfl
    have hdr : ((x :: r).take (r.length + 1)).drop 1 = r := by rw [← hsl, List.take_length]; rfl
    by_cases hx : (x.toNat : Int) = 64
    · have hat : atS (x :: r) = domainS r := by
        have : x = 64 := UInt8.toNat_inj.1 (by rw [show (64 : UInt8).toNat = 64 from rfl]; omega)
        simp [atS, this]
      rw [hat]
      generalize x :: r = s at *
      repeat' (first
| ((with_reducible apply opsF.op rfl); case hs => first | exact tHT | exact tHS)
| (with_reducible first | apply opsF.nil | apply seqF.nn | apply vcF.seq | apply vcF.region | apply vcF.skip | apply vcF.ret | apply seqF.r)
| ((with_reducible apply opsF.call); case hx => exact tAG)
| ((with_reducible apply opsF.want); (case hg => exact tEV); case hb => exact tNB)
| ((with_reducible apply opsF.skip); (case hg => exact tEV); case hb => exact tNB)
| (first | ((with_reducible apply opsF.case); case hg => exact tEV) | ((with_reducible apply vcF.cond); case hx => exact tEV)) <;> ((intro hc; try simp only [Int.reduceLT, Int.reduceLE, Int.reduceEq, Int.reduceNe, Int.cast_ofNat_Int, Int.reduceNeg, reduceCtorEq, ne_eq, ge_iff_le, gt_iff_lt, beq_iff_eq, beq_eq_false_iff_ne, bne_iff_ne, bne_eq_false_iff_eq, nrm, *] at hc) <;> try (exfalso; omega))
| ((with_reducible apply opsF.und); case hg => rfl)
| ((with_reducible first | apply retF.r | apply retF.nn); case hv => exact tRS)
| ((refine (hdo _).mono fun v h2 hp => ?_); obtain ⟨rfl, he⟩ := hp; have hN := he.n; have hO := he.objs; (try simp only [alloc_n, set_n, newTok_n, bump_n] at hN hO)))
      all_goals exact ⟨rfl, he⟩
    · have hat : atS (x :: r) = false := by
        have : x ≠ 64 := fun e => hx (by rw [e]; rfl)
        simp [atS, this]
      rw [hat]
      generalize x :: r = s at *
      repeat' (first
| ((with_reducible apply opsF.op rfl); case hs => first | exact tHT | exact tHS)
| (with_reducible first | apply opsF.nil | apply seqF.nn | apply vcF.seq | apply vcF.region | apply vcF.skip | apply vcF.ret | apply seqF.r)
| ((with_reducible apply opsF.call); case hx => exact tAG)
| ((with_reducible apply opsF.want); (case hg => exact tEV); case hb => exact tNB)
| ((with_reducible apply opsF.skip); (case hg => exact tEV); case hb => exact tNB)
| (first | ((with_reducible apply opsF.case); case hg => exact tEV) | ((with_reducible apply vcF.cond); case hx => exact tEV)) <;> ((intro hc; try simp only [Int.reduceLT, Int.reduceLE, Int.reduceEq, Int.reduceNe, Int.cast_ofNat_Int, Int.reduceNeg, reduceCtorEq, ne_eq, ge_iff_le, gt_iff_lt, beq_iff_eq, beq_eq_false_iff_ne, bne_iff_ne, bne_eq_false_iff_eq, nrm, *] at hc) <;> try (exfalso; omega))
| ((with_reducible apply opsF.und); case hg => rfl)
| ((with_reducible first | apply retF.r | apply retF.nn); case hv => exact tRS))
      all_goals exact ⟨rfl, .refl _⟩
theorem shasP_call (s : List UInt8) (c : UInt8) (h : AH) : Call P w0 strings_HasPrefix [.v (.string (bs s)), .v (.string (bs [c]))] h (fun v h' => v = .v (.bool (decide (s.head? = some c))) ∧ h' = h) := by
  refine Call.bodyF b_strings_HasPrefix rfl rfl ?_
  unfold c_strings_HasPrefix
  repeat' (first
| ((with_reducible apply opsF.op rfl); case hs => first | exact tHT | exact tHS)
| (with_reducible first | apply opsF.nil | apply seqF.nn | apply vcF.seq | apply vcF.region | apply vcF.skip | apply vcF.ret | apply seqF.r)
| ((with_reducible apply opsF.call); case hx => exact tAG)
| ((with_reducible apply vcF.cond); case hx => exact tEV) <;> ((intro hc; try simp only [Int.reduceLT, Int.reduceLE, Int.reduceEq, Int.reduceNe, Int.cast_ofNat_Int, Int.reduceNeg, reduceCtorEq, ne_eq, ge_iff_le, gt_iff_lt, beq_iff_eq, beq_eq_false_iff_ne, bne_iff_ne, bne_eq_false_iff_eq, nrm, *] at hc) <;> try (exfalso; omega))
| ((with_reducible first | apply retF.r | apply retF.nn); case hv => exact tRS)
| ((refine (hasP_call s c _).mono fun v h2 hp => ?_); obtain ⟨rfl, rfl⟩ := hp))
  all_goals exact ⟨rfl, rfl⟩
/-- What route gives. -/
def RouteP (s : List UInt8) (v : AV) : Prop := match routeO s with
  | some t => v = .tup [.v (.string (bs t)), .v (.bool true)]
  | none => ∃ t, v = .tup [.v (.string (bs t)), .v (.bool false)]
theorem route_call (s : List UInt8) (h : AH) (hl : s.length ≤ 1000000000) : Call P w0 addr_route [.v (.string (bs s))] h (fun v h' => RouteP s v ∧ Ext h h') := by
  have hpre := fun h => shasP_call (w0 := w0) s 64 h
  refine Call.bodyF b_addr_route rfl rfl ?_
  unfold c_addr_route
  by_cases hh : s.head? = some 64
  · have hd : decide (s.head? = some 64) = true := decide_eq_true hh
    rw [hd] at hpre
    have hcut := fun h => cut_call (w0 := w0) s 58 h (by omega)
    obtain ⟨l1, l2⟩ := cutB_le 58 s
    have hro : routeO s = if (cutB 58 s).2.2 = true ∧ (splB 44 (cutB 58 s).1).all atS = true then some (cutB 58 s).2.1 else none := by rw [routeO, if_pos hh]
    unfold RouteP
    rw [hro]
    clear hro
    generalize cutB 58 s = q at *
    obtain ⟨a, r, ok⟩ := q
    simp only [] at *
    have hsp := fun h => spl_call (w0 := w0) a 44 h (by omega)
    have hsl := splB_len (c := 44) a.length (Nat.le_refl _)
    have hp := fun h => conf_call (w0 := w0) addr_route_1 (fun s => !atS s) (splB 44 a) .no (fun w hw h => route1_call w h (by have := splB_mem a.length (Nat.le_refl _) hw; omega)) h (by omega)
    rw [any_not] at hp
    generalize (splB 44 a).all atS = B at *
    generalize splB 44 a = ws at *
    cases ok <;> cases B
    all_goals simp only [Bool.false_eq_true, false_and, and_false, if_false, and_self, if_true]
    all_goals repeat' (first
| ((with_reducible apply opsF.op rfl); case hs => first | exact tHT | exact tHS)
| (with_reducible first | apply opsF.nil | apply seqF.nn | apply vcF.seq | apply vcF.region | apply vcF.skip | apply vcF.ret | apply seqF.r)
| ((with_reducible apply opsF.call); case hx => exact tAG)
| ((with_reducible apply opsF.want); (case hg => exact tEV); case hb => exact tNB)
| ((with_reducible apply opsF.skip); (case hg => exact tEV); case hb => exact tNB)
| (first | ((with_reducible apply opsF.case); case hg => exact tEV) | ((with_reducible apply vcF.cond); case hx => exact tEV)) <;> ((intro hc; try simp only [Int.reduceLT, Int.reduceLE, Int.reduceEq, Int.reduceNe, Int.cast_ofNat_Int, Int.reduceNeg, reduceCtorEq, ne_eq, ge_iff_le, gt_iff_lt, beq_iff_eq, beq_eq_false_iff_ne, bne_iff_ne, bne_eq_false_iff_eq, nrm, *] at hc) <;> try (exfalso; omega))
| ((with_reducible apply opsF.und); case hg => rfl)
| ((with_reducible first | apply retF.r | apply retF.nn); case hv => exact tRS)
| ((refine (hpre _).mono fun v h2 hp => ?_); obtain ⟨rfl, rfl⟩ := hp)
| ((refine (hcut _).mono fun v h2 hp => ?_); obtain ⟨rfl, rfl⟩ := hp)
| ((refine (hsp _).mono fun v h2 hp => ?_); obtain ⟨rfl, he⟩ := hp; have hN := he.n; have hO := he.objs; (try simp only [alloc_n, set_n, newTok_n, bump_n] at hN hO))
| ((refine (hp _).mono fun v h3 hp => ?_); obtain ⟨rfl, he2⟩ := hp; have hN := he2.n; have hO := he2.objs; (try simp only [alloc_n, set_n, newTok_n, bump_n] at hN hO)))
    all_goals first
      | exact ⟨⟨_, rfl⟩, .refl _⟩
      | exact ⟨⟨_, rfl⟩, he.trans he2⟩
      | exact ⟨rfl, he.trans he2⟩
  · have hd : decide (s.head? = some 64) = false := decide_eq_false hh
    rw [hd] at hpre
    have hro : routeO s = some s := by rw [routeO, if_neg hh]
    unfold RouteP
    rw [hro]
    repeat' (first
| ((with_reducible apply opsF.op rfl); case hs => first | exact tHT | exact tHS)
| (with_reducible first | apply opsF.nil | apply seqF.nn | apply vcF.seq | apply vcF.region | apply vcF.skip | apply vcF.ret | apply seqF.r)
| ((with_reducible apply opsF.call); case hx => exact tAG)
| ((with_reducible apply opsF.want); (case hg => exact tEV); case hb => exact tNB)
| ((with_reducible apply opsF.skip); (case hg => exact tEV); case hb => exact tNB)
| (first | ((with_reducible apply opsF.case); case hg => exact tEV) | ((with_reducible apply vcF.cond); case hx => exact tEV)) <;> ((intro hc; try simp only [Int.reduceLT, Int.reduceLE, Int.reduceEq, Int.reduceNe, Int.cast_ofNat_Int, Int.reduceNeg, reduceCtorEq, ne_eq, ge_iff_le, gt_iff_lt, beq_iff_eq, beq_eq_false_iff_ne, bne_iff_ne, bne_eq_false_iff_eq, nrm, *] at hc) <;> try (exfalso; omega))
| ((with_reducible apply opsF.und); case hg => rfl)
| ((with_reducible first | apply retF.r | apply retF.nn); case hv => exact tRS)
| ((refine (hpre _).mono fun v h2 hp => ?_); obtain ⟨rfl, rfl⟩ := hp))
    all_goals exact ⟨rfl, .refl _⟩
end Go.Abs.F
namespace Go.Abs.F
open Go Go.Abs
set_option maxRecDepth 10000
set_option maxHeartbeats 20000000
set_option linter.unusedSimpArgs false
set_option linter.unusedVariables false
variable {w0 : World}
theorem all_bad {α : Type} {p : α → Bool} {l : List α} {i : Nat} {x : α} (hx : l[i]? = some x) (h : p x = false) : l.all p = false := by
  rw [List.all_eq_false]
  exact ⟨x, List.mem_of_getElem? hx, by simp [h]⟩
end Go.Abs.F
namespace Go.Abs.F
open Go Go.Abs
set_option maxRecDepth 10000
set_option maxHeartbeats 20000000
set_option linter.unusedSimpArgs false
set_option linter.unusedVariables false
variable {w0 : World}
end Go.Abs.F
/- Layer 1: paths: the program's and the reference's. -/
namespace Go.Abs.F
open Go Go.Abs
set_option maxRecDepth 10000
set_option maxHeartbeats 20000000
set_option linter.unusedSimpArgs false
set_option linter.unusedVariables false
variable {w0 : World}
def midS (s : List UInt8) : List UInt8 := (s.take (s.length - 1)).drop 1
theorem midS_eq (s : List UInt8) : midS s = s.tail.dropLast := by
  rw [midS, List.drop_take, List.dropLast_eq_take, List.length_tail, List.drop_one]
theorem midS_len (s : List UInt8) : (midS s).length ≤ s.length := by simp [midS]; omega
theorem pathO_in {s : List UInt8} {x z : UInt8} (hs : ¬ s = [60, 62]) (h2 : 2 ≤ s.length) (h0 : s[0]? = some x) (hz : s[s.length - 1]? = some z) :
    pathO s = if (x.toNat : Int) = 60 ∧ (z.toNat : Int) = 62 then (routeO (midS s)).bind canonO else none := by
  have hhd : s.head? = some x := by rw [List.head?_eq_getElem?]; exact h0
  have hlt : s.getLast? = some z := by rw [List.getLast?_eq_getElem?]; exact hz
  rw [pathO, if_neg hs, hhd, hlt, midS_eq]
  have e1 : (2 ≤ s.length ∧ some x = some (60 : UInt8) ∧ some z = some (62 : UInt8)) ↔ ((x.toNat : Int) = 60 ∧ (z.toNat : Int) = 62) := by
    constructor
    · rintro ⟨_, e1, e2⟩
      injection e1 with e1
      injection e2 with e2
      rw [e1, e2]
      exact ⟨rfl, rfl⟩
    · rintro ⟨e1, e2⟩
      refine ⟨h2, congrArg some (UInt8.toNat_inj.1 ?_), congrArg some (UInt8.toNat_inj.1 ?_)⟩
      · rw [show (60 : UInt8).toNat = 60 from rfl]; omega
      · rw [show (62 : UInt8).toNat = 62 from rfl]; omega
  by_cases hc : ((x.toNat : Int) = 60 ∧ (z.toNat : Int) = 62)
  · rw [if_pos hc, if_pos (e1.2 hc)]
  · rw [if_neg hc, if_neg (fun e => hc (e1.1 e))]
theorem pathO_short {s : List UInt8} (hs : ¬ s = [60, 62]) (h2 : ¬ 2 ≤ s.length) : pathO s = none := by
  rw [pathO, if_neg hs, if_neg (fun e => h2 e.1)]
theorem cutB_bd (c : UInt8) {s t : List UInt8} {n : Nat} (hl : s.length ≤ n) (h : routeO s = some t) : t.length ≤ n := by
  unfold routeO at h
  split at h
  · split at h
    · injection h with h
      subst h
      exact Nat.le_trans (cutB_le 58 s).2 hl
    · cases h
  · injection h with h
    rw [← h]; exact hl
theorem path_call (s : List UInt8) (h : AH) (hl : s.length ≤ 1000000000) : Call P w0 addr_Path [.v (.string (bs s))] h (fun v h' => v = optV (pathO s) ∧ Ext h h') := by
  refine Call.bodyF b_addr_Path rfl rfl ?_
  unfold c_addr_Path
  by_cases hs : s = [60, 62]
  · have : optV (pathO s) = .tup [.v (.string (bs [])), .v (.bool true)] := by rw [hs]; rfl
    rw [this]
    repeat' (first
| ((with_reducible apply opsF.op rfl); case hs => first | exact tHT | exact tHS)
| (with_reducible first | apply opsF.nil | apply seqF.nn | apply vcF.seq | apply vcF.region | apply vcF.skip | apply vcF.ret | apply seqF.r)
| ((with_reducible apply opsF.call); case hx => exact tAG)
| ((with_reducible apply opsF.want); (case hg => exact tEV); case hb => exact tNB)
| ((with_reducible apply opsF.skip); (case hg => exact tEV); case hb => exact tNB)
| (first | ((with_reducible apply opsF.case); case hg => exact tEV) | ((with_reducible apply vcF.cond); case hx => exact tEV)) <;> ((intro hc; try simp only [Int.reduceLT, Int.reduceLE, Int.reduceEq, Int.reduceNe, Int.cast_ofNat_Int, Int.reduceNeg, reduceCtorEq, ne_eq, ge_iff_le, gt_iff_lt, beq_iff_eq, beq_eq_false_iff_ne, bne_iff_ne, bne_eq_false_iff_eq, nrm, *] at hc) <;> try (exfalso; omega))
| ((with_reducible apply opsF.und); case hg => rfl)
| ((with_reducible first | apply retF.r | apply retF.nn); case hv => exact tRS))
    all_goals exact ⟨rfl, .refl _⟩
  · by_cases h2 : 2 ≤ s.length
    · obtain ⟨x, h0⟩ : ∃ x, s[0]? = some x := ⟨_, List.getElem?_eq_getElem (by omega)⟩
      obtain ⟨z, hz⟩ : ∃ z, s[s.length - 1]? = some z := ⟨_, List.getElem?_eq_getElem (by omega)⟩
      have hi1 : ((s.length : Int) - 1).toNat = s.length - 1 := by omega
      have hp := pathO_in hs h2 h0 hz
      by_cases hx : (x.toNat : Int) = 60
      · by_cases hzz : (z.toNat : Int) = 62
        · rw [if_pos ⟨hx, hzz⟩] at hp
          rw [hp]
          have hro := fun h => route_call (w0 := w0) (midS s) h (by have := midS_len s; omega)
          have hbd := fun t => cutB_bd (s := midS s) (t := t) 0 (Nat.le_trans (midS_len s) hl)
          have hmid : (s.take (s.length - 1)).drop 1 = midS s := rfl
          clear hp
          unfold RouteP at hro
          generalize midS s = m at *
          cases hq : routeO m with
          | none =>
            rw [hq] at hro
            simp only [Option.bind_none, optV]
            simp only [] at hro
            repeat' (first
| ((with_reducible apply opsF.op rfl); case hs => first | exact tHT | exact tHS)
| (with_reducible first | apply opsF.nil | apply seqF.nn | apply vcF.seq | apply vcF.region | apply vcF.skip | apply vcF.ret | apply seqF.r)
| ((with_reducible apply opsF.call); case hx => exact tAG)
| ((with_reducible apply opsF.want); (case hg => exact tEV); case hb => exact tNB)
| ((with_reducible apply opsF.skip); (case hg => exact tEV); case hb => exact tNB)
| (first | ((with_reducible apply opsF.case); case hg => exact tEV) | ((with_reducible apply vcF.cond); case hx => exact tEV)) <;> ((intro hc; try simp only [Int.reduceLT, Int.reduceLE, Int.reduceEq, Int.reduceNe, Int.cast_ofNat_Int, Int.reduceNeg, reduceCtorEq, ne_eq, ge_iff_le, gt_iff_lt, beq_iff_eq, beq_eq_false_iff_ne, bne_iff_ne, bne_eq_false_iff_eq, nrm, *] at hc) <;> try (exfalso; omega))
| ((with_reducible apply opsF.und); case hg => rfl)
| ((with_reducible first | apply retF.r | apply retF.nn); case hv => exact tRS)
| ((refine (hro _).mono fun v h3 hp => ?_); obtain ⟨⟨t, rfl⟩, he⟩ := hp; have hN := he.n; have hO := he.objs; (try simp only [alloc_n, set_n, newTok_n, bump_n] at hN hO)))
            all_goals exact ⟨rfl, he⟩
          | some t =>
            rw [hq] at hro
            simp only [] at hro
            have hca := fun h => canon_call (w0 := w0) t h (hbd t hq)
            simp only [Option.bind_some]
            clear hbd hq
            generalize canonO t = q at *
            cases q with
            | none =>
              simp only [optV] at *
              repeat' (first
| ((with_reducible apply opsF.op rfl); case hs => first | exact tHT | exact tHS)
| (with_reducible first | apply opsF.nil | apply seqF.nn | apply vcF.seq | apply vcF.region | apply vcF.skip | apply vcF.ret | apply seqF.r)
| ((with_reducible apply opsF.call); case hx => exact tAG)
| ((with_reducible apply opsF.want); (case hg => exact tEV); case hb => exact tNB)
| ((with_reducible apply opsF.skip); (case hg => exact tEV); case hb => exact tNB)
| (first | ((with_reducible apply opsF.case); case hg => exact tEV) | ((with_reducible apply vcF.cond); case hx => exact tEV)) <;> ((intro hc; try simp only [Int.reduceLT, Int.reduceLE, Int.reduceEq, Int.reduceNe, Int.cast_ofNat_Int, Int.reduceNeg, reduceCtorEq, ne_eq, ge_iff_le, gt_iff_lt, beq_iff_eq, beq_eq_false_iff_ne, bne_iff_ne, bne_eq_false_iff_eq, nrm, *] at hc) <;> try (exfalso; omega))
| ((with_reducible apply opsF.und); case hg => rfl)
| ((with_reducible first | apply retF.r | apply retF.nn); case hv => exact tRS)
| ((refine (hro _).mono fun v h3 hp => ?_); obtain ⟨rfl, he⟩ := hp; have hN := he.n; have hO := he.objs; (try simp only [alloc_n, set_n, newTok_n, bump_n] at hN hO))
| ((refine (hca _).mono fun v h4 hp => ?_); obtain ⟨rfl, he2⟩ := hp; have hN := he2.n; have hO := he2.objs; (try simp only [alloc_n, set_n, newTok_n, bump_n] at hN hO)))
              all_goals exact ⟨rfl, he.trans he2⟩
            | some u =>
              simp only [optV] at *
              repeat' (first
| ((with_reducible apply opsF.op rfl); case hs => first | exact tHT | exact tHS)
| (with_reducible first | apply opsF.nil | apply seqF.nn | apply vcF.seq | apply vcF.region | apply vcF.skip | apply vcF.ret | apply seqF.r)
| ((with_reducible apply opsF.call); case hx => exact tAG)
| ((with_reducible apply opsF.want); (case hg => exact tEV); case hb => exact tNB)
| ((with_reducible apply opsF.skip); (case hg => exact tEV); case hb => exact tNB)
| (first | ((with_reducible apply opsF.case); case hg => exact tEV) | ((with_reducible apply vcF.cond); case hx => exact tEV)) <;> ((intro hc; try simp only [Int.reduceLT, Int.reduceLE, Int.reduceEq, Int.reduceNe, Int.cast_ofNat_Int, Int.reduceNeg, reduceCtorEq, ne_eq, ge_iff_le, gt_iff_lt, beq_iff_eq, beq_eq_false_iff_ne, bne_iff_ne, bne_eq_false_iff_eq, nrm, *] at hc) <;> try (exfalso; omega))
| ((with_reducible apply opsF.und); case hg => rfl)
| ((with_reducible first | apply retF.r | apply retF.nn); case hv => exact tRS)
| ((refine (hro _).mono fun v h3 hp => ?_); obtain ⟨rfl, he⟩ := hp; have hN := he.n; have hO := he.objs; (try simp only [alloc_n, set_n, newTok_n, bump_n] at hN hO))
| ((refine (hca _).mono fun v h4 hp => ?_); obtain ⟨rfl, he2⟩ := hp; have hN := he2.n; have hO := he2.objs; (try simp only [alloc_n, set_n, newTok_n, bump_n] at hN hO)))
              all_goals exact ⟨rfl, he.trans he2⟩
        · rw [hp, if_neg (fun e => hzz e.2)]
          clear hp
          simp only [optV]
          repeat' (first
| ((with_reducible apply opsF.op rfl); case hs => first | exact tHT | exact tHS)
| (with_reducible first | apply opsF.nil | apply seqF.nn | apply vcF.seq | apply vcF.region | apply vcF.skip | apply vcF.ret | apply seqF.r)
| ((with_reducible apply opsF.call); case hx => exact tAG)
| ((with_reducible apply opsF.want); (case hg => exact tEV); case hb => exact tNB)
| ((with_reducible apply opsF.skip); (case hg => exact tEV); case hb => exact tNB)
| (first | ((with_reducible apply opsF.case); case hg => exact tEV) | ((with_reducible apply vcF.cond); case hx => exact tEV)) <;> ((intro hc; try simp only [Int.reduceLT, Int.reduceLE, Int.reduceEq, Int.reduceNe, Int.cast_ofNat_Int, Int.reduceNeg, reduceCtorEq, ne_eq, ge_iff_le, gt_iff_lt, beq_iff_eq, beq_eq_false_iff_ne, bne_iff_ne, bne_eq_false_iff_eq, nrm, *] at hc) <;> try (exfalso; omega))
| ((with_reducible apply opsF.und); case hg => rfl)
| ((with_reducible first | apply retF.r | apply retF.nn); case hv => exact tRS))
          all_goals exact ⟨rfl, .refl _⟩
      · rw [hp, if_neg (fun e => hx e.1)]
        clear hp
        simp only [optV]
        repeat' (first
| ((with_reducible apply opsF.op rfl); case hs => first | exact tHT | exact tHS)
| (with_reducible first | apply opsF.nil | apply seqF.nn | apply vcF.seq | apply vcF.region | apply vcF.skip | apply vcF.ret | apply seqF.r)
| ((with_reducible apply opsF.call); case hx => exact tAG)
| ((with_reducible apply opsF.want); (case hg => exact tEV); case hb => exact tNB)
| ((with_reducible apply opsF.skip); (case hg => exact tEV); case hb => exact tNB)
| (first | ((with_reducible apply opsF.case); case hg => exact tEV) | ((with_reducible apply vcF.cond); case hx => exact tEV)) <;> ((intro hc; try simp only [Int.reduceLT, Int.reduceLE, Int.reduceEq, Int.reduceNe, Int.cast_ofNat_Int, Int.reduceNeg, reduceCtorEq, ne_eq, ge_iff_le, gt_iff_lt, beq_iff_eq, beq_eq_false_iff_ne, bne_iff_ne, bne_eq_false_iff_eq, nrm, *] at hc) <;> try (exfalso; omega))
| ((with_reducible apply opsF.und); case hg => rfl)
| ((with_reducible first | apply retF.r | apply retF.nn); case hv => exact tRS))
        all_goals exact ⟨rfl, .refl _⟩
    · rw [pathO_short hs h2]
      simp only [optV]
      repeat' (first
| ((with_reducible apply opsF.op rfl); case hs => first | exact tHT | exact tHS)
| (with_reducible first | apply opsF.nil | apply seqF.nn | apply vcF.seq | apply vcF.region | apply vcF.skip | apply vcF.ret | apply seqF.r)
| ((with_reducible apply opsF.call); case hx => exact tAG)
| ((with_reducible apply opsF.want); (case hg => exact tEV); case hb => exact tNB)
| ((with_reducible apply opsF.skip); (case hg => exact tEV); case hb => exact tNB)
| (first | ((with_reducible apply opsF.case); case hg => exact tEV) | ((with_reducible apply vcF.cond); case hx => exact tEV)) <;> ((intro hc; try simp only [Int.reduceLT, Int.reduceLE, Int.reduceEq, Int.reduceNe, Int.cast_ofNat_Int, Int.reduceNeg, reduceCtorEq, ne_eq, ge_iff_le, gt_iff_lt, beq_iff_eq, beq_eq_false_iff_ne, bne_iff_ne, bne_eq_false_iff_eq, nrm, *] at hc) <;> try (exfalso; omega))
| ((with_reducible apply opsF.und); case hg => rfl)
| ((with_reducible first | apply retF.r | apply retF.nn); case hv => exact tRS))
      all_goals exact ⟨rfl, .refl _⟩
end Go.Abs.F
/- For a seat that has the texts of addresses: what Smb holds elsewhere stands there; built under Smb's name. -/
/- Replies' lines, read by the program and by the document. -/
namespace Go.Abs.F
open Go Go.Abs
set_option maxRecDepth 10000
set_option maxHeartbeats 20000000
set_option linter.unusedSimpArgs false
set_option linter.unusedVariables false
variable {w0 : World}
theorem code_call (n : Int) (h : AH) : Call P w0 reply_code [.v (.int .i64 n)] h (fun v h' => v = .v (.bool (decide (200 ≤ n ∧ n ≤ 599))) ∧ h' = h) := by
  refine Call.bodyF b_reply_code rfl rfl ?_
  unfold c_reply_code
  repeat' (first
| ((with_reducible apply opsF.op rfl); case hs => first | exact tHT | exact tHS)
| (with_reducible first | apply opsF.nil | apply seqF.nn | apply vcF.seq | apply vcF.region | apply vcF.skip | apply vcF.ret | apply seqF.r)
| ((with_reducible apply opsF.call); case hx => exact tAG)
| ((with_reducible apply opsF.want); (case hg => exact tEV); case hb => exact tNB)
| ((with_reducible apply opsF.skip); (case hg => exact tEV); case hb => exact tNB)
| (first | ((with_reducible apply opsF.case); case hg => exact tEV) | ((with_reducible apply vcF.cond); case hx => exact tEV)) <;> ((intro hc; try simp only [Int.reduceLT, Int.reduceLE, Int.reduceEq, Int.reduceNe, Int.cast_ofNat_Int, Int.reduceNeg, reduceCtorEq, ne_eq, ge_iff_le, gt_iff_lt, beq_iff_eq, beq_eq_false_iff_ne, bne_iff_ne, bne_eq_false_iff_eq, nrm, *] at hc) <;> try (exfalso; omega))
| ((with_reducible apply opsF.und); case hg => rfl)
| ((with_reducible first | apply retF.r | apply retF.nn); case hv => exact tRS))
  · simp [*]
  · have : ¬ 200 ≤ n := by omega
    simp [this]
/-- A line, without its end. -/
def lineS (most : Int) (b : List UInt8) : Int × List UInt8 :=
  if most < (b.length : Int) + 2 then (2, []) else if b.any (fun x => x = 0 || x = 10 || x = 13) then (3, []) else (1, b)
end Go.Abs.F
/- Layer 5: bodies. -/
namespace Go.Abs.F
open Go Go.Abs
set_option maxRecDepth 10000
set_option maxHeartbeats 20000000
set_option linter.unusedSimpArgs false
set_option linter.unusedVariables false
variable {w0 : World}
abbrev L8 := List UInt8
def lineOkS (s : L8) : Bool := !s.contains 0 && !s.contains 10 && !s.contains 13 && decide (s.length ≤ 997)
def bsizeS : List L8 → Nat
  | [] => 0
  | s :: l => s.length + 2 + bsizeS l
def bodyS (l : List L8) : Bool := l.all lineOkS && decide (bsizeS l ≤ 65536)
theorem bsize_app (l m : List L8) : bsizeS (l ++ m) = bsizeS l + bsizeS m := by
  induction l with
  | nil => simp [bsizeS]
  | cons x l ih => simp only [List.cons_append, bsizeS, ih]; omega
theorem bsize_take {l : List L8} {i : Nat} {x : L8} (hx : l[i]? = some x) : bsizeS (l.take (i + 1)) = bsizeS (l.take i) + x.length + 2 := by
  rw [List.take_add_one, hx, Option.toList_some, bsize_app]
  simp only [bsizeS]
  omega
theorem bsize_bd {l : List L8} {K : Nat} (h : ∀ s ∈ l, s.length ≤ K) : bsizeS l ≤ l.length * (K + 2) := by
  induction l with
  | nil => simp [bsizeS]
  | cons x l ih =>
    have h1 := h x (by simp)
    have h2 := ih fun s hs => h s (by simp [hs])
    simp only [bsizeS, List.length_cons, Nat.add_mul]
    omega
theorem bsize_bt {l : List L8} {K : Nat} (h : ∀ s ∈ l, s.length ≤ K) (i : Nat) : bsizeS (l.take i) ≤ l.length * (K + 2) := by
  have h1 := bsize_bd (l := l.take i) fun s hs => h s (List.mem_of_mem_take hs)
  have h2 : (l.take i).length ≤ l.length := by rw [List.length_take]; omega
  exact Nat.le_trans h1 (Nat.mul_le_mul_right _ h2)
theorem dsize_call (l : List L8) (tok : Tok) (h : AH) (hl : l.length ≤ 140737488351232) (hs : ∀ s ∈ l, s.length ≤ 1000) : Call P w0 dots_Size [.list 1 (srows l) tok] h (fun v h' => v = .v (.int .i64 (bsizeS l : Nat)) ∧ h' = h) := by
  have xl := srows_len
  have xg := srows_get
  have m1 := srows_len l
  refine Call.bodyF b_dots_Size rfl rfl ?_
  unfold c_dots_Size
  repeat' (first
| ((with_reducible apply opsF.op rfl); case hs => first | exact tHT | exact tHS)
| (with_reducible first | apply opsF.nil | apply seqF.nn | apply vcF.seq | apply vcF.region | apply vcF.skip | apply vcF.block | apply vcF.exit | apply vcF.ret | apply vcF.loop | apply seqF.e | apply seqF.r | apply blkF.nn | apply blkF.e | apply blkF.r | apply blkF.o rfl)
| ((with_reducible apply opsF.call); case hx => exact tAG)
| ((with_reducible apply vcF.cond); case hx => exact tEV) <;> ((intro hc; try simp only [Int.reduceLT, Int.reduceLE, Int.reduceEq, Int.reduceNe, Int.cast_ofNat_Int, Int.reduceNeg, reduceCtorEq, ne_eq, ge_iff_le, gt_iff_lt, beq_iff_eq, beq_eq_false_iff_ne, bne_iff_ne, bne_eq_false_iff_eq, nrm, *] at hc) <;> try (exfalso; omega))
| ((with_reducible first | apply retF.r | apply retF.nn); case hv => exact tRS))
  refine LpF.ind rfl (fun i : Nat => l.length - i) (fun i σ h' => h' = h ∧ σ 6 = .list 1 (srows l) tok ∧ σ 7 = .v (.int .i64 (l.length : Nat)) ∧ σ 8 = .v (.int .i64 (i : Nat)) ∧ σ 3 = .v (.int .i64 (bsizeS (l.take i) : Nat)) ∧ i ≤ l.length) ?_ (i := 0) ⟨rfl, rfl, by first | rfl | (rw [← m1]; rfl), rfl, rfl, Nat.zero_le _⟩
  rintro i σ h' ⟨rfl, h0, h1, h7, h8, hi⟩
  have hbt : bsizeS (l.take i) ≤ 141018963327934464 := by
    have h1 := bsize_bt hs i
    have h2 : l.length * (1000 + 2) ≤ 140737488351232 * (1000 + 2) := Nat.mul_le_mul_right _ hl
    omega
  rcases Nat.lt_or_ge i l.length with hlt | hge
  · obtain ⟨x, hx⟩ : ∃ x, l[i]? = some x := ⟨_, List.getElem?_eq_getElem hlt⟩
    have hxl := hs x (List.mem_of_getElem? hx)
    have htk := bsize_take hx
    generalize bsizeS (l.take i) = m at *
    repeat' (first
| ((with_reducible apply opsF.op rfl); case hs => first | exact tHT | exact tHS)
| (with_reducible first | apply opsF.nil | apply seqF.nn | apply vcF.seq | apply vcF.region | apply vcF.skip | apply vcF.block | apply vcF.exit | apply vcF.ret | apply vcF.loop | apply seqF.e | apply seqF.r | apply blkF.nn | apply blkF.e | apply blkF.r | apply blkF.o rfl)
| ((with_reducible apply opsF.call); case hx => exact tAG)
| ((with_reducible apply vcF.cond); case hx => exact tEV) <;> ((intro hc; try simp only [Int.reduceLT, Int.reduceLE, Int.reduceEq, Int.reduceNe, Int.cast_ofNat_Int, Int.reduceNeg, reduceCtorEq, ne_eq, ge_iff_le, gt_iff_lt, beq_iff_eq, beq_eq_false_iff_ne, bne_iff_ne, bne_eq_false_iff_eq, nrm, *] at hc) <;> try (exfalso; omega))
| ((with_reducible first | apply retF.r | apply retF.nn); case hv => exact tRS))
    refine ⟨i + 1, by omega, rfl, h0, h1, rfl, ?_, by omega⟩
    conv => lhs; whnf
    rw [htk]
    simp
    omega
  · obtain rfl : i = l.length := by omega
    rw [List.take_length] at h8
    repeat' (first
| ((with_reducible apply opsF.op rfl); case hs => first | exact tHT | exact tHS)
| (with_reducible first | apply opsF.nil | apply seqF.nn | apply vcF.seq | apply vcF.region | apply vcF.skip | apply vcF.block | apply vcF.exit | apply vcF.ret | apply vcF.loop | apply seqF.e | apply seqF.r | apply blkF.nn | apply blkF.e | apply blkF.r | apply blkF.o rfl)
| ((with_reducible apply opsF.call); case hx => exact tAG)
| ((with_reducible apply vcF.cond); case hx => exact tEV) <;> ((intro hc; try simp only [Int.reduceLT, Int.reduceLE, Int.reduceEq, Int.reduceNe, Int.cast_ofNat_Int, Int.reduceNeg, reduceCtorEq, ne_eq, ge_iff_le, gt_iff_lt, beq_iff_eq, beq_eq_false_iff_ne, bne_iff_ne, bne_eq_false_iff_eq, nrm, *] at hc) <;> try (exfalso; omega))
| ((with_reducible first | apply retF.r | apply retF.nn); case hv => exact tRS))
    all_goals exact ⟨rfl, rfl⟩
theorem ok_len {l : List L8} (h : l.all lineOkS = true) : ∀ s ∈ l, s.length ≤ 1000 := fun s hs => by
  have := List.all_eq_true.1 h s hs
  simp only [lineOkS, Bool.and_eq_true, decide_eq_true_eq] at this
  omega
theorem dgood_call (l : List L8) (tok : Tok) (h : AH) (hl : l.length ≤ 140737488351232) (hs : ∀ s ∈ l, s.length ≤ 140737488351232) : Call P w0 dots_Good [.list 1 (srows l) tok] h (fun v h' => v = .v (.bool (bodyS l)) ∧ h' = h) := by
  have xl := srows_len
  have xg := srows_get
  have m1 := srows_len l
  refine Call.bodyF b_dots_Good rfl rfl ?_
  unfold c_dots_Good
  repeat' (first
| ((with_reducible apply opsF.op rfl); case hs => first | exact tHT | exact tHS)
| (with_reducible first | apply opsF.nil | apply seqF.nn | apply vcF.seq | apply vcF.region | apply vcF.skip | apply vcF.block | apply vcF.exit | apply vcF.ret | apply vcF.loop | apply seqF.e | apply seqF.r | apply blkF.nn | apply blkF.e | apply blkF.r | apply blkF.o rfl)
| ((with_reducible apply opsF.call); case hx => exact tAG)
| ((with_reducible apply opsF.want); (case hg => exact tEV); case hb => exact tNB)
| ((with_reducible apply opsF.skip); (case hg => exact tEV); case hb => exact tNB)
| (first | ((with_reducible apply opsF.case); case hg => exact tEV) | ((with_reducible apply vcF.cond); case hx => exact tEV)) <;> ((intro hc; try simp only [Int.reduceLT, Int.reduceLE, Int.reduceEq, Int.reduceNe, Int.cast_ofNat_Int, Int.reduceNeg, reduceCtorEq, ne_eq, ge_iff_le, gt_iff_lt, beq_iff_eq, beq_eq_false_iff_ne, bne_iff_ne, bne_eq_false_iff_eq, nrm, *] at hc) <;> try (exfalso; omega))
| ((with_reducible apply opsF.und); case hg => rfl)
| ((with_reducible first | apply retF.r | apply retF.nn); case hv => exact tRS))
  refine LpF.ind rfl (fun i : Nat => l.length - i) (fun i σ h' => h' = h ∧ σ 0 = .list 1 (srows l) tok ∧ σ 5 = .list 1 (srows l) tok ∧ σ 6 = .v (.int .i64 (l.length : Nat)) ∧ σ 7 = .v (.int .i64 (i : Nat)) ∧ i ≤ l.length ∧ (l.take i).all lineOkS = true) ?_ (i := 0) ⟨rfl, rfl, rfl, by first | rfl | (rw [← m1]; rfl), rfl, Nat.zero_le _, rfl⟩
  rintro i σ h' ⟨rfl, h0, h5, h6, h7, hi, ha⟩
  rcases Nat.lt_or_ge i l.length with hlt | hge
  · obtain ⟨x, hx⟩ : ∃ x, l[i]? = some x := ⟨_, List.getElem?_eq_getElem hlt⟩
    have hxl := hs x (List.mem_of_getElem? hx)
    have h1 := fun h => idxB_call (w0 := w0) x 0 h
    have h2 := fun h => idxB_call (w0 := w0) x 10 h
    have h3 := fun h => idxB_call (w0 := w0) x 13 h
    have c1 := idx_ge (c := 0) (s := x)
    have c2 := idx_ge (c := 10) (s := x)
    have c3 := idx_ge (c := 13) (s := x)
    generalize Lib.indexByte x 0 = n1 at *
    generalize Lib.indexByte x 10 = n2 at *
    generalize Lib.indexByte x 13 = n3 at *
    have hno : lineOkS x = false → bodyS l = false := fun e => by
      rw [bodyS, all_bad hx e]; rfl
    have hok : lineOkS x = (!(decide (0 ≤ n1)) && !(decide (0 ≤ n2)) && !(decide (0 ≤ n3)) && decide (x.length ≤ 997)) := by rw [lineOkS, c1, c2, c3]
    clear c1 c2 c3
    cases hb : lineOkS x with
    | false =>
      rw [hno hb]
      rw [hb] at hok
      clear hno ha hs
      have hok2 : 0 ≤ n1 ∨ 0 ≤ n2 ∨ 0 ≤ n3 ∨ 997 < x.length := by
        have := hok.symm
        simp at this
        omega
      clear hok hb
      repeat' (first
| ((with_reducible apply opsF.op rfl); case hs => first | exact tHT | exact tHS)
| (with_reducible first | apply opsF.nil | apply seqF.nn | apply vcF.seq | apply vcF.region | apply vcF.skip | apply vcF.block | apply vcF.exit | apply vcF.ret | apply vcF.loop | apply seqF.e | apply seqF.r | apply blkF.nn | apply blkF.e | apply blkF.r | apply blkF.o rfl)
| ((with_reducible apply opsF.call); case hx => exact tAG)
| ((with_reducible apply opsF.want); (case hg => exact tEV); case hb => exact tNB)
| ((with_reducible apply opsF.skip); (case hg => exact tEV); case hb => exact tNB)
| (first | ((with_reducible apply opsF.case); case hg => exact tEV) | ((with_reducible apply vcF.cond); case hx => exact tEV)) <;> ((intro hc; try simp only [Int.reduceLT, Int.reduceLE, Int.reduceEq, Int.reduceNe, Int.cast_ofNat_Int, Int.reduceNeg, reduceCtorEq, ne_eq, ge_iff_le, gt_iff_lt, beq_iff_eq, beq_eq_false_iff_ne, bne_iff_ne, bne_eq_false_iff_eq, nrm, *] at hc) <;> try (exfalso; omega))
| ((with_reducible apply opsF.und); case hg => rfl)
| ((with_reducible first | apply retF.r | apply retF.nn); case hv => exact tRS)
| ((refine Call.use (h1 _) ?_))
| ((refine Call.use (h2 _) ?_))
| ((refine Call.use (h3 _) ?_)))
      all_goals first | exact ⟨rfl, rfl⟩ | (exfalso; omega)
    | true =>
      rw [hb] at hok
      have hok2 : ¬ 0 ≤ n1 ∧ ¬ 0 ≤ n2 ∧ ¬ 0 ≤ n3 ∧ x.length ≤ 997 := by
        have := hok.symm
        simp at this
        omega
      have hnx : (l.take (i + 1)).all lineOkS = true := by rw [List.take_add_one, hx, List.all_append, ha]; simp [hb]
      obtain ⟨q1, q2, q3, q4⟩ := hok2
      clear hok hno hs ha hb
      repeat' (first
| ((with_reducible apply opsF.op rfl); case hs => first | exact tHT | exact tHS)
| (with_reducible first | apply opsF.nil | apply seqF.nn | apply vcF.seq | apply vcF.region | apply vcF.skip | apply vcF.block | apply vcF.exit | apply vcF.ret | apply vcF.loop | apply seqF.e | apply seqF.r | apply blkF.nn | apply blkF.e | apply blkF.r | apply blkF.o rfl)
| ((with_reducible apply opsF.call); case hx => exact tAG)
| ((with_reducible apply opsF.want); (case hg => exact tEV); case hb => exact tNB)
| ((with_reducible apply opsF.skip); (case hg => exact tEV); case hb => exact tNB)
| (first | ((with_reducible apply opsF.case); case hg => exact tEV) | ((with_reducible apply vcF.cond); case hx => exact tEV)) <;> ((intro hc; try simp only [Int.reduceLT, Int.reduceLE, Int.reduceEq, Int.reduceNe, Int.cast_ofNat_Int, Int.reduceNeg, reduceCtorEq, ne_eq, ge_iff_le, gt_iff_lt, beq_iff_eq, beq_eq_false_iff_ne, bne_iff_ne, bne_eq_false_iff_eq, nrm, *] at hc) <;> try (exfalso; omega))
| ((with_reducible apply opsF.und); case hg => rfl)
| ((with_reducible first | apply retF.r | apply retF.nn); case hv => exact tRS)
| ((refine Call.use (h1 _) ?_))
| ((refine Call.use (h2 _) ?_))
| ((refine Call.use (h3 _) ?_)))
      all_goals exact ⟨i + 1, by omega, rfl, h0, h5, h6, rfl, by omega, hnx⟩
  · obtain rfl : i = l.length := by omega
    rw [List.take_length] at ha
    have hsz := fun h => dsize_call (w0 := w0) l tok h hl (ok_len ha)
    rw [bodyS, ha]
    clear ha hs
    generalize bsizeS l = q at *
    repeat' (first
| ((with_reducible apply opsF.op rfl); case hs => first | exact tHT | exact tHS)
| (with_reducible first | apply opsF.nil | apply seqF.nn | apply vcF.seq | apply vcF.region | apply vcF.skip | apply vcF.block | apply vcF.exit | apply vcF.ret | apply vcF.loop | apply seqF.e | apply seqF.r | apply blkF.nn | apply blkF.e | apply blkF.r | apply blkF.o rfl)
| ((with_reducible apply opsF.call); case hx => exact tAG)
| ((with_reducible apply opsF.want); (case hg => exact tEV); case hb => exact tNB)
| ((with_reducible apply opsF.skip); (case hg => exact tEV); case hb => exact tNB)
| (first | ((with_reducible apply opsF.case); case hg => exact tEV) | ((with_reducible apply vcF.cond); case hx => exact tEV)) <;> ((intro hc; try simp only [Int.reduceLT, Int.reduceLE, Int.reduceEq, Int.reduceNe, Int.cast_ofNat_Int, Int.reduceNeg, reduceCtorEq, ne_eq, ge_iff_le, gt_iff_lt, beq_iff_eq, beq_eq_false_iff_ne, bne_iff_ne, bne_eq_false_iff_eq, nrm, *] at hc) <;> try (exfalso; omega))
| ((with_reducible apply opsF.und); case hg => rfl)
| ((with_reducible first | apply retF.r | apply retF.nn); case hv => exact tRS)
| ((refine Call.use (hsz _) ?_)))
    all_goals (refine ⟨?_, rfl⟩; simp; try omega)
/-! messages as values -/
end Go.Abs.F
/- Layer 7: a session with the next hop: the plain side. -/
namespace Go.Abs.F
open Go Go.Abs
set_option maxRecDepth 10000
set_option maxHeartbeats 20000000
set_option linter.unusedSimpArgs false
set_option linter.unusedVariables false
variable {w0 : World}
/-! what stays -/
/-! the first end of a line -/
/-- What is ahead of the first end of a line, and what is behind it. -/
def cutL : L8 → Option (L8 × L8)
  | [] => none
  | [_] => none
  | x :: y :: r => if x = 13 ∧ y = 10 then some ([], r) else (cutL (y :: r)).map fun p => (x :: p.1, p.2)
theorem cutL_some : ∀ {w a r : L8}, cutL w = some (a, r) → w = a ++ 13 :: 10 :: r
  | [], a, r, h => by cases h
  | [x], a, r, h => by cases h
  | x :: y :: t, a, r, h => by
    rw [cutL] at h
    split at h
    · rename_i hh
      obtain ⟨rfl, rfl⟩ := hh
      cases h
      rfl
    · cases hq : cutL (y :: t) with
      | none => rw [hq] at h; cases h
      | some p =>
        rw [hq] at h
        cases h
        have := cutL_some (w := y :: t) (a := p.1) (r := p.2) (by rw [hq])
        rw [this]
        rfl
theorem cutL_len {w a r : L8} (h : cutL w = some (a, r)) : r.length + 2 + a.length = w.length := by
  rw [cutL_some h]
  simp
  omega
end Go.Abs.F
