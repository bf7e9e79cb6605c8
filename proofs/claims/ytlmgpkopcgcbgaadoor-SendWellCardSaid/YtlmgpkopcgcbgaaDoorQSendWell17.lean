/- What the proof needs, part 17: Layer 5: a body as it goes, by the program and by the document; Layer 7: a new session with the next hop; Layer 7: what a program that does nothing does not answer; Layer 7: the document's session: its object; what it says; its end; Layer 7: the document's session takes a reply; Layer 7: the document's session takes a reply to a target; Layer 7: the document's session: a new one; bytes come. -/
import Derived.Test.YtlmgpkopcgcbgaaDoorQSendWell14
import Derived.Test.YtlmgpkopcgcbgaaDoorQSendWell16
import Derived.Test.YtlmgpkopcgcbgaaDoorQSendWell13
/- Layer 5: a body as it goes, by the program and by the document. -/
namespace Go.Abs.F
open Go Go.Abs
set_option maxRecDepth 10000
set_option maxHeartbeats 20000000
set_option linter.unusedSimpArgs false
set_option linter.unusedVariables false
variable {w0 : World}
theorem hasD_call (s : L8) (c : UInt8) (h : AH) : Call P w0 i_stringslite_HasPrefix [.v (.string (bs s)), .v (.string (bs [c]))] h
    (fun v h' => v = .v (.bool (decide (s.head? = some c))) ∧ h' = h) := by
  refine Call.bodyF b_i_stringslite_HasPrefix rfl rfl ?_
  unfold c_i_stringslite_HasPrefix
  cases s with
  | nil =>
    repeat' (first
| ((with_reducible apply opsF.op rfl); case hs => first | exact tHT | exact tHS)
| (with_reducible first | apply opsF.nil | apply seqF.nn | apply vcF.seq | apply vcF.region | apply vcF.skip | apply vcF.ret | apply seqF.r)
| ((with_reducible apply opsF.call); case hx => exact tAG)
| ((with_reducible apply opsF.want); (case hg => exact tEV); case hb => exact tNB)
| ((with_reducible apply opsF.skip); (case hg => exact tEV); case hb => exact tNB)
| (first | ((with_reducible apply opsF.case); case hg => exact tEV) | ((with_reducible apply vcF.cond); case hx => exact tEV)) <;> ((intro hc; try simp only [Int.reduceLT, Int.reduceLE, Int.reduceEq, Int.reduceNe, Int.cast_ofNat_Int, Int.reduceNeg, reduceCtorEq, ne_eq, ge_iff_le, gt_iff_lt, beq_iff_eq, beq_eq_false_iff_ne, bne_iff_ne, bne_eq_false_iff_eq, nrm, *] at hc) <;> try (exfalso; omega))
| ((with_reducible apply opsF.und); case hg => rfl)
| ((with_reducible first | apply retF.r | apply retF.nn); case hv => exact tRS))
    all_goals exact ⟨rfl, rfl⟩
  | cons x r =>
    repeat' (first
| ((with_reducible apply opsF.op rfl); case hs => first | exact tHT | exact tHS)
| (with_reducible first | apply opsF.nil | apply seqF.nn | apply vcF.seq | apply vcF.region | apply vcF.skip | apply vcF.ret | apply seqF.r)
| ((with_reducible apply opsF.call); case hx => exact tAG)
| ((with_reducible apply opsF.want); (case hg => exact tEV); case hb => exact tNB)
| ((with_reducible apply opsF.skip); (case hg => exact tEV); case hb => exact tNB)
| (first | ((with_reducible apply opsF.case); case hg => exact tEV) | ((with_reducible apply vcF.cond); case hx => exact tEV)) <;> ((intro hc; try simp only [Int.reduceLT, Int.reduceLE, Int.reduceEq, Int.reduceNe, Int.cast_ofNat_Int, Int.reduceNeg, reduceCtorEq, ne_eq, ge_iff_le, gt_iff_lt, beq_iff_eq, beq_eq_false_iff_ne, bne_iff_ne, bne_eq_false_iff_eq, nrm, *] at hc) <;> try (exfalso; omega))
| ((with_reducible apply opsF.und); case hg => rfl)
| ((with_reducible first | apply retF.r | apply retF.nn); case hv => exact tRS))
    all_goals (refine ⟨?_, rfl⟩; simp)
theorem shasD_call (s : L8) (c : UInt8) (h : AH) : Call P w0 strings_HasPrefix [.v (.string (bs s)), .v (.string (bs [c]))] h (fun v h' => v = .v (.bool (decide (s.head? = some c))) ∧ h' = h) := by
  refine Call.bodyF b_strings_HasPrefix rfl rfl ?_
  unfold c_strings_HasPrefix
  repeat' (first
| ((with_reducible apply opsF.op rfl); case hs => first | exact tHT | exact tHS)
| (with_reducible first | apply opsF.nil | apply seqF.nn | apply vcF.seq | apply vcF.region | apply vcF.skip | apply vcF.ret | apply seqF.r)
| ((with_reducible apply opsF.call); case hx => exact tAG)
| ((with_reducible apply vcF.cond); case hx => exact tEV) <;> ((intro hc; try simp only [Int.reduceLT, Int.reduceLE, Int.reduceEq, Int.reduceNe, Int.cast_ofNat_Int, Int.reduceNeg, reduceCtorEq, ne_eq, ge_iff_le, gt_iff_lt, beq_iff_eq, beq_eq_false_iff_ne, bne_iff_ne, bne_eq_false_iff_eq, nrm, *] at hc) <;> try (exfalso; omega))
| ((with_reducible first | apply retF.r | apply retF.nn); case hv => exact tRS)
| ((refine (hasD_call s c _).mono fun v h2 hp => ?_); obtain ⟨rfl, rfl⟩ := hp))
  all_goals exact ⟨rfl, rfl⟩
/-- A line of a body as it goes. -/
def stuffL (x : L8) : L8 := if x.head? = some 46 then 46 :: x else x
theorem stuff_cons (x : L8) (l : List L8) : stuffGo (x :: l) = stuffL x ++ [13, 10] ++ stuffGo l := by
  rw [stuffGo, stuffL]
  by_cases h : x.head? = some 46
  · rw [if_pos h, if_pos h]; simp
  · rw [if_neg h, if_neg h]; simp
theorem stuffL_len (x : L8) : (stuffL x).length ≤ x.length + 1 := by unfold stuffL; split <;> simp
theorem stuff_len : ∀ l : List L8, (stuffGo l).length ≤ 2 * bsizeS l + 3
  | [] => by simp [stuffGo]
  | x :: l => by
    have h1 := stuff_len l
    have h2 := stuffL_len x
    rw [stuff_cons]
    simp only [List.length_append, List.length_cons, List.length_nil, bsizeS]
    omega
theorem stuff_drop {l : List L8} {i : Nat} {x : L8} (hx : l[i]? = some x) : stuffGo (l.drop i) = stuffL x ++ [13, 10] ++ stuffGo (l.drop (i + 1)) := by
  rw [drop_step hx, stuff_cons]
theorem body_size {l : List L8} (h : bodyS l = true) : bsizeS l ≤ 65536 := by
  simp only [bodyS, Bool.and_eq_true, decide_eq_true_eq] at h
  exact h.2
theorem bsize_ge : ∀ l : List L8, 2 * l.length ≤ bsizeS l
  | [] => by simp [bsizeS]
  | x :: l => by have := bsize_ge l; simp only [bsizeS, List.length_cons]; omega
theorem dstuff_call (l : List L8) (tok : Tok) (h : AH) (hl : l.length ≤ 140737488351232) (hs : ∀ s ∈ l, s.length ≤ 140737488351232) : Call P w0 dots_Stuff [.list 1 (srows l) tok] h
    (fun v h' => v = (if bodyS l = true then .tup [.v (.string (bs (stuffGo l))), .v (.int .i64 0)] else .tup [.v (.string (bs [])), .v (.int .i64 2)]) ∧ h' = h) := by
  refine Call.pur (by split <;> exact .tup fun j hj => (by match j, hj with | 0, _ => exact .v _ | 1, _ => exact .v _)) ?_
  have xl := srows_len
  have xg := srows_get
  have m1 := srows_len l
  have hgo := fun h => dgood_call (w0 := w0) l tok h hl hs
  refine Call.bodyF b_dots_Stuff rfl rfl ?_
  unfold c_dots_Stuff
  cases hb : bodyS l with
  | false =>
    rw [hb] at hgo
    repeat' (first
| ((with_reducible apply opsF.op rfl); case hs => first | exact tHT | exact tHS)
| (with_reducible first | apply opsF.nil | apply seqF.nn | apply vcF.seq | apply vcF.region | apply vcF.skip | apply vcF.block | apply vcF.exit | apply vcF.ret | apply vcF.loop | apply seqF.e | apply seqF.r | apply blkF.nn | apply blkF.e | apply blkF.r | apply blkF.o rfl)
| ((with_reducible apply opsF.call); case hx => exact tAG)
| ((with_reducible apply vcF.cond); case hx => exact tEV) <;> ((intro hc; try simp only [Int.reduceLT, Int.reduceLE, Int.reduceEq, Int.reduceNe, Int.cast_ofNat_Int, Int.reduceNeg, reduceCtorEq, ne_eq, ge_iff_le, gt_iff_lt, beq_iff_eq, beq_eq_false_iff_ne, bne_iff_ne, bne_eq_false_iff_eq, nrm, *] at hc) <;> try (exfalso; omega))
| ((with_reducible first | apply retF.r | apply retF.nn); case hv => exact tRS)
| ((refine Call.use (hgo _) ?_)))
    all_goals exact ⟨rfl, .refl _⟩
  | true =>
    rw [hb] at hgo
    rw [if_pos rfl]
    have hsz := body_size hb
    have hsl := stuff_len l
    have hlen := bsize_ge l
    repeat' (first
| ((with_reducible apply opsF.op rfl); case hs => first | exact tHT | exact tHS)
| (with_reducible first | apply opsF.nil | apply seqF.nn | apply vcF.seq | apply vcF.region | apply vcF.skip | apply vcF.block | apply vcF.exit | apply vcF.ret | apply vcF.loop | apply seqF.e | apply seqF.r | apply blkF.nn | apply blkF.e | apply blkF.r | apply blkF.o rfl)
| ((with_reducible apply opsF.call); case hx => exact tAG)
| ((with_reducible apply vcF.cond); case hx => exact tEV) <;> ((intro hc; try simp only [Int.reduceLT, Int.reduceLE, Int.reduceEq, Int.reduceNe, Int.cast_ofNat_Int, Int.reduceNeg, reduceCtorEq, ne_eq, ge_iff_le, gt_iff_lt, beq_iff_eq, beq_eq_false_iff_ne, bne_iff_ne, bne_eq_false_iff_eq, nrm, *] at hc) <;> try (exfalso; omega))
| ((with_reducible first | apply retF.r | apply retF.nn); case hv => exact tRS)
| ((refine Call.use (hgo _) ?_)))
    clear hgo
    refine LpF.ind rfl (fun i : Nat => l.length - i) (fun i σ hh => ∃ pre : L8, Ext h hh ∧ Bld hh h.n pre ∧ σ 4 = .ptr h.n 0 ∧ σ 10 = .list 1 (srows l) tok ∧ σ 11 = .v (.int .i64 (l.length : Nat)) ∧ σ 12 = .v (.int .i64 (i : Nat)) ∧ i ≤ l.length ∧ pre ++ stuffGo (l.drop i) = stuffGo l) ?_ (i := 0)
      ⟨[], Ext.alloc _ _, ⟨by simp [alloc_n], .inl ⟨by simp [alloc_at, alloc_n], rfl⟩⟩, rfl, rfl, by first | rfl | (rw [← m1]; rfl), rfl, Nat.zero_le _, rfl⟩
    rintro i σ hh ⟨pre, hE, hB, g4, g10, g11, g12, hi, hS⟩
    have hBl := hB.1
    have hpl := congrArg List.length hS
    simp only [List.length_append] at hpl
    rcases Nat.lt_or_ge i l.length with hlt | hge
    · obtain ⟨x, hx⟩ : ∃ x, l[i]? = some x := ⟨_, List.getElem?_eq_getElem hlt⟩
      have rx : (srows l)[i]? = some [.v (.string (bs x))] := by rw [srows_get, hx]; rfl
      rw [stuff_drop hx] at hS hpl
      simp only [List.length_append, List.length_cons, List.length_nil] at hpl
      have hxl : x.length ≤ (stuffL x).length := by unfold stuffL; split <;> simp
      have hhd := fun h => shasD_call (w0 := w0) x 46 h
      by_cases hd : x.head? = some 46
      · have hS2 : ((pre ++ [46]) ++ (x ++ [13, 10])) ++ stuffGo (l.drop (i + 1)) = stuffGo l := by rw [← hS, stuffL, if_pos hd]; simp
        have hle : (stuffL x).length = x.length + 1 := by rw [stuffL, if_pos hd]; rfl
        simp only [hd, decide_true] at hhd
        clear hS
        repeat' (first
| ((with_reducible apply opsF.op rfl); case hs => first | exact tHT | exact tHS)
| (with_reducible first | apply opsF.nil | apply seqF.nn | apply vcF.seq | apply vcF.region | apply vcF.skip | apply vcF.block | apply vcF.exit | apply vcF.ret | apply vcF.loop | apply seqF.e | apply seqF.r | apply blkF.nn | apply blkF.e | apply blkF.r | apply blkF.o rfl)
| ((with_reducible apply opsF.call); case hx => exact tAG)
| ((with_reducible apply vcF.cond); case hx => exact tEV) <;> ((intro hc; try simp only [Int.reduceLT, Int.reduceLE, Int.reduceEq, Int.reduceNe, Int.cast_ofNat_Int, Int.reduceNeg, reduceCtorEq, ne_eq, ge_iff_le, gt_iff_lt, beq_iff_eq, beq_eq_false_iff_ne, bne_iff_ne, bne_eq_false_iff_eq, nrm, *] at hc) <;> try (exfalso; omega))
| ((with_reducible first | apply retF.r | apply retF.nn); case hv => exact tRS)
| ((refine Call.use (hhd _) ?_))
| ((refine (ws_call h.n pre [46] _ hB (by simp only [List.length_cons, List.length_nil]; omega)).mono fun u h2 hp => ?_); obtain ⟨rfl, hB2, hx2⟩ := hp)
| ((refine (ws_call h.n (pre ++ [46]) (x ++ [13, 10]) _ hB2 (by simp only [List.length_append, List.length_cons, List.length_nil]; omega)).mono fun u h3 hp => ?_); obtain ⟨rfl, hB3, hx3⟩ := hp))
        all_goals exact ⟨i + 1, by omega, _, (hE.transX hx2 (fun i hi => hi) (fun t ht => ht.elim)).transX hx3 (fun i hi => hi) (fun t ht => ht.elim), hB3, g4, g10, g11, rfl, by omega, hS2⟩
      · have hS2 : (pre ++ (x ++ [13, 10])) ++ stuffGo (l.drop (i + 1)) = stuffGo l := by rw [← hS, stuffL, if_neg hd]; simp
        have hd2 : decide (x.head? = some 46) = false := decide_eq_false hd
        rw [hd2] at hhd
        clear hS hd2 hd
        repeat' (first
| ((with_reducible apply opsF.op rfl); case hs => first | exact tHT | exact tHS)
| (with_reducible first | apply opsF.nil | apply seqF.nn | apply vcF.seq | apply vcF.region | apply vcF.skip | apply vcF.block | apply vcF.exit | apply vcF.ret | apply vcF.loop | apply seqF.e | apply seqF.r | apply blkF.nn | apply blkF.e | apply blkF.r | apply blkF.o rfl)
| ((with_reducible apply opsF.call); case hx => exact tAG)
| ((with_reducible apply vcF.cond); case hx => exact tEV) <;> ((intro hc; try simp only [Int.reduceLT, Int.reduceLE, Int.reduceEq, Int.reduceNe, Int.cast_ofNat_Int, Int.reduceNeg, reduceCtorEq, ne_eq, ge_iff_le, gt_iff_lt, beq_iff_eq, beq_eq_false_iff_ne, bne_iff_ne, bne_eq_false_iff_eq, nrm, *] at hc) <;> try (exfalso; omega))
| ((with_reducible first | apply retF.r | apply retF.nn); case hv => exact tRS)
| ((refine Call.use (hhd _) ?_))
| ((refine (ws_call h.n pre (x ++ [13, 10]) _ hB (by simp only [List.length_append, List.length_cons, List.length_nil]; omega)).mono fun u h3 hp => ?_); obtain ⟨rfl, hB3, hx3⟩ := hp))
        all_goals exact ⟨i + 1, by omega, _, hE.transX hx3 (fun i hi => hi) (fun t ht => ht.elim), hB3, g4, g10, g11, rfl, by omega, hS2⟩
    · obtain rfl : i = l.length := by omega
      rw [List.drop_length] at hS
      have hS3 : pre ++ [46, 13, 10] = stuffGo l := hS
      have hsc := fun h2 hB => str_call (w0 := w0) h.n (pre ++ [46, 13, 10]) h2 hB (by simp) (by simp only [List.length_append, List.length_cons, List.length_nil]; omega)
      rw [← hS3]
      clear hS hS3
      repeat' (first
| ((with_reducible apply opsF.op rfl); case hs => first | exact tHT | exact tHS)
| (with_reducible first | apply opsF.nil | apply seqF.nn | apply vcF.seq | apply vcF.region | apply vcF.skip | apply vcF.block | apply vcF.exit | apply vcF.ret | apply vcF.loop | apply seqF.e | apply seqF.r | apply blkF.nn | apply blkF.e | apply blkF.r | apply blkF.o rfl)
| ((with_reducible apply opsF.call); case hx => exact tAG)
| ((with_reducible apply vcF.cond); case hx => exact tEV) <;> ((intro hc; try simp only [Int.reduceLT, Int.reduceLE, Int.reduceEq, Int.reduceNe, Int.cast_ofNat_Int, Int.reduceNeg, reduceCtorEq, ne_eq, ge_iff_le, gt_iff_lt, beq_iff_eq, beq_eq_false_iff_ne, bne_iff_ne, bne_eq_false_iff_eq, nrm, *] at hc) <;> try (exfalso; omega))
| ((with_reducible first | apply retF.r | apply retF.nn); case hv => exact tRS)
| ((refine (ws_call h.n pre [46, 13, 10] _ hB (by simp only [List.length_cons, List.length_nil]; omega)).mono fun u h2 hp => ?_); obtain ⟨rfl, hB2, hx2⟩ := hp)
| ((refine Call.use (hsc _ hB2) ?_)))
      all_goals exact ⟨rfl, hE.transX hx2 (fun i hi => hi) (fun t ht => ht.elim)⟩
/-- The document's. -/
theorem stuff_take {l : List L8} {i : Nat} {x : L8} (hx : l[i]? = some x) {pre : L8} (h : pre ++ stuffGo (l.drop i) = stuffGo l) : (pre ++ stuffL x ++ [13, 10]) ++ stuffGo (l.drop (i + 1)) = stuffGo l := by
  rw [← h, stuff_drop hx]; simp
theorem rstuff_call (l : List L8) (tok : Tok) (h : AH) (hb : bodyS l = true) : Call P w0 ref01_Stuff [.list 1 (srows l) tok] h (fun v h' => v = .v (.string (bs (stuffGo l))) ∧ h' = h) := by
  have xl := srows_len
  have xg := srows_get
  have m1 := srows_len l
  have hsz := body_size hb
  have hsl := stuff_len l
  have hlen := bsize_ge l
  refine Call.bodyF b_ref01_Stuff rfl rfl ?_
  unfold c_ref01_Stuff
  repeat' (first
| ((with_reducible apply opsF.op rfl); case hs => first | exact tHT | exact tHS)
| (with_reducible first | apply opsF.nil | apply seqF.nn | apply vcF.seq | apply vcF.region | apply vcF.skip | apply vcF.block | apply vcF.exit | apply vcF.ret | apply vcF.loop | apply seqF.e | apply seqF.r | apply blkF.nn | apply blkF.e | apply blkF.r | apply blkF.o rfl)
| ((with_reducible apply opsF.call); case hx => exact tAG)
| ((with_reducible apply opsF.want); (case hg => exact tEV); case hb => exact tNB)
| ((with_reducible apply opsF.skip); (case hg => exact tEV); case hb => exact tNB)
| (first | ((with_reducible apply opsF.case); case hg => exact tEV) | ((with_reducible apply vcF.cond); case hx => exact tEV)) <;> ((intro hc; try simp only [Int.reduceLT, Int.reduceLE, Int.reduceEq, Int.reduceNe, Int.cast_ofNat_Int, Int.reduceNeg, reduceCtorEq, ne_eq, ge_iff_le, gt_iff_lt, beq_iff_eq, beq_eq_false_iff_ne, bne_iff_ne, bne_eq_false_iff_eq, nrm, *] at hc) <;> try (exfalso; omega))
| ((with_reducible apply opsF.und); case hg => rfl)
| ((with_reducible first | apply retF.r | apply retF.nn); case hv => exact tRS))
  refine LpF.ind rfl (fun i : Nat => l.length - i) (fun i σ hh => ∃ pre : L8, hh = h ∧ σ 0 = .list 1 (srows l) tok ∧ σ 3 = .v (.string (bs pre)) ∧ σ 4 = .v (.int .i64 (i : Nat)) ∧ i ≤ l.length ∧ pre ++ stuffGo (l.drop i) = stuffGo l) ?_ (i := 0) ⟨[], rfl, rfl, rfl, rfl, Nat.zero_le _, rfl⟩
  rintro i σ hh ⟨pre, rfl, g0, g3, g4, hi, hS⟩
  have hpl := congrArg List.length hS
  simp only [List.length_append] at hpl
  rcases Nat.lt_or_ge i l.length with hlt | hge
  · obtain ⟨x, hx⟩ : ∃ x, l[i]? = some x := ⟨_, List.getElem?_eq_getElem hlt⟩
    have rx : (srows l)[i]? = some [.v (.string (bs x))] := by rw [srows_get, hx]; rfl
    have hS2 := stuff_take hx hS
    rw [stuff_drop hx] at hpl
    simp only [List.length_append, List.length_cons, List.length_nil] at hpl
    have hxl : x.length ≤ (stuffL x).length := by unfold stuffL; split <;> simp
    clear hS
    generalize hsx : (stuffL x).length = sx at *
    cases x with
    | nil =>
      rw [show stuffL [] = [] from rfl] at hS2
      repeat' (first
| ((with_reducible apply opsF.op rfl); case hs => first | exact tHT | exact tHS)
| (with_reducible first | apply opsF.nil | apply seqF.nn | apply vcF.seq | apply vcF.region | apply vcF.skip | apply vcF.block | apply vcF.exit | apply vcF.ret | apply vcF.loop | apply seqF.e | apply seqF.r | apply blkF.nn | apply blkF.e | apply blkF.r | apply blkF.o rfl)
| ((with_reducible apply opsF.call); case hx => exact tAG)
| ((with_reducible apply opsF.want); (case hg => exact tEV); case hb => exact tNB)
| ((with_reducible apply opsF.skip); (case hg => exact tEV); case hb => exact tNB)
| (first | ((with_reducible apply opsF.case); case hg => exact tEV) | ((with_reducible apply vcF.cond); case hx => exact tEV)) <;> ((intro hc; try simp only [Int.reduceLT, Int.reduceLE, Int.reduceEq, Int.reduceNe, Int.cast_ofNat_Int, Int.reduceNeg, reduceCtorEq, ne_eq, ge_iff_le, gt_iff_lt, beq_iff_eq, beq_eq_false_iff_ne, bne_iff_ne, bne_eq_false_iff_eq, nrm, *] at hc) <;> try (exfalso; omega))
| ((with_reducible apply opsF.und); case hg => rfl)
| ((with_reducible first | apply retF.r | apply retF.nn); case hv => exact tRS))
      all_goals exact ⟨i + 1, by omega, _, rfl, g0, rfl, rfl, by omega, by first | exact hS2 | (rw [← hS2]; simp)⟩
    | cons c r =>
      simp only [List.length_cons] at hxl
      clear hsx
      by_cases hd : c = 46
      · subst hd
        rw [show stuffL (46 :: r) = 46 :: 46 :: r from rfl] at hS2
        have h46 : (((46 : UInt8).toNat : Nat) : Int) = 46 := rfl
        repeat' (first
| ((with_reducible apply opsF.op rfl); case hs => first | exact tHT | exact tHS)
| (with_reducible first | apply opsF.nil | apply seqF.nn | apply vcF.seq | apply vcF.region | apply vcF.skip | apply vcF.block | apply vcF.exit | apply vcF.ret | apply vcF.loop | apply seqF.e | apply seqF.r | apply blkF.nn | apply blkF.e | apply blkF.r | apply blkF.o rfl)
| ((with_reducible apply opsF.call); case hx => exact tAG)
| ((with_reducible apply opsF.want); (case hg => exact tEV); case hb => exact tNB)
| ((with_reducible apply opsF.skip); (case hg => exact tEV); case hb => exact tNB)
| (first | ((with_reducible apply opsF.case); case hg => exact tEV) | ((with_reducible apply vcF.cond); case hx => exact tEV)) <;> ((intro hc; try simp only [Int.reduceLT, Int.reduceLE, Int.reduceEq, Int.reduceNe, Int.cast_ofNat_Int, Int.reduceNeg, reduceCtorEq, ne_eq, ge_iff_le, gt_iff_lt, beq_iff_eq, beq_eq_false_iff_ne, bne_iff_ne, bne_eq_false_iff_eq, nrm, *] at hc) <;> try (exfalso; omega))
| ((with_reducible apply opsF.und); case hg => rfl)
| ((with_reducible first | apply retF.r | apply retF.nn); case hv => exact tRS))
        all_goals exact ⟨i + 1, by omega, _, rfl, g0, rfl, rfl, by omega, by first | exact hS2 | (rw [← hS2]; simp)⟩
      · rw [show stuffL (c :: r) = c :: r by unfold stuffL; rw [if_neg (by simpa using hd)]] at hS2
        have hn : ¬ ((c.toNat : Nat) : Int) = 46 := fun e => hd (u8_is (y := 46) e)
        repeat' (first
| ((with_reducible apply opsF.op rfl); case hs => first | exact tHT | exact tHS)
| (with_reducible first | apply opsF.nil | apply seqF.nn | apply vcF.seq | apply vcF.region | apply vcF.skip | apply vcF.block | apply vcF.exit | apply vcF.ret | apply vcF.loop | apply seqF.e | apply seqF.r | apply blkF.nn | apply blkF.e | apply blkF.r | apply blkF.o rfl)
| ((with_reducible apply opsF.call); case hx => exact tAG)
| ((with_reducible apply opsF.want); (case hg => exact tEV); case hb => exact tNB)
| ((with_reducible apply opsF.skip); (case hg => exact tEV); case hb => exact tNB)
| (first | ((with_reducible apply opsF.case); case hg => exact tEV) | ((with_reducible apply vcF.cond); case hx => exact tEV)) <;> ((intro hc; try simp only [Int.reduceLT, Int.reduceLE, Int.reduceEq, Int.reduceNe, Int.cast_ofNat_Int, Int.reduceNeg, reduceCtorEq, ne_eq, ge_iff_le, gt_iff_lt, beq_iff_eq, beq_eq_false_iff_ne, bne_iff_ne, bne_eq_false_iff_eq, nrm, *] at hc) <;> try (exfalso; omega))
| ((with_reducible apply opsF.und); case hg => rfl)
| ((with_reducible first | apply retF.r | apply retF.nn); case hv => exact tRS))
        all_goals exact ⟨i + 1, by omega, _, rfl, g0, rfl, rfl, by omega, by first | exact hS2 | (rw [← hS2]; simp)⟩
  · obtain rfl : i = l.length := by omega
    rw [List.drop_length] at hS
    have hS3 : pre ++ [46, 13, 10] = stuffGo l := hS
    rw [← hS3]
    clear hS hS3
    repeat' (first
| ((with_reducible apply opsF.op rfl); case hs => first | exact tHT | exact tHS)
| (with_reducible first | apply opsF.nil | apply seqF.nn | apply vcF.seq | apply vcF.region | apply vcF.skip | apply vcF.block | apply vcF.exit | apply vcF.ret | apply vcF.loop | apply seqF.e | apply seqF.r | apply blkF.nn | apply blkF.e | apply blkF.r | apply blkF.o rfl)
| ((with_reducible apply opsF.call); case hx => exact tAG)
| ((with_reducible apply opsF.want); (case hg => exact tEV); case hb => exact tNB)
| ((with_reducible apply opsF.skip); (case hg => exact tEV); case hb => exact tNB)
| (first | ((with_reducible apply opsF.case); case hg => exact tEV) | ((with_reducible apply vcF.cond); case hx => exact tEV)) <;> ((intro hc; try simp only [Int.reduceLT, Int.reduceLE, Int.reduceEq, Int.reduceNe, Int.cast_ofNat_Int, Int.reduceNeg, reduceCtorEq, ne_eq, ge_iff_le, gt_iff_lt, beq_iff_eq, beq_eq_false_iff_ne, bne_iff_ne, bne_eq_false_iff_eq, nrm, *] at hc) <;> try (exfalso; omega))
| ((with_reducible apply opsF.und); case hg => rfl)
| ((with_reducible first | apply retF.r | apply retF.nn); case hv => exact tRS))
    all_goals exact ⟨rfl, rfl⟩
end Go.Abs.F
/- Layer 7: a new session with the next hop. -/
namespace Go.Abs.F
open Go Go.Abs
set_option maxRecDepth 10000
set_option maxHeartbeats 20000000
set_option linter.unusedSimpArgs false
set_option linter.unusedVariables false
variable {w0 : World}
theorem srows_plain (l : List L8) {tok : Tok} (ht : tok.plain) : Plain (.list 1 (srows l) tok) := by
  refine Plain.listv ht fun r hr x hx => ?_
  simp only [srows, List.mem_map] at hr
  obtain ⟨b, _, rfl⟩ := hr
  rw [List.mem_singleton.1 hx]; exact .v _
theorem sclone_call (l : List L8) (tok : Tok) (h : AH) (hl : l.length ≤ 100000000000) : Call P w0 slices_Clone_string_string [.list 1 (srows l) tok] h (fun v h' => v = .list 1 (srows l) .no ∧ h' = h) := by
  refine Call.pur (srows_plain l trivial) (Call.weak (Q := fun v h' => ∃ tk, v = .list 1 (srows l) tk ∧ Ext h h') ?_ fun v h' ⟨tk, hv, hE⟩ => ⟨_, _, hv ▸ .noTok, .refl _, rfl, hE⟩)
  cases l with
  | nil =>
    refine ⟨⟨_, Go.Proofs.Tryd.func20, by kernel_rfl, by kernel_rfl⟩, fun Γ w us H hv => ?_⟩
    obtain ⟨y1, rfl⟩ : ∃ y1, us = [y1] := by
      have hl := hv.len
      match us, hl with
      | [y1], _ => exact ⟨y1, rfl⟩
    have r1 := hv.at_ 0 (by simp) (by simp)
    simp only [List.getElem_cons_zero] at r1
    obtain ⟨base, c, rfl⟩ : ∃ base c, y1 = .slice base 0 c := by
      cases r1 with
      | _ => exact ⟨_, _, rfl⟩
    refine (Go.Proofs.YtlmgpkopcgcbgaaDoorSlz.sclone_zero base c w).mono fun e w' hh => ?_
    obtain ⟨⟨b', rfl⟩, hb⟩ := hh
    exact ⟨_, Γ, _, h, rfl, .refl Γ, .nilf, H.grown hb, .full, rfl, .refl h⟩
  | cons x l =>
    obtain ⟨tk1, h2, hap, hT2, hT3, hT4, hT5, hT6⟩ := (show TokU h .full from trivial).app
    have xl := srows_len l
    have e : srows (x :: l) = [.v (.string (bs x))] :: srows l := rfl
    rw [e]
    simp at hl
    refine Call.bodyF b_slices_Clone_string_string rfl rfl ?_
    unfold c_slices_Clone_string_string
    repeat' (first
| ((with_reducible apply opsF.op rfl); case hs => first | exact tHT | exact tHS)
| (with_reducible first | apply opsF.nil | apply seqF.nn | apply vcF.seq | apply vcF.region | apply vcF.skip | apply vcF.ret | apply seqF.r)
| ((with_reducible apply opsF.call); case hx => exact tAG)
| ((with_reducible apply vcF.cond); case hx => exact tEV) <;> ((intro hc; try simp only [Int.reduceLT, Int.reduceLE, Int.reduceEq, Int.reduceNe, Int.cast_ofNat_Int, Int.reduceNeg, reduceCtorEq, ne_eq, ge_iff_le, gt_iff_lt, beq_iff_eq, beq_eq_false_iff_ne, bne_iff_ne, bne_eq_false_iff_eq, nrm, *] at hc) <;> try (exfalso; omega))
| ((with_reducible first | apply retF.r | apply retF.nn); case hv => exact tRS)
| ((with_reducible apply opsF.op rfl); (case hs => exact is_app (r := [.v (.string (bs x))]) (new := srows l) tEV tEV rfl hap (by simp only [List.length_nil, List.length_cons]; omega) rfl)))
    all_goals exact ⟨_, rfl, Ext.transX (.refl h) hT6 (fun _ x => x.elim) (fun t ht => by cases ht)⟩
theorem flat_zero : ∀ n : Nat, (List.replicate n [AV.v (.int .i64 0)]).flatten = icel (List.replicate n 0)
  | 0 => rfl
  | n + 1 => by rw [List.replicate_succ, List.flatten_cons, flat_zero n]; rfl
theorem is_mksN {σ : Fm} {h : AH} {x : Opd} {n : Nat} (hx : evF σ x = .v (.int .i64 (n : Nat))) (hb : n ≤ 1000000000000) : istep (.mks 1 8 [.v (.int .i64 0)] x x) (evF σ) h = some (.row h.n 0 n (some n), h.alloc (.cells (icel (List.replicate n 0)))) := by
  simp only [istep, hx]
  rw [if_pos (by omega), Int.toNat_natCast, flat_zero]
/-- What a new session is ahead of its body. -/
def preC (host sndr : L8) (tg : List L8) (body : L8) : CS := { host, sndr, tg, body, wait := [], code := 0, out := [], st := 0, pos := 0, codes := List.replicate tg.length 0, over := false, nls := 0 }
theorem newC_eq (host sndr : L8) (tg body : List L8) : newC host sndr tg body = if bodyS body = true ∧ tg.length ≠ 0 ∧ tg.length ≤ 50 then preC host sndr tg (if bodyS body then stuffGo body else []) else (preC host sndr tg (if bodyS body then stuffGo body else [])).fin 554 := rfl
theorem Fr.fresh {I J : List Nat} {h h1 h2 : AH} (a : Fr J h h1) (b : Fr I h1 h2) (k : ∀ i ∈ I, h.n ≤ i) : Fr J h h2 :=
  ⟨Nat.le_trans a.n b.n, Nat.le_trans a.nt b.nt, fun i hi hn => (b.o i (Nat.lt_of_lt_of_le hi a.n) fun x => by have := k i x; omega).trans (a.o i hi hn)⟩
structure NewP (h : AH) (R : List Tok) (s : CS) (x : CK) (h' : AH) : Prop where
  o : ∃ tt to tl tr, ClO h' x s tt to tl tr ∧ Toks h' (to :: tl :: tr :: R)
  e : Fr [] h h'
  f : ∀ i ∈ x.ids, h.n ≤ i
theorem cnew_call (host sndr : L8) (tg body : List L8) (tt tb : Tok) (R : List Tok) (h : AH) (hT : Toks h R) (hz : tg.length ≤ 1000000) (hbl : body.length ≤ 140737488351232) (hbs : ∀ s ∈ body, s.length ≤ 140737488351232) :
    Call P w0 send_New [.v (.string (bs host)), .v (.string (bs sndr)), .list 1 (srows tg) tt, .list 1 (srows body) tb] h (fun v h' => ∃ x, v = .ptr x.id 0 ∧ NewP h R (newC host sndr tg body) x h') := by
  have hcl := fun h => sclone_call (w0 := w0) tg tt h (by omega)
  have hst := fun h => dstuff_call (w0 := w0) body tb h hbl hbs
  have xl := srows_len tg
  refine Call.bodyF b_send_New rfl rfl ?_
  unfold c_send_New
  repeat' (first
| (refine vcF.cut (a := .dalts _) (fun σ h1 => ∃ x, σ 9 = .ptr x.id 0 ∧ σ 2 = .list 1 (srows tg) tt ∧ σ 3 = .list 1 (srows body) tb ∧ Ext h h1 ∧ ClO h1 x (preC host sndr tg []) .no .full .full .full ∧ ∀ i ∈ x.ids, h.n ≤ i) ?_ ?_)
| ((with_reducible first | apply opsF.op rfl | apply dopsF.op rfl); case hs => first | exact tHT | exact tHS)
| (with_reducible first | apply opsF.nil | apply seqF.nn | apply vcF.seq | apply vcF.region | apply vcF.dregion | apply vcF.dalts | apply dallF.cons | apply dallF.nil | apply vcF.skip | apply vcF.ret | apply seqF.r | apply dopsF.nil | apply stabsF.nil | apply stabsF.cons | apply dopsF.cont)
| ((with_reducible first | apply opsF.call | apply dopsF.call); case hx => exact tAG)
| ((with_reducible first | apply opsF.want | apply dopsF.want | apply stabF.want); (case hg => exact tEV); case hb => exact tNB)
| ((with_reducible first | apply opsF.skip | apply dopsF.skip | apply stabF.skip); (case hg => exact tEV); case hb => exact tNB)
| (first | ((with_reducible first | apply opsF.case | apply dopsF.case); case hg => exact tEV) | ((with_reducible apply vcF.cond); case hx => exact tEV)) <;> ((intro hc; try simp only [Int.reduceLT, Int.reduceLE, Int.reduceEq, Int.reduceNe, Int.cast_ofNat_Int, Int.reduceNeg, reduceCtorEq, ne_eq, ge_iff_le, gt_iff_lt, beq_iff_eq, beq_eq_false_iff_ne, bne_iff_ne, bne_eq_false_iff_eq, nrm, *] at hc) <;> try (exfalso; omega))
| ((with_reducible first | apply opsF.und | apply dopsF.und); case hg => rfl)
| ((with_reducible apply stabF.und); rfl)
| ((with_reducible apply stabF.op); (case hs => first | exact tHT | exact tHS); case hv => exact tSV)
| ((with_reducible first | apply retF.r | apply retF.nn); case hv => exact tRS)
| ((refine Call.use (hcl _) ?_))
| ((refine (lnew_call _).mono fun v h1 hp => ?_); obtain ⟨rfl, rfl⟩ := hp)
| ((refine (reply_New_call _).mono fun v h1 hp => ?_); obtain ⟨rfl, rfl⟩ := hp)
| ((with_reducible apply opsF.op rfl); (case hs => exact is_mksN (n := tg.length) tEV (by omega)))
| ((with_reducible apply dopsF.op rfl); (case hs => exact is_mksN (n := tg.length) tEV (by omega))))
  rotate_right
  · rintro σ h1 ⟨x, g9, g2, g3, hE, G, hf⟩
    have gob := G.o
    unfold ccells at gob
    have T1 := ((hT.ext hE).full.full).full
    rw [newC_eq]
    cases hb : bodyS body with
    | false =>
      rw [hb] at hst
      rw [if_neg (by simp), if_neg (by simp)]
      have S := G.upd (h2 := h1) (s' := preC host sndr tg []) (to' := .full) rfl rfl rfl rfl rfl rfl (fun e => e) rfl
      have hen := cend_call (w0 := w0) x (preC host sndr tg []) .no .full .full .full 554 _ S (by show tg.length ≤ _; omega)
      unfold ccells preC at hen
      unfold preC at gob
      clear hcl
      repeat' (first
| ((with_reducible first | apply opsF.op rfl | apply dopsF.op rfl); case hs => first | exact tHT | exact tHS)
| (with_reducible first | apply opsF.nil | apply seqF.nn | apply vcF.seq | apply vcF.region | apply vcF.dregion | apply vcF.dalts | apply dallF.cons | apply dallF.nil | apply vcF.skip | apply vcF.ret | apply seqF.r | apply dopsF.nil | apply stabsF.nil | apply stabsF.cons | apply dopsF.cont)
| ((with_reducible first | apply opsF.call | apply dopsF.call); case hx => exact tAG)
| ((with_reducible first | apply opsF.want | apply dopsF.want | apply stabF.want); (case hg => exact tEV); case hb => exact tNB)
| ((with_reducible first | apply opsF.skip | apply dopsF.skip | apply stabF.skip); (case hg => exact tEV); case hb => exact tNB)
| (first | ((with_reducible first | apply opsF.case | apply dopsF.case); case hg => exact tEV) | ((with_reducible apply vcF.cond); case hx => exact tEV)) <;> ((intro hc; try simp only [Int.reduceLT, Int.reduceLE, Int.reduceEq, Int.reduceNe, Int.cast_ofNat_Int, Int.reduceNeg, reduceCtorEq, ne_eq, ge_iff_le, gt_iff_lt, beq_iff_eq, beq_eq_false_iff_ne, bne_iff_ne, bne_eq_false_iff_eq, nrm, *] at hc) <;> try (exfalso; omega))
| ((with_reducible first | apply opsF.und | apply dopsF.und); case hg => rfl)
| ((with_reducible apply stabF.und); rfl)
| ((with_reducible apply stabF.op); (case hs => first | exact tHT | exact tHS); case hv => exact tSV)
| ((with_reducible first | apply retF.r | apply retF.nn); case hv => exact tRS)
| ((refine Call.use (hst _) ?_))
| ((refine hen.mono fun v h2 hp => ?_); obtain ⟨H2, hT2, hF2⟩ := hp))
      all_goals exact ⟨x, rfl, ⟨_, _, _, _, H2, hT2 _ T1.set⟩, Fr.fresh (Fr.ext hE) (((Fr.refl x.ids h1).set (.inl (by simp [CK.ids])) _).trans hF2) hf, hf⟩
    | true =>
      rw [hb] at hst
      rw [if_pos rfl]
      have S := G.upd (h2 := h1) (s' := preC host sndr tg (stuffGo body)) (to' := .full) rfl rfl rfl rfl rfl rfl (fun e => e) rfl
      have hen := cend_call (w0 := w0) x (preC host sndr tg (stuffGo body)) .no .full .full .full 554 _ S (by show tg.length ≤ _; omega)
      unfold ccells preC at hen
      unfold preC at gob
      clear hcl
      rw [if_pos rfl] at hst
      repeat' (first
| ((with_reducible first | apply opsF.op rfl | apply dopsF.op rfl); case hs => first | exact tHT | exact tHS)
| (with_reducible first | apply opsF.nil | apply seqF.nn | apply vcF.seq | apply vcF.region | apply vcF.dregion | apply vcF.dalts | apply dallF.cons | apply dallF.nil | apply vcF.skip | apply vcF.ret | apply seqF.r | apply dopsF.nil | apply stabsF.nil | apply stabsF.cons | apply dopsF.cont)
| ((with_reducible first | apply opsF.call | apply dopsF.call); case hx => exact tAG)
| ((with_reducible first | apply opsF.want | apply dopsF.want | apply stabF.want); (case hg => exact tEV); case hb => exact tNB)
| ((with_reducible first | apply opsF.skip | apply dopsF.skip | apply stabF.skip); (case hg => exact tEV); case hb => exact tNB)
| (first | ((with_reducible first | apply opsF.case | apply dopsF.case); case hg => exact tEV) | ((with_reducible apply vcF.cond); case hx => exact tEV)) <;> ((intro hc; try simp only [Int.reduceLT, Int.reduceLE, Int.reduceEq, Int.reduceNe, Int.cast_ofNat_Int, Int.reduceNeg, reduceCtorEq, ne_eq, ge_iff_le, gt_iff_lt, beq_iff_eq, beq_eq_false_iff_ne, bne_iff_ne, bne_eq_false_iff_eq, nrm, *] at hc) <;> try (exfalso; omega))
| ((with_reducible first | apply opsF.und | apply dopsF.und); case hg => rfl)
| ((with_reducible apply stabF.und); rfl)
| ((with_reducible apply stabF.op); (case hs => first | exact tHT | exact tHS); case hv => exact tSV)
| ((with_reducible first | apply retF.r | apply retF.nn); case hv => exact tRS)
| ((refine Call.use (hst _) ?_))
| ((refine hen.mono fun v h2 hp => ?_); obtain ⟨H2, hT2, hF2⟩ := hp))
      all_goals first
        | (rw [if_pos ⟨rfl, by omega, by omega⟩]; exact ⟨x, rfl, ⟨_, _, _, _, S, T1.set⟩, Fr.fresh (Fr.ext hE) ((Fr.refl x.ids h1).set (.inl (by simp [CK.ids])) _) hf, hf⟩)
        | (rw [if_neg (by rintro ⟨_, q1, q2⟩; omega)]; exact ⟨x, rfl, ⟨_, _, _, _, H2, hT2 _ T1.set⟩, Fr.fresh (Fr.ext hE) (((Fr.refl x.ids h1).set (.inl (by simp [CK.ids])) _).trans hF2) hf, hf⟩)
  all_goals first
    | refine ⟨⟨h.n + 3, h.n + 1, h.n + 2, h.n⟩, rfl, rfl, rfl, (by repeat' (first | exact Ext.refl _ | (refine Ext.set ?_ (by first | exact Nat.le_refl _ | (simp only [alloc_n, set_n]; omega) | (simp only [alloc_n, set_n, drop_n]; omega)) _) | (refine Ext.trans ?_ (Ext.alloc _ _)) | (refine Ext.drop ?_ (by simp only [alloc_n, set_n, drop_n]; omega)))), ⟨by (simp (disch := omega) only [alloc_at, alloc_n, if_pos, if_neg, eq_self, if_true, flat_zero]; rfl), ⟨[], by (simp (disch := omega) only [alloc_at, alloc_n, if_pos, if_neg, eq_self, if_true, flat_zero]; rfl), fun _ => rfl⟩, ⟨[], by (simp (disch := omega) only [alloc_at, alloc_n, if_pos, if_neg, eq_self, if_true, flat_zero]; rfl), rfl⟩, by (simp (disch := omega) only [alloc_at, alloc_n, if_pos, if_neg, eq_self, if_true, flat_zero]; rfl), by (simp only [alloc_n]; omega), by (dsimp only; omega), by simp [preC]⟩, by simp [CK.ids]⟩
    | refine ⟨⟨h.n + 3, h.n, h.n + 2, h.n + 1⟩, rfl, rfl, rfl, (by repeat' (first | exact Ext.refl _ | (refine Ext.set ?_ (by first | exact Nat.le_refl _ | (simp only [alloc_n, set_n]; omega) | (simp only [alloc_n, set_n, drop_n]; omega)) _) | (refine Ext.trans ?_ (Ext.alloc _ _)) | (refine Ext.drop ?_ (by simp only [alloc_n, set_n, drop_n]; omega)))), ⟨by (simp (disch := omega) only [alloc_at, alloc_n, if_pos, if_neg, eq_self, if_true, flat_zero]; rfl), ⟨[], by (simp (disch := omega) only [alloc_at, alloc_n, if_pos, if_neg, eq_self, if_true, flat_zero]; rfl), fun _ => rfl⟩, ⟨[], by (simp (disch := omega) only [alloc_at, alloc_n, if_pos, if_neg, eq_self, if_true, flat_zero]; rfl), rfl⟩, by (simp (disch := omega) only [alloc_at, alloc_n, if_pos, if_neg, eq_self, if_true, flat_zero]; rfl), by (simp only [alloc_n]; omega), by (dsimp only; omega), by simp [preC]⟩, by simp [CK.ids]⟩
    | refine ⟨⟨h.n + 3, h.n, h.n + 1, h.n + 2⟩, rfl, rfl, rfl, (by repeat' (first | exact Ext.refl _ | (refine Ext.set ?_ (by first | exact Nat.le_refl _ | (simp only [alloc_n, set_n]; omega) | (simp only [alloc_n, set_n, drop_n]; omega)) _) | (refine Ext.trans ?_ (Ext.alloc _ _)) | (refine Ext.drop ?_ (by simp only [alloc_n, set_n, drop_n]; omega)))), ⟨by (simp (disch := omega) only [alloc_at, alloc_n, if_pos, if_neg, eq_self, if_true, flat_zero]; rfl), ⟨[], by (simp (disch := omega) only [alloc_at, alloc_n, if_pos, if_neg, eq_self, if_true, flat_zero]; rfl), fun _ => rfl⟩, ⟨[], by (simp (disch := omega) only [alloc_at, alloc_n, if_pos, if_neg, eq_self, if_true, flat_zero]; rfl), rfl⟩, by (simp (disch := omega) only [alloc_at, alloc_n, if_pos, if_neg, eq_self, if_true, flat_zero]; rfl), by (simp only [alloc_n]; omega), by (dsimp only; omega), by simp [preC]⟩, by simp [CK.ids]⟩
end Go.Abs.F
/- Layer 7: what a program that does nothing does not answer. -/
namespace Go.Abs.F
open Go Go.Abs
set_option maxRecDepth 10000
set_option maxHeartbeats 20000000
set_option linter.unusedSimpArgs false
set_option linter.unusedVariables false
variable {w0 : World}
/-- All the tokens there are. -/
def allT (h : AH) : List Tok := (List.range h.nt).map fun t => .own t (h.ver t)
theorem allT_toks (h : AH) : Toks h (allT h) := by
  refine ⟨fun t ht => ?_, ?_⟩
  · obtain ⟨i, hi, rfl⟩ := List.mem_map.1 ht
    exact ⟨rfl, by simpa using hi⟩
  · refine List.Pairwise.map _ (R := fun a b => a ≠ b) (fun a b hab x hx hb => ?_) List.nodup_range
    have e1 : some a = some x := hx
    have e2 : some b = some x := hb
    exact hab (by simpa using e1.trans e2.symm)
theorem Ext.ofFr {h h' : AH} {S : List Tok} (f : Fr [] h h') (k : Toks h' (S ++ allT h)) : Ext h h' :=
  ⟨f.n, f.nt, fun i hi => f.o i hi (by simp), fun t ht => by
    have := k.u (.own t (h.ver t)) (List.mem_append_right _ (List.mem_map.2 ⟨t, by simpa using ht, rfl⟩))
    exact this.1.symm⟩
/-! one line, of a reply that is whole -/
theorem feed1 {s : CS} {b a t : L8} {n : Int} (ho : s.over = false) (hw : s.wait = []) (hc : crlfS 512 [] b = ([(1, a)], [])) (h1 : oneS 1 a = some (n, false, t)) (hn : s.nls = 0) (h0 : s.code = 0) : s.feed b = s.take n := by
  have e : ({ s with code := 0, nls := 0 } : CS) = s := by cases s; simp at hn h0; subst hn h0; rfl
  have hl : s.line 1 a = s.take n := by
    unfold CS.line
    rw [h1]
    dsimp only
    rw [if_neg (by rintro ⟨q, _⟩; exact q hn), if_neg (by simp), e]
  have hk : (s.take n).wait = [] := by
    have q := take_wait s n []
    rw [show ({ s with wait := [] } : CS) = s by cases s; simp at hw; subst hw; rfl] at q
    rw [q]
  unfold CS.feed
  rw [if_neg (by rw [ho]; simp), hw, List.nil_append, hc]
  show { (s.lines [(1, a)]) with wait := [] } = _
  rw [CS.lines_cons ho, hl, CS.lines]
  generalize s.take n = q at *
  cases q
  simp at hk
  subst hk
  rfl
theorem crlf_line (a : L8) (ha : (1, a) = lineS 512 a) (hb : cutL (a ++ [13, 10]) = some (a, [])) : crlfS 512 [] (a ++ [13, 10]) = ([(1, a)], []) := by
  rw [crlfS_cut, hb]
  dsimp only
  rw [List.nil_append, ← ha]
  rfl
theorem crlf_220 : crlfS 512 [] [50, 50, 48, 32, 120, 13, 10] = ([(1, [50, 50, 48, 32, 120])], []) := crlf_line [50, 50, 48, 32, 120] (by decide) (by decide)
/-- The session of 'answers', behind the greeting. -/
def ansC : CS := (newC [104] [97, 64, 98] [[99, 64, 100]] []).feed [50, 50, 48, 32, 120, 13, 10]
theorem ansC_eq : ansC = { host := [104], sndr := [97, 64, 98], tg := [[99, 64, 100]], body := [46, 13, 10], wait := [], code := 0, out := [tEHLO ++ [104] ++ [13, 10]], st := 1, pos := 0, codes := [0], over := false, nls := 0 } := by
  unfold ansC
  rw [feed1 (a := [50, 50, 48, 32, 120]) (n := 220) (t := [120]) (by rfl) (by rfl) crlf_220 (by decide) (by rfl) (by rfl)]
  rfl
theorem answers07_call (hM : MaxLen w0) (h : AH) : Call P w0 law07_answers [] h (fun v h' => v = .v (.bool true) ∧ h' = h) := by
  refine Call.pur (.v _) ?_
  have hnew := fun h hT => cnew_call (w0 := w0) [104] [97, 64, 98] [[99, 64, 100]] [] .full .full (allT h) h hT (by simp) (by simp) (by simp)
  have hfd := fun x tt to tl tr h1 C T => cfeed_call hM x (newC [104] [97, 64, 98] [[99, 64, 100]] []) tt to tl tr (allT h) [50, 50, 48, 32, 120, 13, 10] .no h1 C T ⟨by decide, by decide, by decide, by decide⟩ (fun _ => ⟨by decide, by decide, by decide, by decide⟩) (fun _ => by decide) (fun _ => by decide)
  have eA : (newC [104] [97, 64, 98] [[99, 64, 100]] []).feed [50, 50, 48, 32, 120, 13, 10] = ansC := rfl
  rw [eA] at hfd
  have hnx := fun x tt to tl tr h1 C => cNext_some (w0 := w0) x ansC tt to tl tr (tEHLO ++ [104] ++ [13, 10]) [] h1 C (by rw [ansC_eq])
  have hov := fun x tt to tl tr h1 C => cover_call (w0 := w0) x ansC.pop tt to tl tr h1 C
  have hco := fun x tt to tl tr h1 C => ccodes_call (w0 := w0) x ansC.pop tt to tl tr h1 C (by rw [ansC_eq]; decide)
  have o1 : ansC.pop.over = false := by rw [ansC_eq]; rfl
  have o2 : nrow ansC.pop.codes = [[.v (.int .i64 0)]] := by rw [ansC_eq]; rfl
  rw [o1] at hov
  rw [o2] at hco
  generalize ansC = A at *
  generalize ansC.pop = B at *
  have da := drop_at
  have dn := drop_n
  refine Call.bodyF b_law07_answers rfl rfl ?_
  unfold c_law07_answers
  repeat' (first
| ((with_reducible apply opsF.op rfl); case hs => first | exact tHT | exact tHS)
| (with_reducible first | apply opsF.nil | apply seqF.nn | apply vcF.seq | apply vcF.region | apply vcF.skip | apply vcF.ret | apply seqF.r)
| ((with_reducible apply opsF.call); case hx => exact tAG)
| ((with_reducible apply opsF.want); (case hg => exact tEV); case hb => exact tNB)
| ((with_reducible apply opsF.skip); (case hg => exact tEV); case hb => exact tNB)
| (first | ((with_reducible apply opsF.case); case hg => exact tEV) | ((with_reducible apply vcF.cond); case hx => exact tEV)) <;> ((intro hc; try simp only [Int.reduceLT, Int.reduceLE, Int.reduceEq, Int.reduceNe, Int.cast_ofNat_Int, Int.reduceNeg, reduceCtorEq, ne_eq, ge_iff_le, gt_iff_lt, beq_iff_eq, beq_eq_false_iff_ne, bne_iff_ne, bne_eq_false_iff_eq, nrm, *] at hc) <;> try (exfalso; omega))
| ((with_reducible apply opsF.und); case hg => rfl)
| ((with_reducible first | apply retF.r | apply retF.nn); case hv => exact tRS)
| ((refine (hnew _ (allT_toks _)).mono fun v h1 hp => ?_); obtain ⟨x, rfl, N1⟩ := hp; obtain ⟨tt, to, tl, tr, C1, T1⟩ := N1.o; have F1 := N1.e; have I1 := N1.f)
| ((with_reducible apply opsF.op rfl); (case hs => exact is_cvb tEV tHE (by rfl)))
| ((refine (hfd x tt to tl tr _ (C1.ext (by repeat' (first | exact Ext.refl _ | (refine Ext.set ?_ (by first | exact Nat.le_refl _ | (simp only [alloc_n, set_n]; omega) | (simp only [alloc_n, set_n, drop_n]; omega)) _) | (refine Ext.trans ?_ (Ext.alloc _ _)) | (refine Ext.drop ?_ (by first | exact Nat.le_refl _ | (simp only [alloc_n, set_n, drop_n]; omega)))))) (T1.ext (by repeat' (first | exact Ext.refl _ | (refine Ext.set ?_ (by first | exact Nat.le_refl _ | (simp only [alloc_n, set_n]; omega) | (simp only [alloc_n, set_n, drop_n]; omega)) _) | (refine Ext.trans ?_ (Ext.alloc _ _)) | (refine Ext.drop ?_ (by first | exact Nat.le_refl _ | (simp only [alloc_n, set_n, drop_n]; omega))))))).mono fun v h2 hp => ?_); obtain ⟨to2, tl2, tr2, G2⟩ := hp; have C2 := G2.o; have T2 := G2.t; have F2 := G2.f)
| ((refine (hnx x tt to2 tl2 tr2 _ C2).mono fun v h3 hp => ?_); obtain ⟨rfl, C3, T3, F3⟩ := hp)
| ((refine Call.use (hov x tt to2 tl2 tr2 _ C3) ?_))
| ((refine Call.use (hco x tt to2 tl2 tr2 _ C3) ?_)))
  all_goals exact ⟨by simp, Ext.ofFr (S := [to2, tl2, tr2]) (Fr.fresh (Fr.fresh (Fr.fresh F1 (Fr.ext (I := []) (by repeat' (first | exact Ext.refl _ | (refine Ext.set ?_ (by first | exact Nat.le_refl _ | (simp only [alloc_n, set_n]; omega) | (simp only [alloc_n, set_n, drop_n]; omega)) _) | (refine Ext.trans ?_ (Ext.alloc _ _)) | (refine Ext.drop ?_ (by first | exact Nat.le_refl _ | (simp only [alloc_n, set_n, drop_n]; omega)))))) (fun i hi => by simp at hi)) F2 I1) F3 I1) (T3 _ T2)⟩
end Go.Abs.F
/- Layer 7: the document's session: its object; what it says; its end. -/
namespace Go.Abs.F
open Go Go.Abs
set_option maxRecDepth 10000
set_option maxHeartbeats 20000000
set_option linter.unusedSimpArgs false
set_option linter.unusedVariables false
variable {w0 : World}
end Go.Abs.F
/- Layer 7: the document's session takes a reply. -/
namespace Go.Abs.F
open Go Go.Abs
set_option maxRecDepth 10000
set_option maxHeartbeats 20000000
set_option linter.unusedSimpArgs false
set_option linter.unusedVariables false
variable {w0 : World}
theorem next0 {s : CS} (h : s.st = 0) : s.next = { s with st := 1 }.say (tEHLO ++ s.host) := by cases s; simp at h; subst h; rfl
theorem next1 {s : CS} (h : s.st = 1) : s.next = { s with st := 2 }.say (tMAIL ++ s.sndr ++ [62]) := by cases s; simp at h; subst h; rfl
theorem next2 {s : CS} (h : s.st = 2) : s.next = { s with st := 3 }.say (tRCPT ++ s.tg.headD [] ++ [62]) := by cases s; simp at h; subst h; rfl
theorem next3 {s : CS} (h : s.st = 3) : s.next = { s with st := 4 }.say tDATA := by cases s; simp at h; subst h; rfl
theorem next4 {s : CS} (h : s.st = 4) : s.next = { s with st := 5, out := s.out ++ [s.body] } := by cases s; simp at h; subst h; rfl
end Go.Abs.F
/- Layer 7: the document's session takes a reply to a target. -/
namespace Go.Abs.F
open Go Go.Abs
set_option maxRecDepth 10000
set_option maxHeartbeats 20000000
set_option linter.unusedSimpArgs false
set_option linter.unusedVariables false
variable {w0 : World}
end Go.Abs.F
/- Layer 7: the document's session: a new one; bytes come. -/
namespace Go.Abs.F
open Go Go.Abs
set_option maxRecDepth 10000
set_option maxHeartbeats 20000000
set_option linter.unusedSimpArgs false
set_option linter.unusedVariables false
variable {w0 : World}
/-! the first end of a line, looked for from a place on -/
end Go.Abs.F
