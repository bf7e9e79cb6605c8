/- What the proof needs, part 17: Layer 5: a body as it goes, by the program and by the document; Layer 7: a new session with the next hop; Layer 7: what a program that does nothing does not answer; Layer 7: the document's session: its object; what it says; its end; Layer 7: the document's session takes a reply; Layer 7: the document's session takes a reply to a target; Layer 7: the document's session: a new one; bytes come. -/
import Derived.Test.YtlmgpkopcgcbgaaDoorQSendPlays14
import Derived.Test.YtlmgpkopcgcbgaaDoorQSendPlays16
import Derived.Test.YtlmgpkopcgcbgaaDoorQSendPlays13
/- Layer 5: a body as it goes, by the program and by the document. -/
namespace Go.Abs.F
open Go Go.Abs
set_option maxRecDepth 10000
set_option maxHeartbeats 20000000
set_option linter.unusedSimpArgs false
set_option linter.unusedVariables false
variable {w0 : World}
theorem hasD_call (s : L8) (c : UInt8) (h : AH) : Call P w0 i_stringslite_HasPrefix [.v (.string (bs s)), .v (.string (bs [c]))] h
    (fun v h' => v = .v (.bool (decide (s.head? = some c))) ∧ h' = h) := by
  refine Call.bodyF b_i_stringslite_HasPrefix rfl rfl ?_
  unfold c_i_stringslite_HasPrefix
  cases s with
  | nil =>
    repeat' (first
| ((with_reducible apply opsF.op rfl); case hs => first | exact tHT | exact tHS)
| (with_reducible first | apply opsF.nil | apply seqF.nn | apply vcF.seq | apply vcF.region | apply vcF.skip | apply vcF.ret | apply seqF.r)
| ((with_reducible apply opsF.call); case hx => exact tAG)
| ((with_reducible apply opsF.want); (case hg => exact tEV); case hb => exact tNB)
| ((with_reducible apply opsF.skip); (case hg => exact tEV); case hb => exact tNB)
| (first | ((with_reducible apply opsF.case); case hg => exact tEV) | ((with_reducible apply vcF.cond); case hx => exact tEV)) <;> ((intro hc; try simp only [Int.reduceLT, Int.reduceLE, Int.reduceEq, Int.reduceNe, Int.cast_ofNat_Int, Int.reduceNeg, reduceCtorEq, ne_eq, ge_iff_le, gt_iff_lt, beq_iff_eq, beq_eq_false_iff_ne, bne_iff_ne, bne_eq_false_iff_eq, nrm, *] at hc) <;> try (exfalso; omega))
| ((with_reducible apply opsF.und); case hg => rfl)
| ((with_reducible first | apply retF.r | apply retF.nn); case hv => exact tRS))
    all_goals exact ⟨rfl, rfl⟩
  | cons x r =>
    repeat' (first
| ((with_reducible apply opsF.op rfl); case hs => first | exact tHT | exact tHS)
| (with_reducible first | apply opsF.nil | apply seqF.nn | apply vcF.seq | apply vcF.region | apply vcF.skip | apply vcF.ret | apply seqF.r)
| ((with_reducible apply opsF.call); case hx => exact tAG)
| ((with_reducible apply opsF.want); (case hg => exact tEV); case hb => exact tNB)
| ((with_reducible apply opsF.skip); (case hg => exact tEV); case hb => exact tNB)
| (first | ((with_reducible apply opsF.case); case hg => exact tEV) | ((with_reducible apply vcF.cond); case hx => exact tEV)) <;> ((intro hc; try simp only [Int.reduceLT, Int.reduceLE, Int.reduceEq, Int.reduceNe, Int.cast_ofNat_Int, Int.reduceNeg, reduceCtorEq, ne_eq, ge_iff_le, gt_iff_lt, beq_iff_eq, beq_eq_false_iff_ne, bne_iff_ne, bne_eq_false_iff_eq, nrm, *] at hc) <;> try (exfalso; omega))
| ((with_reducible apply opsF.und); case hg => rfl)
| ((with_reducible first | apply retF.r | apply retF.nn); case hv => exact tRS))
    all_goals (refine ⟨?_, rfl⟩; simp)
theorem shasD_call (s : L8) (c : UInt8) (h : AH) : Call P w0 strings_HasPrefix [.v (.string (bs s)), .v (.string (bs [c]))] h (fun v h' => v = .v (.bool (decide (s.head? = some c))) ∧ h' = h) := by
  refine Call.bodyF b_strings_HasPrefix rfl rfl ?_
  unfold c_strings_HasPrefix
  repeat' (first
| ((with_reducible apply opsF.op rfl); case hs => first | exact tHT | exact tHS)
| (with_reducible first | apply opsF.nil | apply seqF.nn | apply vcF.seq | apply vcF.region | apply vcF.skip | apply vcF.ret | apply seqF.r)
| ((with_reducible apply opsF.call); case hx => exact tAG)
| ((with_reducible apply vcF.cond); case hx => exact tEV) <;> ((intro hc; try simp only [Int.reduceLT, Int.reduceLE, Int.reduceEq, Int.reduceNe, Int.cast_ofNat_Int, Int.reduceNeg, reduceCtorEq, ne_eq, ge_iff_le, gt_iff_lt, beq_iff_eq, beq_eq_false_iff_ne, bne_iff_ne, bne_eq_false_iff_eq, nrm, *] at hc) <;> try (exfalso; omega))
| ((with_reducible first | apply retF.r | apply retF.nn); case hv => exact tRS)
| ((refine (hasD_call s c _).mono fun v h2 hp => ?_); obtain ⟨rfl, rfl⟩ := hp))
  all_goals exact ⟨rfl, rfl⟩
/-- A line of a body as it goes. -/
def stuffL (x : L8) : L8 := if x.head? = some 46 then 46 :: x else x
theorem stuff_cons (x : L8) (l : List L8) : stuffGo (x :: l) = stuffL x ++ [13, 10] ++ stuffGo l := by
  rw [stuffGo, stuffL]
  by_cases h : x.head? = some 46
  · rw [if_pos h, if_pos h]; simp
  · rw [if_neg h, if_neg h]; simp
theorem stuffL_len (x : L8) : (stuffL x).length ≤ x.length + 1 := by unfold stuffL; split <;> simp
theorem stuff_len : ∀ l : List L8, (stuffGo l).length ≤ 2 * bsizeS l + 3
  | [] => by simp [stuffGo]
  | x :: l => by
    have h1 := stuff_len l
    have h2 := stuffL_len x
    rw [stuff_cons]
    simp only [List.length_append, List.length_cons, List.length_nil, bsizeS]
    omega
theorem stuff_drop {l : List L8} {i : Nat} {x : L8} (hx : l[i]? = some x) : stuffGo (l.drop i) = stuffL x ++ [13, 10] ++ stuffGo (l.drop (i + 1)) := by
  rw [drop_step hx, stuff_cons]
theorem body_size {l : List L8} (h : bodyS l = true) : bsizeS l ≤ 65536 := by
  simp only [bodyS, Bool.and_eq_true, decide_eq_true_eq] at h
  exact h.2
theorem bsize_ge : ∀ l : List L8, 2 * l.length ≤ bsizeS l
  | [] => by simp [bsizeS]
  | x :: l => by have := bsize_ge l; simp only [bsizeS, List.length_cons]; omega
theorem dstuff_call (l : List L8) (tok : Tok) (h : AH) (hl : l.length ≤ 140737488351232) (hs : ∀ s ∈ l, s.length ≤ 140737488351232) : Call P w0 dots_Stuff [.list 1 (srows l) tok] h
    (fun v h' => v = (if bodyS l = true then .tup [.v (.string (bs (stuffGo l))), .v (.int .i64 0)] else .tup [.v (.string (bs [])), .v (.int .i64 2)]) ∧ h' = h) := by
  refine Call.pur (by split <;> exact .tup fun j hj => (by match j, hj with | 0, _ => exact .v _ | 1, _ => exact .v _)) ?_
  have xl := srows_len
  have xg := srows_get
  have m1 := srows_len l
  have hgo := fun h => dgood_call (w0 := w0) l tok h hl hs
  refine Call.bodyF b_dots_Stuff rfl rfl ?_
  unfold c_dots_Stuff
  cases hb : bodyS l with
  | false =>
    rw [hb] at hgo
    repeat' (first
| ((with_reducible apply opsF.op rfl); case hs => first | exact tHT | exact tHS)
| (with_reducible first | apply opsF.nil | apply seqF.nn | apply vcF.seq | apply vcF.region | apply vcF.skip | apply vcF.block | apply vcF.exit | apply vcF.ret | apply vcF.loop | apply seqF.e | apply seqF.r | apply blkF.nn | apply blkF.e | apply blkF.r | apply blkF.o rfl)
| ((with_reducible apply opsF.call); case hx => exact tAG)
| ((with_reducible apply vcF.cond); case hx => exact tEV) <;> ((intro hc; try simp only [Int.reduceLT, Int.reduceLE, Int.reduceEq, Int.reduceNe, Int.cast_ofNat_Int, Int.reduceNeg, reduceCtorEq, ne_eq, ge_iff_le, gt_iff_lt, beq_iff_eq, beq_eq_false_iff_ne, bne_iff_ne, bne_eq_false_iff_eq, nrm, *] at hc) <;> try (exfalso; omega))
| ((with_reducible first | apply retF.r | apply retF.nn); case hv => exact tRS)
| ((refine Call.use (hgo _) ?_)))
    all_goals exact ⟨rfl, .refl _⟩
  | true =>
    rw [hb] at hgo
    rw [if_pos rfl]
    have hsz := body_size hb
    have hsl := stuff_len l
    have hlen := bsize_ge l
    repeat' (first
| ((with_reducible apply opsF.op rfl); case hs => first | exact tHT | exact tHS)
| (with_reducible first | apply opsF.nil | apply seqF.nn | apply vcF.seq | apply vcF.region | apply vcF.skip | apply vcF.block | apply vcF.exit | apply vcF.ret | apply vcF.loop | apply seqF.e | apply seqF.r | apply blkF.nn | apply blkF.e | apply blkF.r | apply blkF.o rfl)
| ((with_reducible apply opsF.call); case hx => exact tAG)
| ((with_reducible apply vcF.cond); case hx => exact tEV) <;> ((intro hc; try simp only [Int.reduceLT, Int.reduceLE, Int.reduceEq, Int.reduceNe, Int.cast_ofNat_Int, Int.reduceNeg, reduceCtorEq, ne_eq, ge_iff_le, gt_iff_lt, beq_iff_eq, beq_eq_false_iff_ne, bne_iff_ne, bne_eq_false_iff_eq, nrm, *] at hc) <;> try (exfalso; omega))
| ((with_reducible first | apply retF.r | apply retF.nn); case hv => exact tRS)
| ((refine Call.use (hgo _) ?_)))
    clear hgo
    refine LpF.ind rfl (fun i : Nat => l.length - i) (fun i σ hh => ∃ pre : L8, Ext h hh ∧ Bld hh h.n pre ∧ σ 4 = .ptr h.n 0 ∧ σ 10 = .list 1 (srows l) tok ∧ σ 11 = .v (.int .i64 (l.length : Nat)) ∧ σ 12 = .v (.int .i64 (i : Nat)) ∧ i ≤ l.length ∧ pre ++ stuffGo (l.drop i) = stuffGo l) ?_ (i := 0)
      ⟨[], Ext.alloc _ _, ⟨by simp [alloc_n], .inl ⟨by simp [alloc_at, alloc_n], rfl⟩⟩, rfl, rfl, by first | rfl | (rw [← m1]; rfl), rfl, Nat.zero_le _, rfl⟩
    rintro i σ hh ⟨pre, hE, hB, g4, g10, g11, g12, hi, hS⟩
    have hBl := hB.1
    have hpl := congrArg List.length hS
    simp only [List.length_append] at hpl
    rcases Nat.lt_or_ge i l.length with hlt | hge
    · obtain ⟨x, hx⟩ : ∃ x, l[i]? = some x := ⟨_, List.getElem?_eq_getElem hlt⟩
      have rx : (srows l)[i]? = some [.v (.string (bs x))] := by rw [srows_get, hx]; rfl
      rw [stuff_drop hx] at hS hpl
      simp only [List.length_append, List.length_cons, List.length_nil] at hpl
      have hxl : x.length ≤ (stuffL x).length := by unfold stuffL; split <;> simp
      have hhd := fun h => shasD_call (w0 := w0) x 46 h
      by_cases hd : x.head? = some 46
      · have hS2 : ((pre ++ [46]) ++ (x ++ [13, 10])) ++ stuffGo (l.drop (i + 1)) = stuffGo l := by rw [← hS, stuffL, if_pos hd]; simp
        have hle : (stuffL x).length = x.length + 1 := by rw [stuffL, if_pos hd]; rfl
        simp only [hd, decide_true] at hhd
        clear hS
        repeat' (first
| ((with_reducible apply opsF.op rfl); case hs => first | exact tHT | exact tHS)
| (with_reducible first | apply opsF.nil | apply seqF.nn | apply vcF.seq | apply vcF.region | apply vcF.skip | apply vcF.block | apply vcF.exit | apply vcF.ret | apply vcF.loop | apply seqF.e | apply seqF.r | apply blkF.nn | apply blkF.e | apply blkF.r | apply blkF.o rfl)
| ((with_reducible apply opsF.call); case hx => exact tAG)
| ((with_reducible apply vcF.cond); case hx => exact tEV) <;> ((intro hc; try simp only [Int.reduceLT, Int.reduceLE, Int.reduceEq, Int.reduceNe, Int.cast_ofNat_Int, Int.reduceNeg, reduceCtorEq, ne_eq, ge_iff_le, gt_iff_lt, beq_iff_eq, beq_eq_false_iff_ne, bne_iff_ne, bne_eq_false_iff_eq, nrm, *] at hc) <;> try (exfalso; omega))
| ((with_reducible first | apply retF.r | apply retF.nn); case hv => exact tRS)
| ((refine Call.use (hhd _) ?_))
| ((refine (ws_call h.n pre [46] _ hB (by simp only [List.length_cons, List.length_nil]; omega)).mono fun u h2 hp => ?_); obtain ⟨rfl, hB2, hx2⟩ := hp)
| ((refine (ws_call h.n (pre ++ [46]) (x ++ [13, 10]) _ hB2 (by simp only [List.length_append, List.length_cons, List.length_nil]; omega)).mono fun u h3 hp => ?_); obtain ⟨rfl, hB3, hx3⟩ := hp))
        all_goals exact ⟨i + 1, by omega, _, (hE.transX hx2 (fun i hi => hi) (fun t ht => ht.elim)).transX hx3 (fun i hi => hi) (fun t ht => ht.elim), hB3, g4, g10, g11, rfl, by omega, hS2⟩
      · have hS2 : (pre ++ (x ++ [13, 10])) ++ stuffGo (l.drop (i + 1)) = stuffGo l := by rw [← hS, stuffL, if_neg hd]; simp
        have hd2 : decide (x.head? = some 46) = false := decide_eq_false hd
        rw [hd2] at hhd
        clear hS hd2 hd
        repeat' (first
| ((with_reducible apply opsF.op rfl); case hs => first | exact tHT | exact tHS)
| (with_reducible first | apply opsF.nil | apply seqF.nn | apply vcF.seq | apply vcF.region | apply vcF.skip | apply vcF.block | apply vcF.exit | apply vcF.ret | apply vcF.loop | apply seqF.e | apply seqF.r | apply blkF.nn | apply blkF.e | apply blkF.r | apply blkF.o rfl)
| ((with_reducible apply opsF.call); case hx => exact tAG)
| ((with_reducible apply vcF.cond); case hx => exact tEV) <;> ((intro hc; try simp only [Int.reduceLT, Int.reduceLE, Int.reduceEq, Int.reduceNe, Int.cast_ofNat_Int, Int.reduceNeg, reduceCtorEq, ne_eq, ge_iff_le, gt_iff_lt, beq_iff_eq, beq_eq_false_iff_ne, bne_iff_ne, bne_eq_false_iff_eq, nrm, *] at hc) <;> try (exfalso; omega))
| ((with_reducible first | apply retF.r | apply retF.nn); case hv => exact tRS)
| ((refine Call.use (hhd _) ?_))
| ((refine (ws_call h.n pre (x ++ [13, 10]) _ hB (by simp only [List.length_append, List.length_cons, List.length_nil]; omega)).mono fun u h3 hp => ?_); obtain ⟨rfl, hB3, hx3⟩ := hp))
        all_goals exact ⟨i + 1, by omega, _, hE.transX hx3 (fun i hi => hi) (fun t ht => ht.elim), hB3, g4, g10, g11, rfl, by omega, hS2⟩
    · obtain rfl : i = l.length := by omega
      rw [List.drop_length] at hS
      have hS3 : pre ++ [46, 13, 10] = stuffGo l := hS
      have hsc := fun h2 hB => str_call (w0 := w0) h.n (pre ++ [46, 13, 10]) h2 hB (by simp) (by simp only [List.length_append, List.length_cons, List.length_nil]; omega)
      rw [← hS3]
      clear hS hS3
      repeat' (first
| ((with_reducible apply opsF.op rfl); case hs => first | exact tHT | exact tHS)
| (with_reducible first | apply opsF.nil | apply seqF.nn | apply vcF.seq | apply vcF.region | apply vcF.skip | apply vcF.block | apply vcF.exit | apply vcF.ret | apply vcF.loop | apply seqF.e | apply seqF.r | apply blkF.nn | apply blkF.e | apply blkF.r | apply blkF.o rfl)
| ((with_reducible apply opsF.call); case hx => exact tAG)
| ((with_reducible apply vcF.cond); case hx => exact tEV) <;> ((intro hc; try simp only [Int.reduceLT, Int.reduceLE, Int.reduceEq, Int.reduceNe, Int.cast_ofNat_Int, Int.reduceNeg, reduceCtorEq, ne_eq, ge_iff_le, gt_iff_lt, beq_iff_eq, beq_eq_false_iff_ne, bne_iff_ne, bne_eq_false_iff_eq, nrm, *] at hc) <;> try (exfalso; omega))
| ((with_reducible first | apply retF.r | apply retF.nn); case hv => exact tRS)
| ((refine (ws_call h.n pre [46, 13, 10] _ hB (by simp only [List.length_cons, List.length_nil]; omega)).mono fun u h2 hp => ?_); obtain ⟨rfl, hB2, hx2⟩ := hp)
| ((refine Call.use (hsc _ hB2) ?_)))
      all_goals exact ⟨rfl, hE.transX hx2 (fun i hi => hi) (fun t ht => ht.elim)⟩
/-- The document's. -/
theorem stuff_take {l : List L8} {i : Nat} {x : L8} (hx : l[i]? = some x) {pre : L8} (h : pre ++ stuffGo (l.drop i) = stuffGo l) : (pre ++ stuffL x ++ [13, 10]) ++ stuffGo (l.drop (i + 1)) = stuffGo l := by
  rw [← h, stuff_drop hx]; simp
theorem rstuff_call (l : List L8) (tok : Tok) (h : AH) (hb : bodyS l = true) : Call P w0 ref01_Stuff [.list 1 (srows l) tok] h (fun v h' => v = .v (.string (bs (stuffGo l))) ∧ h' = h) := by
  have xl := srows_len
  have xg := srows_get
  have m1 := srows_len l
  have hsz := body_size hb
  have hsl := stuff_len l
  have hlen := bsize_ge l
  refine Call.bodyF b_ref01_Stuff rfl rfl ?_
  unfold c_ref01_Stuff
  repeat' (first
| ((with_reducible apply opsF.op rfl); case hs => first | exact tHT | exact tHS)
| (with_reducible first | apply opsF.nil | apply seqF.nn | apply vcF.seq | apply vcF.region | apply vcF.skip | apply vcF.block | apply vcF.exit | apply vcF.ret | apply vcF.loop | apply seqF.e | apply seqF.r | apply blkF.nn | apply blkF.e | apply blkF.r | apply blkF.o rfl)
| ((with_reducible apply opsF.call); case hx => exact tAG)
| ((with_reducible apply opsF.want); (case hg => exact tEV); case hb => exact tNB)
| ((with_reducible apply opsF.skip); (case hg => exact tEV); case hb => exact tNB)
| (first | ((with_reducible apply opsF.case); case hg => exact tEV) | ((with_reducible apply vcF.cond); case hx => exact tEV)) <;> ((intro hc; try simp only [Int.reduceLT, Int.reduceLE, Int.reduceEq, Int.reduceNe, Int.cast_ofNat_Int, Int.reduceNeg, reduceCtorEq, ne_eq, ge_iff_le, gt_iff_lt, beq_iff_eq, beq_eq_false_iff_ne, bne_iff_ne, bne_eq_false_iff_eq, nrm, *] at hc) <;> try (exfalso; omega))
| ((with_reducible apply opsF.und); case hg => rfl)
| ((with_reducible first | apply retF.r | apply retF.nn); case hv => exact tRS))
  refine LpF.ind rfl (fun i : Nat => l.length - i) (fun i σ hh => ∃ pre : L8, hh = h ∧ σ 0 = .list 1 (srows l) tok ∧ σ 3 = .v (.string (bs pre)) ∧ σ 4 = .v (.int .i64 (i : Nat)) ∧ i ≤ l.length ∧ pre ++ stuffGo (l.drop i) = stuffGo l) ?_ (i := 0) ⟨[], rfl, rfl, rfl, rfl, Nat.zero_le _, rfl⟩
  rintro i σ hh ⟨pre, rfl, g0, g3, g4, hi, hS⟩
  have hpl := congrArg List.length hS
  simp only [List.length_append] at hpl
  rcases Nat.lt_or_ge i l.length with hlt | hge
  · obtain ⟨x, hx⟩ : ∃ x, l[i]? = some x := ⟨_, List.getElem?_eq_getElem hlt⟩
    have rx : (srows l)[i]? = some [.v (.string (bs x))] := by rw [srows_get, hx]; rfl
    have hS2 := stuff_take hx hS
    rw [stuff_drop hx] at hpl
    simp only [List.length_append, List.length_cons, List.length_nil] at hpl
    have hxl : x.length ≤ (stuffL x).length := by unfold stuffL; split <;> simp
    clear hS
    generalize hsx : (stuffL x).length = sx at *
    cases x with
    | nil =>
      rw [show stuffL [] = [] from rfl] at hS2
      repeat' (first
| ((with_reducible apply opsF.op rfl); case hs => first | exact tHT | exact tHS)
| (with_reducible first | apply opsF.nil | apply seqF.nn | apply vcF.seq | apply vcF.region | apply vcF.skip | apply vcF.block | apply vcF.exit | apply vcF.ret | apply vcF.loop | apply seqF.e | apply seqF.r | apply blkF.nn | apply blkF.e | apply blkF.r | apply blkF.o rfl)
| ((with_reducible apply opsF.call); case hx => exact tAG)
| ((with_reducible apply opsF.want); (case hg => exact tEV); case hb => exact tNB)
| ((with_reducible apply opsF.skip); (case hg => exact tEV); case hb => exact tNB)
| (first | ((with_reducible apply opsF.case); case hg => exact tEV) | ((with_reducible apply vcF.cond); case hx => exact tEV)) <;> ((intro hc; try simp only [Int.reduceLT, Int.reduceLE, Int.reduceEq, Int.reduceNe, Int.cast_ofNat_Int, Int.reduceNeg, reduceCtorEq, ne_eq, ge_iff_le, gt_iff_lt, beq_iff_eq, beq_eq_false_iff_ne, bne_iff_ne, bne_eq_false_iff_eq, nrm, *] at hc) <;> try (exfalso; omega))
| ((with_reducible apply opsF.und); case hg => rfl)
| ((with_reducible first | apply retF.r | apply retF.nn); case hv => exact tRS))
      all_goals exact ⟨i + 1, by omega, _, rfl, g0, rfl, rfl, by omega, by first | exact hS2 | (rw [← hS2]; simp)⟩
    | cons c r =>
      simp only [List.length_cons] at hxl
      clear hsx
      by_cases hd : c = 46
      · subst hd
        rw [show stuffL (46 :: r) = 46 :: 46 :: r from rfl] at hS2
        have h46 : (((46 : UInt8).toNat : Nat) : Int) = 46 := rfl
        repeat' (first
| ((with_reducible apply opsF.op rfl); case hs => first | exact tHT | exact tHS)
| (with_reducible first | apply opsF.nil | apply seqF.nn | apply vcF.seq | apply vcF.region | apply vcF.skip | apply vcF.block | apply vcF.exit | apply vcF.ret | apply vcF.loop | apply seqF.e | apply seqF.r | apply blkF.nn | apply blkF.e | apply blkF.r | apply blkF.o rfl)
| ((with_reducible apply opsF.call); case hx => exact tAG)
| ((with_reducible apply opsF.want); (case hg => exact tEV); case hb => exact tNB)
| ((with_reducible apply opsF.skip); (case hg => exact tEV); case hb => exact tNB)
| (first | ((with_reducible apply opsF.case); case hg => exact tEV) | ((with_reducible apply vcF.cond); case hx => exact tEV)) <;> ((intro hc; try simp only [Int.reduceLT, Int.reduceLE, Int.reduceEq, Int.reduceNe, Int.cast_ofNat_Int, Int.reduceNeg, reduceCtorEq, ne_eq, ge_iff_le, gt_iff_lt, beq_iff_eq, beq_eq_false_iff_ne, bne_iff_ne, bne_eq_false_iff_eq, nrm, *] at hc) <;> try (exfalso; omega))
| ((with_reducible apply opsF.und); case hg => rfl)
| ((with_reducible first | apply retF.r | apply retF.nn); case hv => exact tRS))
        all_goals exact ⟨i + 1, by omega, _, rfl, g0, rfl, rfl, by omega, by first | exact hS2 | (rw [← hS2]; simp)⟩
      · rw [show stuffL (c :: r) = c :: r by unfold stuffL; rw [if_neg (by simpa using hd)]] at hS2
        have hn : ¬ ((c.toNat : Nat) : Int) = 46 := fun e => hd (u8_is (y := 46) e)
        repeat' (first
| ((with_reducible apply opsF.op rfl); case hs => first | exact tHT | exact tHS)
| (with_reducible first | apply opsF.nil | apply seqF.nn | apply vcF.seq | apply vcF.region | apply vcF.skip | apply vcF.block | apply vcF.exit | apply vcF.ret | apply vcF.loop | apply seqF.e | apply seqF.r | apply blkF.nn | apply blkF.e | apply blkF.r | apply blkF.o rfl)
| ((with_reducible apply opsF.call); case hx => exact tAG)
| ((with_reducible apply opsF.want); (case hg => exact tEV); case hb => exact tNB)
| ((with_reducible apply opsF.skip); (case hg => exact tEV); case hb => exact tNB)
| (first | ((with_reducible apply opsF.case); case hg => exact tEV) | ((with_reducible apply vcF.cond); case hx => exact tEV)) <;> ((intro hc; try simp only [Int.reduceLT, Int.reduceLE, Int.reduceEq, Int.reduceNe, Int.cast_ofNat_Int, Int.reduceNeg, reduceCtorEq, ne_eq, ge_iff_le, gt_iff_lt, beq_iff_eq, beq_eq_false_iff_ne, bne_iff_ne, bne_eq_false_iff_eq, nrm, *] at hc) <;> try (exfalso; omega))
| ((with_reducible apply opsF.und); case hg => rfl)
| ((with_reducible first | apply retF.r | apply retF.nn); case hv => exact tRS))
        all_goals exact ⟨i + 1, by omega, _, rfl, g0, rfl, rfl, by omega, by first | exact hS2 | (rw [← hS2]; simp)⟩
  · obtain rfl : i = l.length := by omega
    rw [List.drop_length] at hS
    have hS3 : pre ++ [46, 13, 10] = stuffGo l := hS
    rw [← hS3]
    clear hS hS3
    repeat' (first
| ((with_reducible apply opsF.op rfl); case hs => first | exact tHT | exact tHS)
| (with_reducible first | apply opsF.nil | apply seqF.nn | apply vcF.seq | apply vcF.region | apply vcF.skip | apply vcF.block | apply vcF.exit | apply vcF.ret | apply vcF.loop | apply seqF.e | apply seqF.r | apply blkF.nn | apply blkF.e | apply blkF.r | apply blkF.o rfl)
| ((with_reducible apply opsF.call); case hx => exact tAG)
| ((with_reducible apply opsF.want); (case hg => exact tEV); case hb => exact tNB)
| ((with_reducible apply opsF.skip); (case hg => exact tEV); case hb => exact tNB)
| (first | ((with_reducible apply opsF.case); case hg => exact tEV) | ((with_reducible apply vcF.cond); case hx => exact tEV)) <;> ((intro hc; try simp only [Int.reduceLT, Int.reduceLE, Int.reduceEq, Int.reduceNe, Int.cast_ofNat_Int, Int.reduceNeg, reduceCtorEq, ne_eq, ge_iff_le, gt_iff_lt, beq_iff_eq, beq_eq_false_iff_ne, bne_iff_ne, bne_eq_false_iff_eq, nrm, *] at hc) <;> try (exfalso; omega))
| ((with_reducible apply opsF.und); case hg => rfl)
| ((with_reducible first | apply retF.r | apply retF.nn); case hv => exact tRS))
    all_goals exact ⟨rfl, rfl⟩
end Go.Abs.F
/- Layer 7: a new session with the next hop. -/
namespace Go.Abs.F
open Go Go.Abs
set_option maxRecDepth 10000
set_option maxHeartbeats 20000000
set_option linter.unusedSimpArgs false
set_option linter.unusedVariables false
variable {w0 : World}
theorem srows_plain (l : List L8) {tok : Tok} (ht : tok.plain) : Plain (.list 1 (srows l) tok) := by
  refine Plain.listv ht fun r hr x hx => ?_
  simp only [srows, List.mem_map] at hr
  obtain ⟨b, _, rfl⟩ := hr
  rw [List.mem_singleton.1 hx]; exact .v _
theorem sclone_call (l : List L8) (tok : Tok) (h : AH) (hl : l.length ≤ 100000000000) : Call P w0 slices_Clone_string_string [.list 1 (srows l) tok] h (fun v h' => v = .list 1 (srows l) .no ∧ h' = h) := by
  refine Call.pur (srows_plain l trivial) (Call.weak (Q := fun v h' => ∃ tk, v = .list 1 (srows l) tk ∧ Ext h h') ?_ fun v h' ⟨tk, hv, hE⟩ => ⟨_, _, hv ▸ .noTok, .refl _, rfl, hE⟩)
  cases l with
  | nil =>
    refine ⟨⟨_, Go.Proofs.Tryd.func20, by kernel_rfl, by kernel_rfl⟩, fun Γ w us H hv => ?_⟩
    obtain ⟨y1, rfl⟩ : ∃ y1, us = [y1] := by
      have hl := hv.len
      match us, hl with
      | [y1], _ => exact ⟨y1, rfl⟩
    have r1 := hv.at_ 0 (by simp) (by simp)
    simp only [List.getElem_cons_zero] at r1
    obtain ⟨base, c, rfl⟩ : ∃ base c, y1 = .slice base 0 c := by
      cases r1 with
      | _ => exact ⟨_, _, rfl⟩
    refine (Go.Proofs.YtlmgpkopcgcbgaaDoorSlz.sclone_zero base c w).mono fun e w' hh => ?_
    obtain ⟨⟨b', rfl⟩, hb⟩ := hh
    exact ⟨_, Γ, _, h, rfl, .refl Γ, .nilf, H.grown hb, .full, rfl, .refl h⟩
  | cons x l =>
    obtain ⟨tk1, h2, hap, hT2, hT3, hT4, hT5, hT6⟩ := (show TokU h .full from trivial).app
    have xl := srows_len l
    have e : srows (x :: l) = [.v (.string (bs x))] :: srows l := rfl
    rw [e]
    simp at hl
    refine Call.bodyF b_slices_Clone_string_string rfl rfl ?_
    unfold c_slices_Clone_string_string
    repeat' (first
| ((with_reducible apply opsF.op rfl); case hs => first | exact tHT | exact tHS)
| (with_reducible first | apply opsF.nil | apply seqF.nn | apply vcF.seq | apply vcF.region | apply vcF.skip | apply vcF.ret | apply seqF.r)
| ((with_reducible apply opsF.call); case hx => exact tAG)
| ((with_reducible apply vcF.cond); case hx => exact tEV) <;> ((intro hc; try simp only [Int.reduceLT, Int.reduceLE, Int.reduceEq, Int.reduceNe, Int.cast_ofNat_Int, Int.reduceNeg, reduceCtorEq, ne_eq, ge_iff_le, gt_iff_lt, beq_iff_eq, beq_eq_false_iff_ne, bne_iff_ne, bne_eq_false_iff_eq, nrm, *] at hc) <;> try (exfalso; omega))
| ((with_reducible first | apply retF.r | apply retF.nn); case hv => exact tRS)
| ((with_reducible apply opsF.op rfl); (case hs => exact is_app (r := [.v (.string (bs x))]) (new := srows l) tEV tEV rfl hap (by simp only [List.length_nil, List.length_cons]; omega) rfl)))
    all_goals exact ⟨_, rfl, Ext.transX (.refl h) hT6 (fun _ x => x.elim) (fun t ht => by cases ht)⟩
theorem flat_zero : ∀ n : Nat, (List.replicate n [AV.v (.int .i64 0)]).flatten = icel (List.replicate n 0)
  | 0 => rfl
  | n + 1 => by rw [List.replicate_succ, List.flatten_cons, flat_zero n]; rfl
theorem is_mksN {σ : Fm} {h : AH} {x : Opd} {n : Nat} (hx : evF σ x = .v (.int .i64 (n : Nat))) (hb : n ≤ 1000000000000) : istep (.mks 1 8 [.v (.int .i64 0)] x x) (evF σ) h = some (.row h.n 0 n (some n), h.alloc (.cells (icel (List.replicate n 0)))) := by
  simp only [istep, hx]
  rw [if_pos (by omega), Int.toNat_natCast, flat_zero]
/-- What a new session is ahead of its body. -/
def preC (host sndr : L8) (tg : List L8) (body : L8) : CS := { host, sndr, tg, body, wait := [], code := 0, out := [], st := 0, pos := 0, codes := List.replicate tg.length 0, over := false, nls := 0 }
theorem newC_eq (host sndr : L8) (tg body : List L8) : newC host sndr tg body = if bodyS body = true ∧ tg.length ≠ 0 ∧ tg.length ≤ 50 then preC host sndr tg (if bodyS body then stuffGo body else []) else (preC host sndr tg (if bodyS body then stuffGo body else [])).fin 554 := rfl
theorem Fr.fresh {I J : List Nat} {h h1 h2 : AH} (a : Fr J h h1) (b : Fr I h1 h2) (k : ∀ i ∈ I, h.n ≤ i) : Fr J h h2 :=
  ⟨Nat.le_trans a.n b.n, Nat.le_trans a.nt b.nt, fun i hi hn => (b.o i (Nat.lt_of_lt_of_le hi a.n) fun x => by have := k i x; omega).trans (a.o i hi hn)⟩
structure NewP (h : AH) (R : List Tok) (s : CS) (x : CK) (h' : AH) : Prop where
  o : ∃ tt to tl tr, ClO h' x s tt to tl tr ∧ Toks h' (to :: tl :: tr :: R)
  e : Fr [] h h'
  f : ∀ i ∈ x.ids, h.n ≤ i
theorem cnew_call (host sndr : L8) (tg body : List L8) (tt tb : Tok) (R : List Tok) (h : AH) (hT : Toks h R) (hz : tg.length ≤ 1000000) (hbl : body.length ≤ 140737488351232) (hbs : ∀ s ∈ body, s.length ≤ 140737488351232) :
    Call P w0 send_New [.v (.string (bs host)), .v (.string (bs sndr)), .list 1 (srows tg) tt, .list 1 (srows body) tb] h (fun v h' => ∃ x, v = .ptr x.id 0 ∧ NewP h R (newC host sndr tg body) x h') := by
  have hcl := fun h => sclone_call (w0 := w0) tg tt h (by omega)
  have hst := fun h => dstuff_call (w0 := w0) body tb h hbl hbs
  have xl := srows_len tg
  refine Call.bodyF b_send_New rfl rfl ?_
  unfold c_send_New
  repeat' (first
| (refine vcF.cut (a := .dalts _) (fun σ h1 => ∃ x, σ 9 = .ptr x.id 0 ∧ σ 2 = .list 1 (srows tg) tt ∧ σ 3 = .list 1 (srows body) tb ∧ Ext h h1 ∧ ClO h1 x (preC host sndr tg []) .no .full .full .full ∧ ∀ i ∈ x.ids, h.n ≤ i) ?_ ?_)
| ((with_reducible first | apply opsF.op rfl | apply dopsF.op rfl); case hs => first | exact tHT | exact tHS)
| (with_reducible first | apply opsF.nil | apply seqF.nn | apply vcF.seq | apply vcF.region | apply vcF.dregion | apply vcF.dalts | apply dallF.cons | apply dallF.nil | apply vcF.skip | apply vcF.ret | apply seqF.r | apply dopsF.nil | apply stabsF.nil | apply stabsF.cons | apply dopsF.cont)
| ((with_reducible first | apply opsF.call | apply dopsF.call); case hx => exact tAG)
| ((with_reducible first | apply opsF.want | apply dopsF.want | apply stabF.want); (case hg => exact tEV); case hb => exact tNB)
| ((with_reducible first | apply opsF.skip | apply dopsF.skip | apply stabF.skip); (case hg => exact tEV); case hb => exact tNB)
| (first | ((with_reducible first | apply opsF.case | apply dopsF.case); case hg => exact tEV) | ((with_reducible apply vcF.cond); case hx => exact tEV)) <;> ((intro hc; try simp only [Int.reduceLT, Int.reduceLE, Int.reduceEq, Int.reduceNe, Int.cast_ofNat_Int, Int.reduceNeg, reduceCtorEq, ne_eq, ge_iff_le, gt_iff_lt, beq_iff_eq, beq_eq_false_iff_ne, bne_iff_ne, bne_eq_false_iff_eq, nrm, *] at hc) <;> try (exfalso; omega))
| ((with_reducible first | apply opsF.und | apply dopsF.und); case hg => rfl)
| ((with_reducible apply stabF.und); rfl)
| ((with_reducible apply stabF.op); (case hs => first | exact tHT | exact tHS); case hv => exact tSV)
| ((with_reducible first | apply retF.r | apply retF.nn); case hv => exact tRS)
| ((refine Call.use (hcl _) ?_))
| ((refine (lnew_call _).mono fun v h1 hp => ?_); obtain ⟨rfl, rfl⟩ := hp)
| ((refine (reply_New_call _).mono fun v h1 hp => ?_); obtain ⟨rfl, rfl⟩ := hp)
| ((with_reducible apply opsF.op rfl); (case hs => exact is_mksN (n := tg.length) tEV (by omega)))
| ((with_reducible apply dopsF.op rfl); (case hs => exact is_mksN (n := tg.length) tEV (by omega))))
  rotate_right
  · rintro σ h1 ⟨x, g9, g2, g3, hE, G, hf⟩
    have gob := G.o
    unfold ccells at gob
    have T1 := ((hT.ext hE).full.full).full
    rw [newC_eq]
    cases hb : bodyS body with
    | false =>
      rw [hb] at hst
      rw [if_neg (by simp), if_neg (by simp)]
      have S := G.upd (h2 := h1) (s' := preC host sndr tg []) (to' := .full) rfl rfl rfl rfl rfl rfl (fun e => e) rfl
      have hen := cend_call (w0 := w0) x (preC host sndr tg []) .no .full .full .full 554 _ S (by show tg.length ≤ _; omega)
      unfold ccells preC at hen
      unfold preC at gob
      clear hcl
      repeat' (first
| ((with_reducible first | apply opsF.op rfl | apply dopsF.op rfl); case hs => first | exact tHT | exact tHS)
| (with_reducible first | apply opsF.nil | apply seqF.nn | apply vcF.seq | apply vcF.region | apply vcF.dregion | apply vcF.dalts | apply dallF.cons | apply dallF.nil | apply vcF.skip | apply vcF.ret | apply seqF.r | apply dopsF.nil | apply stabsF.nil | apply stabsF.cons | apply dopsF.cont)
| ((with_reducible first | apply opsF.call | apply dopsF.call); case hx => exact tAG)
| ((with_reducible first | apply opsF.want | apply dopsF.want | apply stabF.want); (case hg => exact tEV); case hb => exact tNB)
| ((with_reducible first | apply opsF.skip | apply dopsF.skip | apply stabF.skip); (case hg => exact tEV); case hb => exact tNB)
| (first | ((with_reducible first | apply opsF.case | apply dopsF.case); case hg => exact tEV) | ((with_reducible apply vcF.cond); case hx => exact tEV)) <;> ((intro hc; try simp only [Int.reduceLT, Int.reduceLE, Int.reduceEq, Int.reduceNe, Int.cast_ofNat_Int, Int.reduceNeg, reduceCtorEq, ne_eq, ge_iff_le, gt_iff_lt, beq_iff_eq, beq_eq_false_iff_ne, bne_iff_ne, bne_eq_false_iff_eq, nrm, *] at hc) <;> try (exfalso; omega))
| ((with_reducible first | apply opsF.und | apply dopsF.und); case hg => rfl)
| ((with_reducible apply stabF.und); rfl)
| ((with_reducible apply stabF.op); (case hs => first | exact tHT | exact tHS); case hv => exact tSV)
| ((with_reducible first | apply retF.r | apply retF.nn); case hv => exact tRS)
| ((refine Call.use (hst _) ?_))
| ((refine hen.mono fun v h2 hp => ?_); obtain ⟨H2, hT2, hF2⟩ := hp))
      all_goals exact ⟨x, rfl, ⟨_, _, _, _, H2, hT2 _ T1.set⟩, Fr.fresh (Fr.ext hE) (((Fr.refl x.ids h1).set (.inl (by simp [CK.ids])) _).trans hF2) hf, hf⟩
    | true =>
      rw [hb] at hst
      rw [if_pos rfl]
      have S := G.upd (h2 := h1) (s' := preC host sndr tg (stuffGo body)) (to' := .full) rfl rfl rfl rfl rfl rfl (fun e => e) rfl
      have hen := cend_call (w0 := w0) x (preC host sndr tg (stuffGo body)) .no .full .full .full 554 _ S (by show tg.length ≤ _; omega)
      unfold ccells preC at hen
      unfold preC at gob
      clear hcl
      rw [if_pos rfl] at hst
      repeat' (first
| ((with_reducible first | apply opsF.op rfl | apply dopsF.op rfl); case hs => first | exact tHT | exact tHS)
| (with_reducible first | apply opsF.nil | apply seqF.nn | apply vcF.seq | apply vcF.region | apply vcF.dregion | apply vcF.dalts | apply dallF.cons | apply dallF.nil | apply vcF.skip | apply vcF.ret | apply seqF.r | apply dopsF.nil | apply stabsF.nil | apply stabsF.cons | apply dopsF.cont)
| ((with_reducible first | apply opsF.call | apply dopsF.call); case hx => exact tAG)
| ((with_reducible first | apply opsF.want | apply dopsF.want | apply stabF.want); (case hg => exact tEV); case hb => exact tNB)
| ((with_reducible first | apply opsF.skip | apply dopsF.skip | apply stabF.skip); (case hg => exact tEV); case hb => exact tNB)
| (first | ((with_reducible first | apply opsF.case | apply dopsF.case); case hg => exact tEV) | ((with_reducible apply vcF.cond); case hx => exact tEV)) <;> ((intro hc; try simp only [Int.reduceLT, Int.reduceLE, Int.reduceEq, Int.reduceNe, Int.cast_ofNat_Int, Int.reduceNeg, reduceCtorEq, ne_eq, ge_iff_le, gt_iff_lt, beq_iff_eq, beq_eq_false_iff_ne, bne_iff_ne, bne_eq_false_iff_eq, nrm, *] at hc) <;> try (exfalso; omega))
| ((with_reducible first | apply opsF.und | apply dopsF.und); case hg => rfl)
| ((with_reducible apply stabF.und); rfl)
| ((with_reducible apply stabF.op); (case hs => first | exact tHT | exact tHS); case hv => exact tSV)
| ((with_reducible first | apply retF.r | apply retF.nn); case hv => exact tRS)
| ((refine Call.use (hst _) ?_))
| ((refine hen.mono fun v h2 hp => ?_); obtain ⟨H2, hT2, hF2⟩ := hp))
      all_goals first
        | (rw [if_pos ⟨rfl, by omega, by omega⟩]; exact ⟨x, rfl, ⟨_, _, _, _, S, T1.set⟩, Fr.fresh (Fr.ext hE) ((Fr.refl x.ids h1).set (.inl (by simp [CK.ids])) _) hf, hf⟩)
        | (rw [if_neg (by rintro ⟨_, q1, q2⟩; omega)]; exact ⟨x, rfl, ⟨_, _, _, _, H2, hT2 _ T1.set⟩, Fr.fresh (Fr.ext hE) (((Fr.refl x.ids h1).set (.inl (by simp [CK.ids])) _).trans hF2) hf, hf⟩)
  all_goals first
    | refine ⟨⟨h.n + 3, h.n + 1, h.n + 2, h.n⟩, rfl, rfl, rfl, (by repeat' (first | exact Ext.refl _ | (refine Ext.set ?_ (by first | exact Nat.le_refl _ | (simp only [alloc_n, set_n]; omega) | (simp only [alloc_n, set_n, drop_n]; omega)) _) | (refine Ext.trans ?_ (Ext.alloc _ _)) | (refine Ext.drop ?_ (by simp only [alloc_n, set_n, drop_n]; omega)))), ⟨by (simp (disch := omega) only [alloc_at, alloc_n, if_pos, if_neg, eq_self, if_true, flat_zero]; rfl), ⟨[], by (simp (disch := omega) only [alloc_at, alloc_n, if_pos, if_neg, eq_self, if_true, flat_zero]; rfl), fun _ => rfl⟩, ⟨[], by (simp (disch := omega) only [alloc_at, alloc_n, if_pos, if_neg, eq_self, if_true, flat_zero]; rfl), rfl⟩, by (simp (disch := omega) only [alloc_at, alloc_n, if_pos, if_neg, eq_self, if_true, flat_zero]; rfl), by (simp only [alloc_n]; omega), by (dsimp only; omega), by simp [preC]⟩, by simp [CK.ids]⟩
    | refine ⟨⟨h.n + 3, h.n, h.n + 2, h.n + 1⟩, rfl, rfl, rfl, (by repeat' (first | exact Ext.refl _ | (refine Ext.set ?_ (by first | exact Nat.le_refl _ | (simp only [alloc_n, set_n]; omega) | (simp only [alloc_n, set_n, drop_n]; omega)) _) | (refine Ext.trans ?_ (Ext.alloc _ _)) | (refine Ext.drop ?_ (by simp only [alloc_n, set_n, drop_n]; omega)))), ⟨by (simp (disch := omega) only [alloc_at, alloc_n, if_pos, if_neg, eq_self, if_true, flat_zero]; rfl), ⟨[], by (simp (disch := omega) only [alloc_at, alloc_n, if_pos, if_neg, eq_self, if_true, flat_zero]; rfl), fun _ => rfl⟩, ⟨[], by (simp (disch := omega) only [alloc_at, alloc_n, if_pos, if_neg, eq_self, if_true, flat_zero]; rfl), rfl⟩, by (simp (disch := omega) only [alloc_at, alloc_n, if_pos, if_neg, eq_self, if_true, flat_zero]; rfl), by (simp only [alloc_n]; omega), by (dsimp only; omega), by simp [preC]⟩, by simp [CK.ids]⟩
    | refine ⟨⟨h.n + 3, h.n, h.n + 1, h.n + 2⟩, rfl, rfl, rfl, (by repeat' (first | exact Ext.refl _ | (refine Ext.set ?_ (by first | exact Nat.le_refl _ | (simp only [alloc_n, set_n]; omega) | (simp only [alloc_n, set_n, drop_n]; omega)) _) | (refine Ext.trans ?_ (Ext.alloc _ _)) | (refine Ext.drop ?_ (by simp only [alloc_n, set_n, drop_n]; omega)))), ⟨by (simp (disch := omega) only [alloc_at, alloc_n, if_pos, if_neg, eq_self, if_true, flat_zero]; rfl), ⟨[], by (simp (disch := omega) only [alloc_at, alloc_n, if_pos, if_neg, eq_self, if_true, flat_zero]; rfl), fun _ => rfl⟩, ⟨[], by (simp (disch := omega) only [alloc_at, alloc_n, if_pos, if_neg, eq_self, if_true, flat_zero]; rfl), rfl⟩, by (simp (disch := omega) only [alloc_at, alloc_n, if_pos, if_neg, eq_self, if_true, flat_zero]; rfl), by (simp only [alloc_n]; omega), by (dsimp only; omega), by simp [preC]⟩, by simp [CK.ids]⟩
end Go.Abs.F
/- Layer 7: what a program that does nothing does not answer. -/
namespace Go.Abs.F
open Go Go.Abs
set_option maxRecDepth 10000
set_option maxHeartbeats 20000000
set_option linter.unusedSimpArgs false
set_option linter.unusedVariables false
variable {w0 : World}
/-- All the tokens there are. -/
def allT (h : AH) : List Tok := (List.range h.nt).map fun t => .own t (h.ver t)
theorem allT_toks (h : AH) : Toks h (allT h) := by
  refine ⟨fun t ht => ?_, ?_⟩
  · obtain ⟨i, hi, rfl⟩ := List.mem_map.1 ht
    exact ⟨rfl, by simpa using hi⟩
  · refine List.Pairwise.map _ (R := fun a b => a ≠ b) (fun a b hab x hx hb => ?_) List.nodup_range
    have e1 : some a = some x := hx
    have e2 : some b = some x := hb
    exact hab (by simpa using e1.trans e2.symm)
theorem Ext.ofFr {h h' : AH} {S : List Tok} (f : Fr [] h h') (k : Toks h' (S ++ allT h)) : Ext h h' :=
  ⟨f.n, f.nt, fun i hi => f.o i hi (by simp), fun t ht => by
    have := k.u (.own t (h.ver t)) (List.mem_append_right _ (List.mem_map.2 ⟨t, by simpa using ht, rfl⟩))
    exact this.1.symm⟩
/-! one line, of a reply that is whole -/
theorem feed1 {s : CS} {b a t : L8} {n : Int} (ho : s.over = false) (hw : s.wait = []) (hc : crlfS 512 [] b = ([(1, a)], [])) (h1 : oneS 1 a = some (n, false, t)) (hn : s.nls = 0) (h0 : s.code = 0) : s.feed b = s.take n := by
  have e : ({ s with code := 0, nls := 0 } : CS) = s := by cases s; simp at hn h0; subst hn h0; rfl
  have hl : s.line 1 a = s.take n := by
    unfold CS.line
    rw [h1]
    dsimp only
    rw [if_neg (by rintro ⟨q, _⟩; exact q hn), if_neg (by simp), e]
  have hk : (s.take n).wait = [] := by
    have q := take_wait s n []
    rw [show ({ s with wait := [] } : CS) = s by cases s; simp at hw; subst hw; rfl] at q
    rw [q]
  unfold CS.feed
  rw [if_neg (by rw [ho]; simp), hw, List.nil_append, hc]
  show { (s.lines [(1, a)]) with wait := [] } = _
  rw [CS.lines_cons ho, hl, CS.lines]
  generalize s.take n = q at *
  cases q
  simp at hk
  subst hk
  rfl
theorem crlf_line (a : L8) (ha : (1, a) = lineS 512 a) (hb : cutL (a ++ [13, 10]) = some (a, [])) : crlfS 512 [] (a ++ [13, 10]) = ([(1, a)], []) := by
  rw [crlfS_cut, hb]
  dsimp only
  rw [List.nil_append, ← ha]
  rfl
theorem crlf_220 : crlfS 512 [] [50, 50, 48, 32, 120, 13, 10] = ([(1, [50, 50, 48, 32, 120])], []) := crlf_line [50, 50, 48, 32, 120] (by decide) (by decide)
/-- The session of 'answers', behind the greeting. -/
def ansC : CS := (newC [104] [97, 64, 98] [[99, 64, 100]] []).feed [50, 50, 48, 32, 120, 13, 10]
theorem ansC_eq : ansC = { host := [104], sndr := [97, 64, 98], tg := [[99, 64, 100]], body := [46, 13, 10], wait := [], code := 0, out := [tEHLO ++ [104] ++ [13, 10]], st := 1, pos := 0, codes := [0], over := false, nls := 0 } := by
  unfold ansC
  rw [feed1 (a := [50, 50, 48, 32, 120]) (n := 220) (t := [120]) (by rfl) (by rfl) crlf_220 (by decide) (by rfl) (by rfl)]
  rfl
theorem answers07_call (hM : MaxLen w0) (h : AH) : Call P w0 law07_answers [] h (fun v h' => v = .v (.bool true) ∧ h' = h) := by
  refine Call.pur (.v _) ?_
  have hnew := fun h hT => cnew_call (w0 := w0) [104] [97, 64, 98] [[99, 64, 100]] [] .full .full (allT h) h hT (by simp) (by simp) (by simp)
  have hfd := fun x tt to tl tr h1 C T => cfeed_call hM x (newC [104] [97, 64, 98] [[99, 64, 100]] []) tt to tl tr (allT h) [50, 50, 48, 32, 120, 13, 10] .no h1 C T ⟨by decide, by decide, by decide, by decide⟩ (fun _ => ⟨by decide, by decide, by decide, by decide⟩) (fun _ => by decide) (fun _ => by decide)
  have eA : (newC [104] [97, 64, 98] [[99, 64, 100]] []).feed [50, 50, 48, 32, 120, 13, 10] = ansC := rfl
  rw [eA] at hfd
  have hnx := fun x tt to tl tr h1 C => cNext_some (w0 := w0) x ansC tt to tl tr (tEHLO ++ [104] ++ [13, 10]) [] h1 C (by rw [ansC_eq])
  have hov := fun x tt to tl tr h1 C => cover_call (w0 := w0) x ansC.pop tt to tl tr h1 C
  have hco := fun x tt to tl tr h1 C => ccodes_call (w0 := w0) x ansC.pop tt to tl tr h1 C (by rw [ansC_eq]; decide)
  have o1 : ansC.pop.over = false := by rw [ansC_eq]; rfl
  have o2 : nrow ansC.pop.codes = [[.v (.int .i64 0)]] := by rw [ansC_eq]; rfl
  rw [o1] at hov
  rw [o2] at hco
  generalize ansC = A at *
  generalize ansC.pop = B at *
  have da := drop_at
  have dn := drop_n
  refine Call.bodyF b_law07_answers rfl rfl ?_
  unfold c_law07_answers
  repeat' (first
| ((with_reducible apply opsF.op rfl); case hs => first | exact tHT | exact tHS)
| (with_reducible first | apply opsF.nil | apply seqF.nn | apply vcF.seq | apply vcF.region | apply vcF.skip | apply vcF.ret | apply seqF.r)
| ((with_reducible apply opsF.call); case hx => exact tAG)
| ((with_reducible apply opsF.want); (case hg => exact tEV); case hb => exact tNB)
| ((with_reducible apply opsF.skip); (case hg => exact tEV); case hb => exact tNB)
| (first | ((with_reducible apply opsF.case); case hg => exact tEV) | ((with_reducible apply vcF.cond); case hx => exact tEV)) <;> ((intro hc; try simp only [Int.reduceLT, Int.reduceLE, Int.reduceEq, Int.reduceNe, Int.cast_ofNat_Int, Int.reduceNeg, reduceCtorEq, ne_eq, ge_iff_le, gt_iff_lt, beq_iff_eq, beq_eq_false_iff_ne, bne_iff_ne, bne_eq_false_iff_eq, nrm, *] at hc) <;> try (exfalso; omega))
| ((with_reducible apply opsF.und); case hg => rfl)
| ((with_reducible first | apply retF.r | apply retF.nn); case hv => exact tRS)
| ((refine (hnew _ (allT_toks _)).mono fun v h1 hp => ?_); obtain ⟨x, rfl, N1⟩ := hp; obtain ⟨tt, to, tl, tr, C1, T1⟩ := N1.o; have F1 := N1.e; have I1 := N1.f)
| ((with_reducible apply opsF.op rfl); (case hs => exact is_cvb tEV tHE (by rfl)))
| ((refine (hfd x tt to tl tr _ (C1.ext (by repeat' (first | exact Ext.refl _ | (refine Ext.set ?_ (by first | exact Nat.le_refl _ | (simp only [alloc_n, set_n]; omega) | (simp only [alloc_n, set_n, drop_n]; omega)) _) | (refine Ext.trans ?_ (Ext.alloc _ _)) | (refine Ext.drop ?_ (by first | exact Nat.le_refl _ | (simp only [alloc_n, set_n, drop_n]; omega)))))) (T1.ext (by repeat' (first | exact Ext.refl _ | (refine Ext.set ?_ (by first | exact Nat.le_refl _ | (simp only [alloc_n, set_n]; omega) | (simp only [alloc_n, set_n, drop_n]; omega)) _) | (refine Ext.trans ?_ (Ext.alloc _ _)) | (refine Ext.drop ?_ (by first | exact Nat.le_refl _ | (simp only [alloc_n, set_n, drop_n]; omega))))))).mono fun v h2 hp => ?_); obtain ⟨to2, tl2, tr2, G2⟩ := hp; have C2 := G2.o; have T2 := G2.t; have F2 := G2.f)
| ((refine (hnx x tt to2 tl2 tr2 _ C2).mono fun v h3 hp => ?_); obtain ⟨rfl, C3, T3, F3⟩ := hp)
| ((refine Call.use (hov x tt to2 tl2 tr2 _ C3) ?_))
| ((refine Call.use (hco x tt to2 tl2 tr2 _ C3) ?_)))
  all_goals exact ⟨by simp, Ext.ofFr (S := [to2, tl2, tr2]) (Fr.fresh (Fr.fresh (Fr.fresh F1 (Fr.ext (I := []) (by repeat' (first | exact Ext.refl _ | (refine Ext.set ?_ (by first | exact Nat.le_refl _ | (simp only [alloc_n, set_n]; omega) | (simp only [alloc_n, set_n, drop_n]; omega)) _) | (refine Ext.trans ?_ (Ext.alloc _ _)) | (refine Ext.drop ?_ (by first | exact Nat.le_refl _ | (simp only [alloc_n, set_n, drop_n]; omega)))))) (fun i hi => by simp at hi)) F2 I1) F3 I1) (T3 _ T2)⟩
end Go.Abs.F
/- Layer 7: the document's session: its object; what it says; its end. -/
namespace Go.Abs.F
open Go Go.Abs
set_option maxRecDepth 10000
set_option maxHeartbeats 20000000
set_option linter.unusedSimpArgs false
set_option linter.unusedVariables false
variable {w0 : World}
/-- Where the document's session lies: its object, its codes. -/
structure RK where
  id : Nat
  cid : Nat
def RK.ids (y : RK) : List Nat := [y.id, y.cid]
def rcells (y : RK) (s : CS) (body : List L8) (tt tb tw ts : Tok) (w : L8) (c k : Int) : List AV := [.v (.string (bs s.host)), .v (.string (bs s.sndr)), .list 1 (srows s.tg) tt, .list 1 (srows body) tb, .list 1 (brows w) tw, .v (.int .i64 c), .list 1 (srows s.out) ts, .v (.int .i64 k), .row y.cid 0 s.tg.length (some s.tg.length), .v (.bool s.over)]
structure RcO (h : AH) (y : RK) (s : CS) (body : List L8) (tt tb tw ts : Tok) (w : L8) (c k : Int) : Prop where
  o : h.objs y.id = some (.cells (rcells y s body tt tb tw ts w c k))
  c : h.objs y.cid = some (.cells (icel s.codes))
  lt : y.id < h.n ∧ y.cid < h.n
  ne : y.id ≠ y.cid
  ln : s.codes.length = s.tg.length
theorem RcO.upd {h h2 : AH} {y : RK} {s s' : CS} {body : List L8} {tt tb tw ts tw' ts' : Tok} {w w' : L8} {c c' k k' : Int} (H : RcO h y s body tt tb tw ts w c k) (h4 : h2.objs = h.objs) (h5 : h2.n = h.n) (e3 : s'.codes = s.codes) (e5 : s'.tg = s.tg) :
    RcO (h2.set y.id (.cells (rcells y s' body tt tb tw' ts' w' c' k'))) y s' body tt tb tw' ts' w' c' k' :=
  ⟨by rw [set_at, if_pos rfl], by rw [set_at, if_neg (Ne.symm H.ne), h4, e3]; exact H.c, by rw [set_n, h5]; exact H.lt, H.ne, by rw [e3, e5]; exact H.ln⟩
theorem RcO.fr {h h' : AH} {y : RK} {s : CS} {body : List L8} {tt tb tw ts : Tok} {w : L8} {c k : Int} (H : RcO h y s body tt tb tw ts w c k) {I : List Nat} (e : Fr I h h') (hd : ∀ i ∈ I, ¬ i ∈ y.ids) : RcO h' y s body tt tb tw ts w c k :=
  ⟨(e.o _ H.lt.1 fun hi => hd _ hi (by simp [RK.ids])).trans H.o, (e.o _ H.lt.2 fun hi => hd _ hi (by simp [RK.ids])).trans H.c, ⟨Nat.lt_of_lt_of_le H.lt.1 e.n, Nat.lt_of_lt_of_le H.lt.2 e.n⟩, H.ne, H.ln⟩
/-- The same object, told of another session that is the same to it. -/
theorem RcO.as {h : AH} {y : RK} {s s' : CS} {body : List L8} {tt tb tw ts : Tok} {w : L8} {c k : Int} (H : RcO h y s body tt tb tw ts w c k) (e1 : s'.host = s.host) (e2 : s'.sndr = s.sndr) (e3 : s'.tg = s.tg) (e4 : s'.out = s.out) (e5 : s'.over = s.over) (e6 : s'.codes = s.codes) : RcO h y s' body tt tb tw ts w c k :=
  ⟨by unfold rcells; rw [e1, e2, e3, e4, e5]; exact H.o, by rw [e6]; exact H.c, H.lt, H.ne, by rw [e6, e3]; exact H.ln⟩
theorem rcsay_call (y : RK) (s : CS) (body : List L8) (tt tb tw ts : Tok) (w : L8) (c k : Int) (R : List Tok) (t : L8) (h : AH) (H : RcO h y s body tt tb tw ts w c k) (hT : Toks h (ts :: R)) (ht : t.length ≤ 1000000000000000000) (ho : s.out.length ≤ 1000000000) :
    Call P w0 ref01_Client_say [.ptr y.id 0, .v (.string (bs t))] h (fun v h' => ∃ ts', RcO h' y (s.say t) body tt tb tw ts' w c k ∧ Toks h' (ts' :: R) ∧ Fr y.ids h h') := by
  obtain ⟨to', h2, hap, hT2, h4, h5, h6⟩ := hT.app
  have hob := H.o
  have xl := srows_len
  unfold rcells at hob
  refine Call.bodyF b_ref01_Client_say rfl rfl ?_
  unfold c_ref01_Client_say
  repeat' (first
| ((with_reducible apply opsF.op rfl); case hs => first | exact tHT | exact tHS)
| (with_reducible first | apply opsF.nil | apply seqF.nn | apply vcF.seq | apply vcF.region | apply vcF.skip | apply vcF.ret | apply seqF.r)
| ((with_reducible apply opsF.call); case hx => exact tAG)
| ((with_reducible apply vcF.cond); case hx => exact tEV) <;> ((intro hc; try simp only [Int.reduceLT, Int.reduceLE, Int.reduceEq, Int.reduceNe, Int.cast_ofNat_Int, Int.reduceNeg, reduceCtorEq, ne_eq, ge_iff_le, gt_iff_lt, beq_iff_eq, beq_eq_false_iff_ne, bne_iff_ne, bne_eq_false_iff_eq, nrm, *] at hc) <;> try (exfalso; omega))
| ((with_reducible first | apply retF.r | apply retF.nn); case hv => exact tRS))
  have e : srows (s.say t).out = srows s.out ++ [[.v (.string (bs (t ++ [13, 10])))]] := by
    show srows (s.out ++ [t ++ [13, 10]]) = _
    rw [srows_app]; rfl
  have hU := H.upd (s' := s.say t) (tw' := tw) (ts' := to') (w' := w) (c' := c) (k' := k) h4 h5 rfl rfl
  unfold rcells at hU
  rw [e] at hU
  exact ⟨to', hU, hT2.set, ((Fr.refl y.ids h).app h4 h5 h6).set (.inl (by simp [RK.ids])) _⟩
theorem rcend_call (y : RK) (s : CS) (body : List L8) (tt tb tw ts : Tok) (w : L8) (n k : Int) (c : Int) (h : AH) (H : RcO h y s body tt tb tw ts w n k) (hl : s.tg.length ≤ 140737488351232) :
    Call P w0 ref01_Client_end [.ptr y.id 0, .v (.int .i64 c)] h (fun v h' => RcO h' y (s.fin c) body tt tb tw ts w n k ∧ (∀ ts, Toks h ts → Toks h' ts) ∧ Fr y.ids h h') := by
  have hob := H.o
  have hcb := H.c
  have hln := H.ln
  have n3 := H.ne
  obtain ⟨m1, m4⟩ := H.lt
  unfold rcells at hob
  refine Call.bodyF b_ref01_Client_end rfl rfl ?_
  unfold c_ref01_Client_end
  repeat' (first
| ((with_reducible apply opsF.op rfl); case hs => first | exact tHT | exact tHS)
| (with_reducible first | apply opsF.nil | apply seqF.nn | apply vcF.seq | apply vcF.region | apply vcF.skip | apply vcF.block | apply vcF.exit | apply vcF.ret | apply vcF.loop | apply seqF.e | apply seqF.r | apply blkF.nn | apply blkF.e | apply blkF.r | apply blkF.o rfl)
| ((with_reducible apply opsF.call); case hx => exact tAG)
| ((with_reducible apply vcF.cond); case hx => exact tEV) <;> ((intro hc; try simp only [Int.reduceLT, Int.reduceLE, Int.reduceEq, Int.reduceNe, Int.cast_ofNat_Int, Int.reduceNeg, reduceCtorEq, ne_eq, ge_iff_le, gt_iff_lt, beq_iff_eq, beq_eq_false_iff_ne, bne_iff_ne, bne_eq_false_iff_eq, nrm, *] at hc) <;> try (exfalso; omega))
| ((with_reducible first | apply retF.r | apply retF.nn); case hv => exact tRS))
  refine LpF.ind rfl (fun i : Nat => s.codes.length - i) (fun i σ hh => hh = h.set y.cid (.cells (icel (openC c (s.codes.take i) ++ s.codes.drop i))) ∧ σ 0 = .ptr y.id 0 ∧ σ 1 = .v (.int .i64 c) ∧ σ 4 = .v (.int .i64 (i : Nat)) ∧ i ≤ s.codes.length) ?_ (i := 0)
    ⟨by simp only [List.take_zero, List.drop_zero, openC, List.map_nil, List.nil_append]; exact (set_id hcb).symm, rfl, rfl, rfl, Nat.zero_le _⟩
  rintro i σ hh ⟨rfl, g0, g1, g11, hi⟩
  have hlen : (icel (openC c (s.codes.take i) ++ s.codes.drop i)).length = s.tg.length := by
    rw [icel_len, List.length_append, openC_len, List.length_take, List.length_drop]; omega
  rcases Nat.lt_or_ge i s.codes.length with hlt | hge
  · obtain ⟨n, hn⟩ : ∃ n, s.codes[i]? = some n := ⟨_, List.getElem?_eq_getElem hlt⟩
    have hg : (icel (openC c (s.codes.take i) ++ s.codes.drop i))[i]? = some (.v (.int .i64 n)) := by
      rw [icel_get, List.getElem?_append_right (by rw [openC_len, List.length_take]; omega), openC_len, List.length_take, List.getElem?_drop, show i + (i - min i s.codes.length) = i by omega, hn]
      rfl
    have hnx : icel (openC c (s.codes.take (i + 1)) ++ s.codes.drop (i + 1)) = if n = 0 then (icel (openC c (s.codes.take i) ++ s.codes.drop i)).set i (.v (.int .i64 c)) else icel (openC c (s.codes.take i) ++ s.codes.drop i) := by
      rw [openC_take hn]
      have hd : s.codes.drop i = n :: s.codes.drop (i + 1) := drop_step hn
      rw [hd]
      have hll : (icel (openC c (s.codes.take i))).length = i := by rw [icel_len, openC_len, List.length_take]; omega
      split
      · simp only [icel, List.map_append, List.map_cons] at hll ⊢
        rw [List.set_append_right _ _ (by omega), hll, Nat.sub_self]
        rfl
      · rfl
    generalize icel (openC c (s.codes.take i) ++ s.codes.drop i) = cs at *
    by_cases hz : n = 0
    · rw [if_pos hz] at hnx
      subst hz
      repeat' (first
| ((with_reducible apply opsF.op rfl); (case hs => exact is_load (v := .v (.int .i64 0)) tEV tHE (by simpa [rd] using hg)))
| ((with_reducible apply opsF.op rfl); case hs => first | exact tHT | exact tHS)
| (with_reducible first | apply opsF.nil | apply seqF.nn | apply vcF.seq | apply vcF.region | apply vcF.skip | apply vcF.block | apply vcF.exit | apply vcF.ret | apply vcF.loop | apply seqF.e | apply seqF.r | apply blkF.nn | apply blkF.e | apply blkF.r | apply blkF.o rfl)
| ((with_reducible apply opsF.call); case hx => exact tAG)
| ((with_reducible apply vcF.cond); case hx => exact tEV) <;> ((intro hc; try simp only [Int.reduceLT, Int.reduceLE, Int.reduceEq, Int.reduceNe, Int.cast_ofNat_Int, Int.reduceNeg, reduceCtorEq, ne_eq, ge_iff_le, gt_iff_lt, beq_iff_eq, beq_eq_false_iff_ne, bne_iff_ne, bne_eq_false_iff_eq, nrm, *] at hc) <;> try (exfalso; omega))
| ((with_reducible first | apply retF.r | apply retF.nn); case hv => exact tRS))
      refine ⟨i + 1, by omega, ?_, g0, g1, rfl, by omega⟩
      rw [set_set, hnx]
      congr 2
      simp
    · rw [if_neg hz] at hnx
      repeat' (first
| ((with_reducible apply opsF.op rfl); (case hs => exact is_load (v := .v (.int .i64 n)) tEV tHE (by simpa [rd] using hg)))
| ((with_reducible apply opsF.op rfl); case hs => first | exact tHT | exact tHS)
| (with_reducible first | apply opsF.nil | apply seqF.nn | apply vcF.seq | apply vcF.region | apply vcF.skip | apply vcF.block | apply vcF.exit | apply vcF.ret | apply vcF.loop | apply seqF.e | apply seqF.r | apply blkF.nn | apply blkF.e | apply blkF.r | apply blkF.o rfl)
| ((with_reducible apply opsF.call); case hx => exact tAG)
| ((with_reducible apply vcF.cond); case hx => exact tEV) <;> ((intro hc; try simp only [Int.reduceLT, Int.reduceLE, Int.reduceEq, Int.reduceNe, Int.cast_ofNat_Int, Int.reduceNeg, reduceCtorEq, ne_eq, ge_iff_le, gt_iff_lt, beq_iff_eq, beq_eq_false_iff_ne, bne_iff_ne, bne_eq_false_iff_eq, nrm, *] at hc) <;> try (exfalso; omega))
| ((with_reducible first | apply retF.r | apply retF.nn); case hv => exact tRS))
      exact ⟨i + 1, by omega, by rw [hnx], g0, g1, rfl, by omega⟩
  · obtain rfl : i = s.codes.length := by omega
    rw [List.take_length, List.drop_length, List.append_nil] at *
    repeat' (first
| ((with_reducible apply opsF.op rfl); case hs => first | exact tHT | exact tHS)
| (with_reducible first | apply opsF.nil | apply seqF.nn | apply vcF.seq | apply vcF.region | apply vcF.skip | apply vcF.block | apply vcF.exit | apply vcF.ret | apply vcF.loop | apply seqF.e | apply seqF.r | apply blkF.nn | apply blkF.e | apply blkF.r | apply blkF.o rfl)
| ((with_reducible apply opsF.call); case hx => exact tAG)
| ((with_reducible apply vcF.cond); case hx => exact tEV) <;> ((intro hc; try simp only [Int.reduceLT, Int.reduceLE, Int.reduceEq, Int.reduceNe, Int.cast_ofNat_Int, Int.reduceNeg, reduceCtorEq, ne_eq, ge_iff_le, gt_iff_lt, beq_iff_eq, beq_eq_false_iff_ne, bne_iff_ne, bne_eq_false_iff_eq, nrm, *] at hc) <;> try (exfalso; omega))
| ((with_reducible first | apply retF.r | apply retF.nn); case hv => exact tRS))
    refine ⟨⟨?_, ?_, H.lt, H.ne, by show (openC c s.codes).length = _; rw [openC_len]; exact hln⟩, fun ts ht => ht.set.set, ((Fr.refl y.ids h).set (.inl (by simp [RK.ids])) _).set (.inl (by simp [RK.ids])) _⟩
    · rw [set_at, if_pos rfl]; rfl
    · rw [set_at, if_neg (Ne.symm n3), set_at, if_pos rfl]; rfl
theorem rclost_call (y : RK) (s : CS) (body : List L8) (tt tb tw ts : Tok) (w : L8) (n k : Int) (R : List Tok) (h : AH) (H : RcO h y s body tt tb tw ts w n k) (hT : Toks h (ts :: R)) (hz : s.Sz) :
    Call P w0 ref01_Client_Lost [.ptr y.id 0] h (fun v h' => ∃ ts', RcO h' y s.lost body tt tb tw ts' w n k ∧ Toks h' (ts' :: R) ∧ Fr y.ids h h') := by
  have hob := H.o
  unfold rcells at hob
  refine Call.bodyF b_ref01_Client_Lost rfl rfl ?_
  unfold c_ref01_Client_Lost
  cases hov : s.over with
  | true =>
    have e : s.lost = s := by unfold CS.lost; rw [if_pos hov]
    rw [e]
    rw [hov] at hob
    repeat' (first
| ((with_reducible apply opsF.op rfl); case hs => first | exact tHT | exact tHS)
| (with_reducible first | apply opsF.nil | apply seqF.nn | apply vcF.seq | apply vcF.region | apply vcF.skip | apply vcF.ret | apply seqF.r)
| ((with_reducible apply opsF.call); case hx => exact tAG)
| ((with_reducible apply vcF.cond); case hx => exact tEV) <;> ((intro hc; try simp only [Int.reduceLT, Int.reduceLE, Int.reduceEq, Int.reduceNe, Int.cast_ofNat_Int, Int.reduceNeg, reduceCtorEq, ne_eq, ge_iff_le, gt_iff_lt, beq_iff_eq, beq_eq_false_iff_ne, bne_iff_ne, bne_eq_false_iff_eq, nrm, *] at hc) <;> try (exfalso; omega))
| ((with_reducible first | apply retF.r | apply retF.nn); case hv => exact tRS))
    all_goals exact ⟨ts, H, hT, .refl _ _⟩
  | false =>
    have e : s.lost = { s with out := [] }.fin 421 := by unfold CS.lost; rw [if_neg (by rw [hov]; simp)]; rfl
    rw [e]
    have S := H.upd (h2 := h) (s' := { s with out := [] }) (tw' := tw) (ts' := .full) (w' := w) (c' := n) (k' := k) rfl rfl rfl rfl
    have hF0 : ∀ o, Fr y.ids h (h.set y.id o) := fun o => (Fr.refl y.ids h).set (.inl (by simp [RK.ids])) o
    have hen := rcend_call (w0 := w0) y { s with out := [] } body tt tb tw .full w n k 421 _ S hz.tgl
    unfold rcells at hen
    rw [hov] at hob
    simp only [hov] at hen
    repeat' (first
| ((with_reducible apply opsF.op rfl); case hs => first | exact tHT | exact tHS)
| (with_reducible first | apply opsF.nil | apply seqF.nn | apply vcF.seq | apply vcF.region | apply vcF.skip | apply vcF.ret | apply seqF.r)
| ((with_reducible apply opsF.call); case hx => exact tAG)
| ((with_reducible apply vcF.cond); case hx => exact tEV) <;> ((intro hc; try simp only [Int.reduceLT, Int.reduceLE, Int.reduceEq, Int.reduceNe, Int.cast_ofNat_Int, Int.reduceNeg, reduceCtorEq, ne_eq, ge_iff_le, gt_iff_lt, beq_iff_eq, beq_eq_false_iff_ne, bne_iff_ne, bne_eq_false_iff_eq, nrm, *] at hc) <;> try (exfalso; omega))
| ((with_reducible first | apply retF.r | apply retF.nn); case hv => exact tRS)
| ((refine hen.mono fun v h2 hp => ?_); obtain ⟨H2, hT2, hF2⟩ := hp))
    all_goals exact ⟨.full, H2, hT2 _ hT.full1.set, (hF0 _).trans hF2⟩
end Go.Abs.F
/- Layer 7: the document's session takes a reply. -/
namespace Go.Abs.F
open Go Go.Abs
set_option maxRecDepth 10000
set_option maxHeartbeats 20000000
set_option linter.unusedSimpArgs false
set_option linter.unusedVariables false
variable {w0 : World}
/-- The document's number of where a session is. -/
def rstep (s : CS) : Int := if s.st ≤ 2 then (s.st : Int) else if s.st = 3 then 3 + (s.pos : Int) else if s.st = 4 then -1 else -2
/-- What a step of the document's session gives. -/
structure RcP (y : RK) (s' : CS) (body : List L8) (tt tb tw : Tok) (w : L8) (c : Int) (R : List Tok) (h h' : AH) : Prop where
  o : ∃ ts' k', RcO h' y s' body tt tb tw ts' w c k' ∧ Toks h' (ts' :: R) ∧ (s'.over = false → k' = rstep s')
  f : Fr y.ids h h'
theorem next0 {s : CS} (h : s.st = 0) : s.next = { s with st := 1 }.say (tEHLO ++ s.host) := by cases s; simp at h; subst h; rfl
theorem next1 {s : CS} (h : s.st = 1) : s.next = { s with st := 2 }.say (tMAIL ++ s.sndr ++ [62]) := by cases s; simp at h; subst h; rfl
theorem next2 {s : CS} (h : s.st = 2) : s.next = { s with st := 3 }.say (tRCPT ++ s.tg.headD [] ++ [62]) := by cases s; simp at h; subst h; rfl
theorem next3 {s : CS} (h : s.st = 3) : s.next = { s with st := 4 }.say tDATA := by cases s; simp at h; subst h; rfl
theorem next4 {s : CS} (h : s.st = 4) : s.next = { s with st := 5, out := s.out ++ [s.body] } := by cases s; simp at h; subst h; rfl
theorem rcquit (y : RK) (s : CS) (body : List L8) (tt tb tw ts : Tok) (w : L8) (n k : Int) (R : List Tok) (c : Int) (h : AH) (H : RcO h y s body tt tb tw ts w n k) (hT : Toks h (ts :: R)) (hz : s.Sz) (ho : s.out.length ≤ 999999999) :
    Call P w0 ref01_Client_end [.ptr y.id 0, .v (.int .i64 c)] h (fun v h1 => Call P w0 ref01_Client_say [.ptr y.id 0, .v (.string (bs tQUIT))] h1 (fun v h' => RcP y (s.quit c) body tt tb tw w n R h h')) :=
  (rcend_call y s body tt tb tw ts w n k c h H hz.tgl).mono fun v h1 hp => by
    obtain ⟨H1, hT1, hF1⟩ := hp
    refine (rcsay_call y (s.fin c) body tt tb tw ts w n k R tQUIT h1 H1 (hT1 _ hT) (by decide) (by show s.out.length ≤ _; omega)).mono fun v h2 hp => ?_
    obtain ⟨ts', H2, hT2, hF2⟩ := hp
    exact ⟨⟨ts', k, H2, hT2, fun e => by cases e⟩, hF1.trans hF2⟩
theorem RcO.cods {h : AH} {y : RK} {s : CS} {body : List L8} {tt tb tw ts : Tok} {w : L8} {c k : Int} (H : RcO h y s body tt tb tw ts w c k) (cs : List Int) (hl : cs.length = s.codes.length) : RcO (h.set y.cid (.cells (icel cs))) y { s with codes := cs } body tt tb tw ts w c k :=
  ⟨by rw [set_at, if_neg H.ne]; exact H.o, by rw [set_at, if_pos rfl], H.lt, H.ne, hl.trans H.ln⟩
theorem rctake_n (y : RK) (s : CS) (body : List L8) (tt tb tw ts : Tok) (w : L8) (n : Int) (R : List Tok) (c : Int) (h : AH) (H : RcO h y s body tt tb tw ts w n (rstep s)) (hT : Toks h (ts :: R)) (hz : s.Sz) (hbd : bodyS body = true) (hby : s.body = stuffGo body) (ho : s.out.length ≤ 999999999) (hst : s.st ≤ 5) (hpos : s.st = 3 → s.pos < s.tg.length) (htg : 1 ≤ s.tg.length) (h3 : ¬ s.st = 3) (hp0 : s.st ≤ 2 → s.pos = 0) :
    Call P w0 ref01_Client_take [.ptr y.id 0, .v (.int .i64 c)] h (fun v h' => RcP y (s.take c) body tt tb tw w n R h h') := by
  have hob := H.o
  have hcb := H.c
  have hln := H.ln
  have hq := fun c => rcquit (w0 := w0) y s body tt tb tw ts w n (rstep s) R c h H hT hz ho
  have hsay := fun t ht => rcsay_call (w0 := w0) y s body tt tb tw ts w n (rstep s) R t h H hT ht (by omega)
  have hF0 : ∀ {h1 : AH}, Fr y.ids h h1 → ∀ o, Fr y.ids h (h1.set y.id o) := fun hF o => hF.set (.inl (by simp [RK.ids])) o
  have xl := srows_len s.tg
  have xl2 := srows_len s.out
  have hzh := hz.host
  unfold rcells at hob
  unfold CS.take
  refine Call.bodyF b_ref01_Client_take rfl rfl ?_
  unfold c_ref01_Client_take
  rw [if_neg h3]
  by_cases h5 : s.st = 5
  · have hk : rstep s = -2 := by unfold rstep; rw [h5]; rfl
    have e : (if c ≠ wantC s.st then s.quit c else if s.st = 5 then s.quit 250 else s.next) = s.quit c := by
      by_cases hc : c ≠ wantC s.st
      · rw [if_pos hc]
      · rw [if_neg hc, if_pos h5, show c = 250 by rw [h5] at hc; simpa [wantC] using hc]
    rw [e]
    clear e
    rw [hk] at hob
    have hq1 := hq c
    clear hq hsay
    by_cases hc : c = 250
    · subst hc
      repeat' (first
| ((with_reducible first | apply opsF.op rfl | apply dopsF.op rfl); case hs => first | exact tHT | exact tHS)
| (with_reducible first | apply opsF.nil | apply seqF.nn | apply vcF.seq | apply vcF.region | apply vcF.dregion | apply vcF.skip | apply vcF.block | apply vcF.exit | apply vcF.ret | apply vcF.loop | apply seqF.e | apply seqF.r | apply blkF.nn | apply blkF.e | apply blkF.r | apply blkF.o rfl | apply dopsF.nil | apply stabsF.nil | apply stabsF.cons | apply dopsF.cont)
| ((with_reducible first | apply opsF.call | apply dopsF.call); case hx => exact tAG)
| ((with_reducible first | apply opsF.want | apply dopsF.want | apply stabF.want); (case hg => exact tEV); case hb => exact tNB)
| ((with_reducible first | apply opsF.skip | apply dopsF.skip | apply stabF.skip); (case hg => exact tEV); case hb => exact tNB)
| (first | ((with_reducible first | apply opsF.case | apply dopsF.case); case hg => exact tEV) | ((with_reducible apply vcF.cond); case hx => exact tEV)) <;> ((intro hc; try simp only [Int.reduceLT, Int.reduceLE, Int.reduceEq, Int.reduceNe, Int.cast_ofNat_Int, Int.reduceNeg, reduceCtorEq, ne_eq, ge_iff_le, gt_iff_lt, beq_iff_eq, beq_eq_false_iff_ne, bne_iff_ne, bne_eq_false_iff_eq, nrm, *] at hc) <;> try (exfalso; omega))
| ((with_reducible first | apply opsF.und | apply dopsF.und); case hg => rfl)
| ((with_reducible apply stabF.und); rfl)
| ((with_reducible apply stabF.op); (case hs => first | exact tHT | exact tHS); case hv => exact tSV)
| ((with_reducible first | apply retF.r | apply retF.nn); case hv => exact tRS)
| ((refine hq1.mono fun v h2 hp => ?_); refine hp.mono fun v h3 hp => ?_))
      all_goals exact hp
    · repeat' (first
| ((with_reducible first | apply opsF.op rfl | apply dopsF.op rfl); case hs => first | exact tHT | exact tHS)
| (with_reducible first | apply opsF.nil | apply seqF.nn | apply vcF.seq | apply vcF.region | apply vcF.dregion | apply vcF.skip | apply vcF.block | apply vcF.exit | apply vcF.ret | apply vcF.loop | apply seqF.e | apply seqF.r | apply blkF.nn | apply blkF.e | apply blkF.r | apply blkF.o rfl | apply dopsF.nil | apply stabsF.nil | apply stabsF.cons | apply dopsF.cont)
| ((with_reducible first | apply opsF.call | apply dopsF.call); case hx => exact tAG)
| ((with_reducible first | apply opsF.want | apply dopsF.want | apply stabF.want); (case hg => exact tEV); case hb => exact tNB)
| ((with_reducible first | apply opsF.skip | apply dopsF.skip | apply stabF.skip); (case hg => exact tEV); case hb => exact tNB)
| (first | ((with_reducible first | apply opsF.case | apply dopsF.case); case hg => exact tEV) | ((with_reducible apply vcF.cond); case hx => exact tEV)) <;> ((intro hc; try simp only [Int.reduceLT, Int.reduceLE, Int.reduceEq, Int.reduceNe, Int.cast_ofNat_Int, Int.reduceNeg, reduceCtorEq, ne_eq, ge_iff_le, gt_iff_lt, beq_iff_eq, beq_eq_false_iff_ne, bne_iff_ne, bne_eq_false_iff_eq, nrm, *] at hc) <;> try (exfalso; omega))
| ((with_reducible first | apply opsF.und | apply dopsF.und); case hg => rfl)
| ((with_reducible apply stabF.und); rfl)
| ((with_reducible apply stabF.op); (case hs => first | exact tHT | exact tHS); case hv => exact tSV)
| ((with_reducible first | apply retF.r | apply retF.nn); case hv => exact tRS)
| ((refine hq1.mono fun v h2 hp => ?_); refine hp.mono fun v h3 hp => ?_))
      all_goals exact hp
  · have hne : ∀ c, (if c ≠ wantC s.st then s.quit c else if s.st = 5 then s.quit 250 else s.next) = if c ≠ wantC s.st then s.quit c else s.next := fun c => by rw [if_neg h5]
    rw [hne]
    clear hne
    have hcs : s.st = 0 ∨ s.st = 1 ∨ s.st = 2 ∨ s.st = 4 := by omega
    rcases hcs with h0 | h0 | h0 | h0
    · have hk : rstep s = 0 := by unfold rstep; rw [h0]; rfl
      rw [hk] at hob
      rw [show wantC s.st = 220 by rw [h0]; rfl]
      by_cases hc : c = 220
      · subst hc
        rw [if_neg (by simp), next0 h0]
        have hs1 := hsay (tEHLO ++ s.host) (by have := hz.host; simp [tEHLO]; omega)
        unfold tEHLO at hs1 ⊢
        clear hq hsay
        repeat' (first
| ((with_reducible first | apply opsF.op rfl | apply dopsF.op rfl); case hs => first | exact tHT | exact tHS)
| (with_reducible first | apply opsF.nil | apply seqF.nn | apply vcF.seq | apply vcF.region | apply vcF.dregion | apply vcF.skip | apply vcF.block | apply vcF.exit | apply vcF.ret | apply vcF.loop | apply seqF.e | apply seqF.r | apply blkF.nn | apply blkF.e | apply blkF.r | apply blkF.o rfl | apply dopsF.nil | apply stabsF.nil | apply stabsF.cons | apply dopsF.cont)
| ((with_reducible first | apply opsF.call | apply dopsF.call); case hx => exact tAG)
| ((with_reducible first | apply opsF.want | apply dopsF.want | apply stabF.want); (case hg => exact tEV); case hb => exact tNB)
| ((with_reducible first | apply opsF.skip | apply dopsF.skip | apply stabF.skip); (case hg => exact tEV); case hb => exact tNB)
| (first | ((with_reducible first | apply opsF.case | apply dopsF.case); case hg => exact tEV) | ((with_reducible apply vcF.cond); case hx => exact tEV)) <;> ((intro hc; try simp only [Int.reduceLT, Int.reduceLE, Int.reduceEq, Int.reduceNe, Int.cast_ofNat_Int, Int.reduceNeg, reduceCtorEq, ne_eq, ge_iff_le, gt_iff_lt, beq_iff_eq, beq_eq_false_iff_ne, bne_iff_ne, bne_eq_false_iff_eq, nrm, *] at hc) <;> try (exfalso; omega))
| ((with_reducible first | apply opsF.und | apply dopsF.und); case hg => rfl)
| ((with_reducible apply stabF.und); rfl)
| ((with_reducible apply stabF.op); (case hs => first | exact tHT | exact tHS); case hv => exact tSV)
| ((with_reducible first | apply retF.r | apply retF.nn); case hv => exact tRS)
| ((refine hs1.mono fun v h2 hp => ?_); obtain ⟨ts', H2, hT2, hF2⟩ := hp; have gob := H2.o; unfold rcells at gob))
        all_goals exact ⟨⟨ts', 1, H2.upd (s' := ({ s with st := 1 } : CS).say _) (tw' := tw) (ts' := ts') (w' := w) (c' := n) (k' := 1) rfl rfl rfl rfl, hT2.set, fun _ => rfl⟩, hF0 hF2 _⟩
      · rw [if_pos hc]
        have hq1 := hq c
        clear hq hsay
        repeat' (first
| ((with_reducible first | apply opsF.op rfl | apply dopsF.op rfl); case hs => first | exact tHT | exact tHS)
| (with_reducible first | apply opsF.nil | apply seqF.nn | apply vcF.seq | apply vcF.region | apply vcF.dregion | apply vcF.skip | apply vcF.block | apply vcF.exit | apply vcF.ret | apply vcF.loop | apply seqF.e | apply seqF.r | apply blkF.nn | apply blkF.e | apply blkF.r | apply blkF.o rfl | apply dopsF.nil | apply stabsF.nil | apply stabsF.cons | apply dopsF.cont)
| ((with_reducible first | apply opsF.call | apply dopsF.call); case hx => exact tAG)
| ((with_reducible first | apply opsF.want | apply dopsF.want | apply stabF.want); (case hg => exact tEV); case hb => exact tNB)
| ((with_reducible first | apply opsF.skip | apply dopsF.skip | apply stabF.skip); (case hg => exact tEV); case hb => exact tNB)
| (first | ((with_reducible first | apply opsF.case | apply dopsF.case); case hg => exact tEV) | ((with_reducible apply vcF.cond); case hx => exact tEV)) <;> ((intro hc; try simp only [Int.reduceLT, Int.reduceLE, Int.reduceEq, Int.reduceNe, Int.cast_ofNat_Int, Int.reduceNeg, reduceCtorEq, ne_eq, ge_iff_le, gt_iff_lt, beq_iff_eq, beq_eq_false_iff_ne, bne_iff_ne, bne_eq_false_iff_eq, nrm, *] at hc) <;> try (exfalso; omega))
| ((with_reducible first | apply opsF.und | apply dopsF.und); case hg => rfl)
| ((with_reducible apply stabF.und); rfl)
| ((with_reducible apply stabF.op); (case hs => first | exact tHT | exact tHS); case hv => exact tSV)
| ((with_reducible first | apply retF.r | apply retF.nn); case hv => exact tRS)
| ((refine hq1.mono fun v h2 hp => ?_); refine hp.mono fun v h3 hp => ?_))
        all_goals exact hp
    · have hk : rstep s = 1 := by unfold rstep; rw [h0]; rfl
      rw [hk] at hob
      rw [show wantC s.st = 250 by rw [h0]; rfl]
      by_cases hc : c = 250
      · subst hc
        rw [if_neg (by simp), next1 h0]
        have hs1 := hsay (tMAIL ++ s.sndr ++ [62]) (by have := hz.sndr; simp [tMAIL]; omega)
        unfold tMAIL at hs1 ⊢
        have hzs := hz.sndr
        clear hq hsay
        repeat' (first
| ((with_reducible first | apply opsF.op rfl | apply dopsF.op rfl); case hs => first | exact tHT | exact tHS)
| (with_reducible first | apply opsF.nil | apply seqF.nn | apply vcF.seq | apply vcF.region | apply vcF.dregion | apply vcF.skip | apply vcF.block | apply vcF.exit | apply vcF.ret | apply vcF.loop | apply seqF.e | apply seqF.r | apply blkF.nn | apply blkF.e | apply blkF.r | apply blkF.o rfl | apply dopsF.nil | apply stabsF.nil | apply stabsF.cons | apply dopsF.cont)
| ((with_reducible first | apply opsF.call | apply dopsF.call); case hx => exact tAG)
| ((with_reducible first | apply opsF.want | apply dopsF.want | apply stabF.want); (case hg => exact tEV); case hb => exact tNB)
| ((with_reducible first | apply opsF.skip | apply dopsF.skip | apply stabF.skip); (case hg => exact tEV); case hb => exact tNB)
| (first | ((with_reducible first | apply opsF.case | apply dopsF.case); case hg => exact tEV) | ((with_reducible apply vcF.cond); case hx => exact tEV)) <;> ((intro hc; try simp only [Int.reduceLT, Int.reduceLE, Int.reduceEq, Int.reduceNe, Int.cast_ofNat_Int, Int.reduceNeg, reduceCtorEq, ne_eq, ge_iff_le, gt_iff_lt, beq_iff_eq, beq_eq_false_iff_ne, bne_iff_ne, bne_eq_false_iff_eq, nrm, *] at hc) <;> try (exfalso; omega))
| ((with_reducible first | apply opsF.und | apply dopsF.und); case hg => rfl)
| ((with_reducible apply stabF.und); rfl)
| ((with_reducible apply stabF.op); (case hs => first | exact tHT | exact tHS); case hv => exact tSV)
| ((with_reducible first | apply retF.r | apply retF.nn); case hv => exact tRS)
| ((refine hs1.mono fun v h2 hp => ?_); obtain ⟨ts', H2, hT2, hF2⟩ := hp; have gob := H2.o; unfold rcells at gob))
        all_goals exact ⟨⟨ts', 2, H2.upd (s' := ({ s with st := 2 } : CS).say _) (tw' := tw) (ts' := ts') (w' := w) (c' := n) (k' := 2) rfl rfl rfl rfl, hT2.set, fun _ => rfl⟩, hF0 hF2 _⟩
      · rw [if_pos hc]
        have hq1 := hq c
        clear hq hsay
        repeat' (first
| ((with_reducible first | apply opsF.op rfl | apply dopsF.op rfl); case hs => first | exact tHT | exact tHS)
| (with_reducible first | apply opsF.nil | apply seqF.nn | apply vcF.seq | apply vcF.region | apply vcF.dregion | apply vcF.skip | apply vcF.block | apply vcF.exit | apply vcF.ret | apply vcF.loop | apply seqF.e | apply seqF.r | apply blkF.nn | apply blkF.e | apply blkF.r | apply blkF.o rfl | apply dopsF.nil | apply stabsF.nil | apply stabsF.cons | apply dopsF.cont)
| ((with_reducible first | apply opsF.call | apply dopsF.call); case hx => exact tAG)
| ((with_reducible first | apply opsF.want | apply dopsF.want | apply stabF.want); (case hg => exact tEV); case hb => exact tNB)
| ((with_reducible first | apply opsF.skip | apply dopsF.skip | apply stabF.skip); (case hg => exact tEV); case hb => exact tNB)
| (first | ((with_reducible first | apply opsF.case | apply dopsF.case); case hg => exact tEV) | ((with_reducible apply vcF.cond); case hx => exact tEV)) <;> ((intro hc; try simp only [Int.reduceLT, Int.reduceLE, Int.reduceEq, Int.reduceNe, Int.cast_ofNat_Int, Int.reduceNeg, reduceCtorEq, ne_eq, ge_iff_le, gt_iff_lt, beq_iff_eq, beq_eq_false_iff_ne, bne_iff_ne, bne_eq_false_iff_eq, nrm, *] at hc) <;> try (exfalso; omega))
| ((with_reducible first | apply opsF.und | apply dopsF.und); case hg => rfl)
| ((with_reducible apply stabF.und); rfl)
| ((with_reducible apply stabF.op); (case hs => first | exact tHT | exact tHS); case hv => exact tSV)
| ((with_reducible first | apply retF.r | apply retF.nn); case hv => exact tRS)
| ((refine hq1.mono fun v h2 hp => ?_); refine hp.mono fun v h3 hp => ?_))
        all_goals exact hp
    · have hk : rstep s = 2 := by unfold rstep; rw [h0]; rfl
      rw [hk] at hob
      rw [show wantC s.st = 250 by rw [h0]; rfl]
      by_cases hc : c = 250
      · subst hc
        rw [if_neg (by simp), next2 h0]
        obtain ⟨y0, hy0⟩ : ∃ y0, s.tg[0]? = some y0 := ⟨_, List.getElem?_eq_getElem (by omega)⟩
        have hyl := hz.tgs y0 (List.mem_of_getElem? hy0)
        have hg : (srows s.tg)[0]? = some [.v (.string (bs y0))] := by rw [srows_get, hy0]; rfl
        have hhd : s.tg.headD [] = y0 := by
          cases htg : s.tg with
          | nil => rw [htg] at hy0; cases hy0
          | cons a l => rw [htg] at hy0; simpa using hy0
        rw [hhd]
        have hs1 := hsay (tRCPT ++ y0 ++ [62]) (by simp [tRCPT]; omega)
        unfold tRCPT at hs1 ⊢
        have hp0' := hp0 (by omega)
        clear hq hsay
        repeat' (first
| ((with_reducible first | apply opsF.op rfl | apply dopsF.op rfl); case hs => first | exact tHT | exact tHS)
| (with_reducible first | apply opsF.nil | apply seqF.nn | apply vcF.seq | apply vcF.region | apply vcF.dregion | apply vcF.skip | apply vcF.block | apply vcF.exit | apply vcF.ret | apply vcF.loop | apply seqF.e | apply seqF.r | apply blkF.nn | apply blkF.e | apply blkF.r | apply blkF.o rfl | apply dopsF.nil | apply stabsF.nil | apply stabsF.cons | apply dopsF.cont)
| ((with_reducible first | apply opsF.call | apply dopsF.call); case hx => exact tAG)
| ((with_reducible first | apply opsF.want | apply dopsF.want | apply stabF.want); (case hg => exact tEV); case hb => exact tNB)
| ((with_reducible first | apply opsF.skip | apply dopsF.skip | apply stabF.skip); (case hg => exact tEV); case hb => exact tNB)
| (first | ((with_reducible first | apply opsF.case | apply dopsF.case); case hg => exact tEV) | ((with_reducible apply vcF.cond); case hx => exact tEV)) <;> ((intro hc; try simp only [Int.reduceLT, Int.reduceLE, Int.reduceEq, Int.reduceNe, Int.cast_ofNat_Int, Int.reduceNeg, reduceCtorEq, ne_eq, ge_iff_le, gt_iff_lt, beq_iff_eq, beq_eq_false_iff_ne, bne_iff_ne, bne_eq_false_iff_eq, nrm, *] at hc) <;> try (exfalso; omega))
| ((with_reducible first | apply opsF.und | apply dopsF.und); case hg => rfl)
| ((with_reducible apply stabF.und); rfl)
| ((with_reducible apply stabF.op); (case hs => first | exact tHT | exact tHS); case hv => exact tSV)
| ((with_reducible first | apply retF.r | apply retF.nn); case hv => exact tRS)
| ((refine hs1.mono fun v h2 hp => ?_); obtain ⟨ts', H2, hT2, hF2⟩ := hp; have gob := H2.o; unfold rcells at gob))
        all_goals exact ⟨⟨ts', 3, H2.upd (s' := ({ s with st := 3 } : CS).say _) (tw' := tw) (ts' := ts') (w' := w) (c' := n) (k' := 3) rfl rfl rfl rfl, hT2.set, fun _ => by show 3 = rstep _; unfold rstep; simp [CS.say, hp0']⟩, hF0 hF2 _⟩
      · rw [if_pos hc]
        have hq1 := hq c
        clear hq hsay
        repeat' (first
| ((with_reducible first | apply opsF.op rfl | apply dopsF.op rfl); case hs => first | exact tHT | exact tHS)
| (with_reducible first | apply opsF.nil | apply seqF.nn | apply vcF.seq | apply vcF.region | apply vcF.dregion | apply vcF.skip | apply vcF.block | apply vcF.exit | apply vcF.ret | apply vcF.loop | apply seqF.e | apply seqF.r | apply blkF.nn | apply blkF.e | apply blkF.r | apply blkF.o rfl | apply dopsF.nil | apply stabsF.nil | apply stabsF.cons | apply dopsF.cont)
| ((with_reducible first | apply opsF.call | apply dopsF.call); case hx => exact tAG)
| ((with_reducible first | apply opsF.want | apply dopsF.want | apply stabF.want); (case hg => exact tEV); case hb => exact tNB)
| ((with_reducible first | apply opsF.skip | apply dopsF.skip | apply stabF.skip); (case hg => exact tEV); case hb => exact tNB)
| (first | ((with_reducible first | apply opsF.case | apply dopsF.case); case hg => exact tEV) | ((with_reducible apply vcF.cond); case hx => exact tEV)) <;> ((intro hc; try simp only [Int.reduceLT, Int.reduceLE, Int.reduceEq, Int.reduceNe, Int.cast_ofNat_Int, Int.reduceNeg, reduceCtorEq, ne_eq, ge_iff_le, gt_iff_lt, beq_iff_eq, beq_eq_false_iff_ne, bne_iff_ne, bne_eq_false_iff_eq, nrm, *] at hc) <;> try (exfalso; omega))
| ((with_reducible first | apply opsF.und | apply dopsF.und); case hg => rfl)
| ((with_reducible apply stabF.und); rfl)
| ((with_reducible apply stabF.op); (case hs => first | exact tHT | exact tHS); case hv => exact tSV)
| ((with_reducible first | apply retF.r | apply retF.nn); case hv => exact tRS)
| ((refine hq1.mono fun v h2 hp => ?_); refine hp.mono fun v h3 hp => ?_))
        all_goals exact hp
    · have hk : rstep s = -1 := by unfold rstep; rw [h0]; rfl
      rw [hk] at hob
      rw [show wantC s.st = 354 by rw [h0]; rfl]
      by_cases hc : c = 354
      · subst hc
        rw [if_neg (by simp), next4 h0]
        have hstf := fun h => rstuff_call (w0 := w0) body tb h hbd
        obtain ⟨ts', h2, hap, hT2, h4, h5, h6⟩ := hT.app
        have hS := fun k' => H.upd (s' := { s with st := 5, out := s.out ++ [s.body] }) (tw' := tw) (ts' := ts') (w' := w) (c' := n) (k' := k') h4 h5 rfl rfl
        clear hq hsay
        have e : srows (s.out ++ [s.body]) = srows s.out ++ [[.v (.string (bs (stuffGo body)))]] := by rw [srows_app, hby]; rfl
        have hS2 := hS (-2)
        unfold rcells at hS2
        rw [e] at hS2
        clear hS
        repeat' (first
| ((with_reducible first | apply opsF.op rfl | apply dopsF.op rfl); case hs => first | exact tHT | exact tHS)
| (with_reducible first | apply opsF.nil | apply seqF.nn | apply vcF.seq | apply vcF.region | apply vcF.dregion | apply vcF.skip | apply vcF.block | apply vcF.exit | apply vcF.ret | apply vcF.loop | apply seqF.e | apply seqF.r | apply blkF.nn | apply blkF.e | apply blkF.r | apply blkF.o rfl | apply dopsF.nil | apply stabsF.nil | apply stabsF.cons | apply dopsF.cont)
| ((with_reducible first | apply opsF.call | apply dopsF.call); case hx => exact tAG)
| ((with_reducible first | apply opsF.want | apply dopsF.want | apply stabF.want); (case hg => exact tEV); case hb => exact tNB)
| ((with_reducible first | apply opsF.skip | apply dopsF.skip | apply stabF.skip); (case hg => exact tEV); case hb => exact tNB)
| (first | ((with_reducible first | apply opsF.case | apply dopsF.case); case hg => exact tEV) | ((with_reducible apply vcF.cond); case hx => exact tEV)) <;> ((intro hc; try simp only [Int.reduceLT, Int.reduceLE, Int.reduceEq, Int.reduceNe, Int.cast_ofNat_Int, Int.reduceNeg, reduceCtorEq, ne_eq, ge_iff_le, gt_iff_lt, beq_iff_eq, beq_eq_false_iff_ne, bne_iff_ne, bne_eq_false_iff_eq, nrm, *] at hc) <;> try (exfalso; omega))
| ((with_reducible first | apply opsF.und | apply dopsF.und); case hg => rfl)
| ((with_reducible apply stabF.und); rfl)
| ((with_reducible apply stabF.op); (case hs => first | exact tHT | exact tHS); case hv => exact tSV)
| ((with_reducible first | apply retF.r | apply retF.nn); case hv => exact tRS)
| ((refine Call.use (hstf _) ?_)))
        all_goals refine ⟨⟨ts', -2, ?_, hT2.set.set, fun _ => rfl⟩, hF0 (hF0 ((Fr.refl y.ids h).app h4 h5 h6) _) _⟩
        all_goals rw [set_set]
        all_goals exact hS2
      · rw [if_pos hc]
        have hq1 := hq c
        clear hq hsay
        repeat' (first
| ((with_reducible first | apply opsF.op rfl | apply dopsF.op rfl); case hs => first | exact tHT | exact tHS)
| (with_reducible first | apply opsF.nil | apply seqF.nn | apply vcF.seq | apply vcF.region | apply vcF.dregion | apply vcF.skip | apply vcF.block | apply vcF.exit | apply vcF.ret | apply vcF.loop | apply seqF.e | apply seqF.r | apply blkF.nn | apply blkF.e | apply blkF.r | apply blkF.o rfl | apply dopsF.nil | apply stabsF.nil | apply stabsF.cons | apply dopsF.cont)
| ((with_reducible first | apply opsF.call | apply dopsF.call); case hx => exact tAG)
| ((with_reducible first | apply opsF.want | apply dopsF.want | apply stabF.want); (case hg => exact tEV); case hb => exact tNB)
| ((with_reducible first | apply opsF.skip | apply dopsF.skip | apply stabF.skip); (case hg => exact tEV); case hb => exact tNB)
| (first | ((with_reducible first | apply opsF.case | apply dopsF.case); case hg => exact tEV) | ((with_reducible apply vcF.cond); case hx => exact tEV)) <;> ((intro hc; try simp only [Int.reduceLT, Int.reduceLE, Int.reduceEq, Int.reduceNe, Int.cast_ofNat_Int, Int.reduceNeg, reduceCtorEq, ne_eq, ge_iff_le, gt_iff_lt, beq_iff_eq, beq_eq_false_iff_ne, bne_iff_ne, bne_eq_false_iff_eq, nrm, *] at hc) <;> try (exfalso; omega))
| ((with_reducible first | apply opsF.und | apply dopsF.und); case hg => rfl)
| ((with_reducible apply stabF.und); rfl)
| ((with_reducible apply stabF.op); (case hs => first | exact tHT | exact tHS); case hv => exact tSV)
| ((with_reducible first | apply retF.r | apply retF.nn); case hv => exact tRS)
| ((refine hq1.mono fun v h2 hp => ?_); refine hp.mono fun v h3 hp => ?_))
        all_goals exact hp
end Go.Abs.F
/- Layer 7: the document's session takes a reply to a target. -/
namespace Go.Abs.F
open Go Go.Abs
set_option maxRecDepth 10000
set_option maxHeartbeats 20000000
set_option linter.unusedSimpArgs false
set_option linter.unusedVariables false
variable {w0 : World}
theorem rctake_3 (y : RK) (s : CS) (body : List L8) (tt tb tw ts : Tok) (w : L8) (n : Int) (R : List Tok) (c : Int) (h : AH) (H : RcO h y s body tt tb tw ts w n (rstep s)) (hT : Toks h (ts :: R)) (hz : s.Sz) (hbd : bodyS body = true) (hby : s.body = stuffGo body) (ho : s.out.length ≤ 999999999) (hst : s.st ≤ 5) (hpos : s.st = 3 → s.pos < s.tg.length) (htg : 1 ≤ s.tg.length) (h3 : s.st = 3) (hp0 : s.st ≤ 2 → s.pos = 0) :
    Call P w0 ref01_Client_take [.ptr y.id 0, .v (.int .i64 c)] h (fun v h' => RcP y (s.take c) body tt tb tw w n R h h') := by
  have hob := H.o
  have hcb := H.c
  have hln := H.ln
  have hq := fun c => rcquit (w0 := w0) y s body tt tb tw ts w n (rstep s) R c h H hT hz ho
  have hsay := fun t ht => rcsay_call (w0 := w0) y s body tt tb tw ts w n (rstep s) R t h H hT ht (by omega)
  have hF0 : ∀ {h1 : AH}, Fr y.ids h h1 → ∀ o, Fr y.ids h (h1.set y.id o) := fun hF o => hF.set (.inl (by simp [RK.ids])) o
  have xl := srows_len s.tg
  have xl2 := srows_len s.out
  have hzh := hz.host
  unfold rcells at hob
  unfold CS.take
  refine Call.bodyF b_ref01_Client_take rfl rfl ?_
  unfold c_ref01_Client_take
  rw [if_pos h3, target_eq]
  have hk : rstep s = 3 + (s.pos : Int) := by unfold rstep; rw [h3]; rfl
  rw [hk] at hob
  have hps := hpos h3
  have hicl := icel_len s.codes
  have hgt := hz.tgl
  have hsub : IntKind.i64.wrap (3 + (s.pos : Int) - 3) = s.pos := by rw [w64 (by omega) (by omega)]; omega
  clear hq hsay
  repeat' (first
| (refine vcF.cut (a := .seq (.region _) (.cond (.tmp 28) _ .skip)) (fun σ hh => ∃ H1 : RcO hh y (s.tcode c) body tt tb tw ts w n (3 + (s.pos : Int)), Toks hh (ts :: R) ∧ Fr y.ids h hh ∧ σ 0 = .ptr y.id 0 ∧ σ 5 = .v (.int .i64 (s.pos : Nat)) ∧ σ 4 = .v (.int .i64 (s.tg.length : Nat))) ?_ ?_)
| ((with_reducible first | apply opsF.op rfl | apply dopsF.op rfl); case hs => first | exact tHT | exact tHS)
| (with_reducible first | apply opsF.nil | apply seqF.nn | apply vcF.seq | apply vcF.region | apply vcF.dregion | apply vcF.skip | apply vcF.block | apply vcF.exit | apply vcF.ret | apply vcF.loop | apply seqF.e | apply seqF.r | apply blkF.nn | apply blkF.e | apply blkF.r | apply blkF.o rfl | apply dopsF.nil | apply stabsF.nil | apply stabsF.cons | apply dopsF.cont)
| ((with_reducible first | apply opsF.call | apply dopsF.call); case hx => exact tAG)
| ((with_reducible first | apply opsF.want | apply dopsF.want | apply stabF.want); (case hg => exact tEV); case hb => exact tNB)
| ((with_reducible first | apply opsF.skip | apply dopsF.skip | apply stabF.skip); (case hg => exact tEV); case hb => exact tNB)
| (first | ((with_reducible first | apply opsF.case | apply dopsF.case); case hg => exact tEV) | ((with_reducible apply vcF.cond); case hx => exact tEV)) <;> ((intro hc; try simp only [Int.reduceLT, Int.reduceLE, Int.reduceEq, Int.reduceNe, Int.cast_ofNat_Int, Int.reduceNeg, reduceCtorEq, ne_eq, ge_iff_le, gt_iff_lt, beq_iff_eq, beq_eq_false_iff_ne, bne_iff_ne, bne_eq_false_iff_eq, nrm, *] at hc) <;> try (exfalso; omega))
| ((with_reducible first | apply opsF.und | apply dopsF.und); case hg => rfl)
| ((with_reducible apply stabF.und); rfl)
| ((with_reducible apply stabF.op); (case hs => first | exact tHT | exact tHS); case hv => exact tSV)
| ((with_reducible first | apply retF.r | apply retF.nn); case hv => exact tRS))
  rotate_right
  · rintro σ hh ⟨H1, T1, F1, g0, g5, g4⟩
    have gob := H1.o
    have gcb := H1.c
    unfold rcells at gob
    have hk2 : ∀ k', RcO (hh.set y.id (.cells (rcells y (s.tcode c) body tt tb tw ts w n k'))) y (s.tcode c) body tt tb tw ts w n k' := fun k' => H1.upd (h2 := hh) rfl rfl rfl rfl
    have e1 : (s.tcode c).st = 3 := h3
    have e2 : (s.tcode c).tg = s.tg := rfl
    have e3 : (s.tcode c).pos = s.pos := rfl
    have e4 : (s.tcode c).Sz := ⟨hz.host, hz.sndr, hz.tgs, hz.tgl⟩
    have e5 : (s.tcode c).out.length ≤ 999999999 := ho
    have e6 := H1.ln
    generalize s.tcode c = s1 at *
    obtain ⟨s2, hs2⟩ : ∃ s2 : CS, s2 = { s1 with pos := s1.pos + 1 } := ⟨_, rfl⟩
    have htn : s1.tnext = if s.pos + 1 < s.tg.length then s2.say (tRCPT ++ s.tg.getD (s.pos + 1) [] ++ [62]) else if s1.codes.contains 0 then s2.next else s2.quit 0 := by
      rw [hs2, ← e3, ← e2]; rfl
    rw [htn]
    clear htn
    by_cases hlt : s.pos + 1 < s.tg.length
    · rw [if_pos hlt]
      obtain ⟨t0, ht0⟩ : ∃ t0, s.tg[s.pos + 1]? = some t0 := ⟨_, List.getElem?_eq_getElem hlt⟩
      have hyl := hz.tgs t0 (List.mem_of_getElem? ht0)
      have hgd : s.tg.getD (s.pos + 1) [] = t0 := by simp [List.getD, ht0]
      have hg : (srows s.tg)[s.pos + 1]? = some [.v (.string (bs t0))] := by rw [srows_get, ht0]; rfl
      have hti : ((s.pos : Int) + 1).toNat = s.pos + 1 := by omega
      rw [hgd]
      have sy := fun t ht => rcsay_call (w0 := w0) y s2 body tt tb tw ts w n (3 + (s.pos : Int) + 1) R t _ ((hk2 (3 + (s.pos : Int) + 1)).as (by rw [hs2]) (by rw [hs2]) (by rw [hs2]) (by rw [hs2]) (by rw [hs2]) (by rw [hs2])) T1.set ht (by rw [hs2]; show s1.out.length ≤ _; omega)
      unfold rcells at sy
      have hr : ∀ t, 3 + (s.pos : Int) + 1 = rstep (s2.say t) := fun t => by
        rw [hs2]; unfold rstep CS.say; dsimp only; rw [e1, e3, if_neg (by omega), if_pos rfl]; omega
      clear hpos hp0 hk2 hob hcb hs2
      rw [e2] at gob sy
      repeat' (first
| ((with_reducible apply opsF.op rfl); (case hs => exact is_iaL tEV tEV (by omega) (by rw [hti]; exact hg)))
| ((with_reducible first | apply opsF.op rfl | apply dopsF.op rfl); case hs => first | exact tHT | exact tHS)
| (with_reducible first | apply opsF.nil | apply seqF.nn | apply vcF.seq | apply vcF.region | apply vcF.dregion | apply vcF.skip | apply vcF.block | apply vcF.exit | apply vcF.ret | apply vcF.loop | apply seqF.e | apply seqF.r | apply blkF.nn | apply blkF.e | apply blkF.r | apply blkF.o rfl | apply dopsF.nil | apply stabsF.nil | apply stabsF.cons | apply dopsF.cont)
| ((with_reducible first | apply opsF.call | apply dopsF.call); case hx => exact tAG)
| ((with_reducible first | apply opsF.want | apply dopsF.want | apply stabF.want); (case hg => exact tEV); case hb => exact tNB)
| ((with_reducible first | apply opsF.skip | apply dopsF.skip | apply stabF.skip); (case hg => exact tEV); case hb => exact tNB)
| (first | ((with_reducible first | apply opsF.case | apply dopsF.case); case hg => exact tEV) | ((with_reducible apply vcF.cond); case hx => exact tEV)) <;> ((intro hc; try simp only [Int.reduceLT, Int.reduceLE, Int.reduceEq, Int.reduceNe, Int.cast_ofNat_Int, Int.reduceNeg, reduceCtorEq, ne_eq, ge_iff_le, gt_iff_lt, beq_iff_eq, beq_eq_false_iff_ne, bne_iff_ne, bne_eq_false_iff_eq, nrm, *] at hc) <;> try (exfalso; omega))
| ((with_reducible first | apply opsF.und | apply dopsF.und); case hg => rfl)
| ((with_reducible apply stabF.und); rfl)
| ((with_reducible apply stabF.op); (case hs => first | exact tHT | exact tHS); case hv => exact tSV)
| ((with_reducible first | apply retF.r | apply retF.nn); case hv => exact tRS)
| ((refine (sy _ (by simp <;> omega)).mono fun v h2 hp => ?_); obtain ⟨to', H2, hT2, hF2⟩ := hp))
      all_goals exact ⟨⟨to', _, H2, hT2, fun _ => hr _⟩, (hF0 F1 _).trans hF2⟩
    · rw [if_neg hlt]
      have hl1 : s1.codes.length = s.tg.length := by rw [← e2]; exact e6
      have hge : s.tg.length ≤ s.pos + 1 := by omega
      have hge2 : ¬ ((s.pos : Int) + 1 < (s.tg.length : Int)) := by omega
      have hall : ∀ i, s1.codes.length ≤ i → (s1.codes.take i).contains 0 = false → s1.codes.contains 0 = false := fun i hi hc => by rwa [List.take_of_length_le hi] at hc
      have hi1 := icel_len s1.codes
      have H3 : RcO hh y s2 body tt tb tw ts w n (3 + (s.pos : Int)) := H1.as (by rw [hs2]) (by rw [hs2]) (by rw [hs2]) (by rw [hs2]) (by rw [hs2]) (by rw [hs2])
      have z2 : s2.Sz := by rw [hs2]; exact ⟨e4.host, e4.sndr, e4.tgs, e4.tgl⟩
      have o2 : s2.out.length ≤ 999999999 := by rw [hs2]; exact e5
      have st2 : s2.st = 3 := by rw [hs2]; exact e1
      have H4 : RcO (hh.set y.id (.cells (rcells y s2 body tt tb tw ts w n (-1)))) y s2 body tt tb tw ts w n (-1) := H3.upd (h2 := hh) rfl rfl rfl rfl
      have sq := rcquit (w0 := w0) y s2 body tt tb tw ts w n (3 + (s.pos : Int)) R 0 hh H3 T1 z2 o2
      have sd := rcsay_call (w0 := w0) y s2 body tt tb tw ts w n (-1) R tDATA _ H4 T1.set (by decide) (by omega)
      have hcc : rcells y s2 body tt tb tw ts w n (-1) = rcells y s1 body tt tb tw ts w n (-1) := by rw [hs2]; rfl
      rw [hcc] at sd
      unfold rcells at sd
      clear hpos hp0 hk2 hob hcb hs2 hcc H4 H3
      rw [e2] at gob sd
      repeat' (first
| ((with_reducible first | apply opsF.op rfl | apply dopsF.op rfl); case hs => first | exact tHT | exact tHS)
| (with_reducible first | apply opsF.nil | apply seqF.nn | apply vcF.seq | apply vcF.region | apply vcF.dregion | apply vcF.skip | apply vcF.block | apply vcF.exit | apply vcF.ret | apply vcF.loop | apply seqF.e | apply seqF.r | apply blkF.nn | apply blkF.e | apply blkF.r | apply blkF.o rfl | apply dopsF.nil | apply stabsF.nil | apply stabsF.cons | apply dopsF.cont)
| ((with_reducible first | apply opsF.call | apply dopsF.call); case hx => exact tAG)
| ((with_reducible first | apply opsF.want | apply dopsF.want | apply stabF.want); (case hg => exact tEV); case hb => exact tNB)
| ((with_reducible first | apply opsF.skip | apply dopsF.skip | apply stabF.skip); (case hg => exact tEV); case hb => exact tNB)
| (first | ((with_reducible first | apply opsF.case | apply dopsF.case); case hg => exact tEV) | ((with_reducible apply vcF.cond); case hx => exact tEV)) <;> ((intro hc; try simp only [Int.reduceLT, Int.reduceLE, Int.reduceEq, Int.reduceNe, Int.cast_ofNat_Int, Int.reduceNeg, reduceCtorEq, ne_eq, ge_iff_le, gt_iff_lt, beq_iff_eq, beq_eq_false_iff_ne, bne_iff_ne, bne_eq_false_iff_eq, nrm, *] at hc) <;> try (exfalso; omega))
| ((with_reducible first | apply opsF.und | apply dopsF.und); case hg => rfl)
| ((with_reducible apply stabF.und); rfl)
| ((with_reducible apply stabF.op); (case hs => first | exact tHT | exact tHS); case hv => exact tSV)
| ((with_reducible first | apply retF.r | apply retF.nn); case hv => exact tRS))
      refine LpF.ind rfl (fun i : Nat => s.tg.length - i) (fun i σ h5 => h5 = hh ∧ σ 0 = .ptr y.id 0 ∧ σ 4 = .v (.int .i64 (s.tg.length : Nat)) ∧ σ 6 = .v (.int .i64 (i : Nat)) ∧ i ≤ s.tg.length ∧ (s1.codes.take i).contains 0 = false) ?_ (i := 0) ⟨rfl, g0, g4, rfl, Nat.zero_le _, rfl⟩
      rintro i σ2 h5 ⟨rfl, q0, q4, q6, hi, hc0⟩
      rcases Nat.lt_or_ge i s.tg.length with hil | hig
      · obtain ⟨x, hx⟩ : ∃ x, s1.codes[i]? = some x := ⟨_, List.getElem?_eq_getElem (by omega)⟩
        have hg : (icel s1.codes)[i]? = some (.v (.int .i64 x)) := by rw [icel_get, hx]; rfl
        by_cases hz0 : x = 0
        · subst hz0
          have hin : s1.codes.contains 0 = true := by simpa using List.mem_of_getElem? hx
          rw [if_pos hin, next3 st2]
          unfold tDATA at sd ⊢
          clear hc0 hin sq
          repeat' (first
| ((with_reducible apply opsF.op rfl); (case hs => exact is_load (v := .v (.int .i64 0)) tEV tHE (by simpa [rd] using hg)))
| ((with_reducible first | apply opsF.op rfl | apply dopsF.op rfl); case hs => first | exact tHT | exact tHS)
| (with_reducible first | apply opsF.nil | apply seqF.nn | apply vcF.seq | apply vcF.region | apply vcF.dregion | apply vcF.skip | apply vcF.block | apply vcF.exit | apply vcF.ret | apply vcF.loop | apply seqF.e | apply seqF.r | apply blkF.nn | apply blkF.e | apply blkF.r | apply blkF.o rfl | apply dopsF.nil | apply stabsF.nil | apply stabsF.cons | apply dopsF.cont)
| ((with_reducible first | apply opsF.call | apply dopsF.call); case hx => exact tAG)
| ((with_reducible first | apply opsF.want | apply dopsF.want | apply stabF.want); (case hg => exact tEV); case hb => exact tNB)
| ((with_reducible first | apply opsF.skip | apply dopsF.skip | apply stabF.skip); (case hg => exact tEV); case hb => exact tNB)
| (first | ((with_reducible first | apply opsF.case | apply dopsF.case); case hg => exact tEV) | ((with_reducible apply vcF.cond); case hx => exact tEV)) <;> ((intro hc; try simp only [Int.reduceLT, Int.reduceLE, Int.reduceEq, Int.reduceNe, Int.cast_ofNat_Int, Int.reduceNeg, reduceCtorEq, ne_eq, ge_iff_le, gt_iff_lt, beq_iff_eq, beq_eq_false_iff_ne, bne_iff_ne, bne_eq_false_iff_eq, nrm, *] at hc) <;> try (exfalso; omega))
| ((with_reducible first | apply opsF.und | apply dopsF.und); case hg => rfl)
| ((with_reducible apply stabF.und); rfl)
| ((with_reducible apply stabF.op); (case hs => first | exact tHT | exact tHS); case hv => exact tSV)
| ((with_reducible first | apply retF.r | apply retF.nn); case hv => exact tRS)
| ((refine sd.mono fun v h2 hp => ?_); obtain ⟨to', H2, hT2, hF2⟩ := hp))
          all_goals exact ⟨⟨to', -1, H2.as rfl rfl rfl rfl rfl rfl, hT2, fun _ => rfl⟩, (hF0 F1 _).trans hF2⟩
        · have hnx : (s1.codes.take (i + 1)).contains 0 = false := by
            rw [List.take_add_one, hx]
            simp only [Option.toList_some, List.contains_eq_mem, List.mem_append, List.mem_singleton, decide_eq_false_iff_not] at hc0 ⊢
            rintro (h1 | h1)
            · exact hc0 h1
            · exact hz0 h1.symm
          clear hc0 sq sd
          repeat' (first
| ((with_reducible apply opsF.op rfl); (case hs => exact is_load (v := .v (.int .i64 x)) tEV tHE (by simpa [rd] using hg)))
| ((with_reducible first | apply opsF.op rfl | apply dopsF.op rfl); case hs => first | exact tHT | exact tHS)
| (with_reducible first | apply opsF.nil | apply seqF.nn | apply vcF.seq | apply vcF.region | apply vcF.dregion | apply vcF.skip | apply vcF.block | apply vcF.exit | apply vcF.ret | apply vcF.loop | apply seqF.e | apply seqF.r | apply blkF.nn | apply blkF.e | apply blkF.r | apply blkF.o rfl | apply dopsF.nil | apply stabsF.nil | apply stabsF.cons | apply dopsF.cont)
| ((with_reducible first | apply opsF.call | apply dopsF.call); case hx => exact tAG)
| ((with_reducible first | apply opsF.want | apply dopsF.want | apply stabF.want); (case hg => exact tEV); case hb => exact tNB)
| ((with_reducible first | apply opsF.skip | apply dopsF.skip | apply stabF.skip); (case hg => exact tEV); case hb => exact tNB)
| (first | ((with_reducible first | apply opsF.case | apply dopsF.case); case hg => exact tEV) | ((with_reducible apply vcF.cond); case hx => exact tEV)) <;> ((intro hc; try simp only [Int.reduceLT, Int.reduceLE, Int.reduceEq, Int.reduceNe, Int.cast_ofNat_Int, Int.reduceNeg, reduceCtorEq, ne_eq, ge_iff_le, gt_iff_lt, beq_iff_eq, beq_eq_false_iff_ne, bne_iff_ne, bne_eq_false_iff_eq, nrm, *] at hc) <;> try (exfalso; omega))
| ((with_reducible first | apply opsF.und | apply dopsF.und); case hg => rfl)
| ((with_reducible apply stabF.und); rfl)
| ((with_reducible apply stabF.op); (case hs => first | exact tHT | exact tHS); case hv => exact tSV)
| ((with_reducible first | apply retF.r | apply retF.nn); case hv => exact tRS))
          all_goals exact ⟨i + 1, by omega, rfl, q0, q4, rfl, by omega, hnx⟩
      · rw [if_neg (by rw [hall i (by omega) hc0]; simp)]
        clear hc0 sd
        repeat' (first
| ((with_reducible first | apply opsF.op rfl | apply dopsF.op rfl); case hs => first | exact tHT | exact tHS)
| (with_reducible first | apply opsF.nil | apply seqF.nn | apply vcF.seq | apply vcF.region | apply vcF.dregion | apply vcF.skip | apply vcF.block | apply vcF.exit | apply vcF.ret | apply vcF.loop | apply seqF.e | apply seqF.r | apply blkF.nn | apply blkF.e | apply blkF.r | apply blkF.o rfl | apply dopsF.nil | apply stabsF.nil | apply stabsF.cons | apply dopsF.cont)
| ((with_reducible first | apply opsF.call | apply dopsF.call); case hx => exact tAG)
| ((with_reducible first | apply opsF.want | apply dopsF.want | apply stabF.want); (case hg => exact tEV); case hb => exact tNB)
| ((with_reducible first | apply opsF.skip | apply dopsF.skip | apply stabF.skip); (case hg => exact tEV); case hb => exact tNB)
| (first | ((with_reducible first | apply opsF.case | apply dopsF.case); case hg => exact tEV) | ((with_reducible apply vcF.cond); case hx => exact tEV)) <;> ((intro hc; try simp only [Int.reduceLT, Int.reduceLE, Int.reduceEq, Int.reduceNe, Int.cast_ofNat_Int, Int.reduceNeg, reduceCtorEq, ne_eq, ge_iff_le, gt_iff_lt, beq_iff_eq, beq_eq_false_iff_ne, bne_iff_ne, bne_eq_false_iff_eq, nrm, *] at hc) <;> try (exfalso; omega))
| ((with_reducible first | apply opsF.und | apply dopsF.und); case hg => rfl)
| ((with_reducible apply stabF.und); rfl)
| ((with_reducible apply stabF.op); (case hs => first | exact tHT | exact tHS); case hv => exact tSV)
| ((with_reducible first | apply retF.r | apply retF.nn); case hv => exact tRS)
| ((refine sq.mono fun v h2 hp1 => ?_))
| ((refine hp1.mono fun v h3 hp => ?_)))
        all_goals exact ⟨hp.o, F1.trans hp.f⟩
  all_goals first
    | (have e : s.tcode c = { s with codes := s.codes.set s.pos c } := by
         simp only [CS.tcode]
         rw [if_pos ⟨by assumption, by assumption⟩]
       have e2 : (icel s.codes).set (0 + s.pos * 1) (.v (.int .i64 c)) = icel (s.codes.set s.pos c) := by
         simp [icel, List.map_set]
       rw [e, e2]
       exact ⟨hk ▸ H.cods _ (by simp), hT.set, (Fr.refl y.ids h).set (.inl (by simp [RK.ids])) _, rfl, (by show AV.v (.int .i64 (IntKind.i64.wrap (3 + (s.pos : Int) - 3))) = _; rw [hsub]), rfl⟩)
    | (have e : s.tcode c = s := by
         simp only [CS.tcode]
         rw [if_neg (by rintro ⟨a, b⟩; first | exact a (by omega) | exact b (by omega))]
       rw [e]
       exact ⟨hk ▸ H, hT, .refl _ _, rfl, (by show AV.v (.int .i64 (IntKind.i64.wrap (3 + (s.pos : Int) - 3))) = _; rw [hsub]), rfl⟩)
theorem rctake_call (y : RK) (s : CS) (body : List L8) (tt tb tw ts : Tok) (w : L8) (n : Int) (R : List Tok) (c : Int) (h : AH) (H : RcO h y s body tt tb tw ts w n (rstep s)) (hT : Toks h (ts :: R)) (hz : s.Sz) (hbd : bodyS body = true) (hby : s.body = stuffGo body) (ho : s.out.length ≤ 999999999) (hok : s.Ok2) :
    Call P w0 ref01_Client_take [.ptr y.id 0, .v (.int .i64 c)] h (fun v h' => RcP y (s.take c) body tt tb tw w n R h h') := by
  by_cases h3 : s.st = 3
  · exact rctake_3 y s body tt tb tw ts w n R c h H hT hz hbd hby ho hok.st hok.p3 hok.tg h3 hok.p2
  · exact rctake_n y s body tt tb tw ts w n R c h H hT hz hbd hby ho hok.st hok.p3 hok.tg h3 hok.p2
end Go.Abs.F
/- Layer 7: the document's session: a new one; bytes come. -/
namespace Go.Abs.F
open Go Go.Abs
set_option maxRecDepth 10000
set_option maxHeartbeats 20000000
set_option linter.unusedSimpArgs false
set_option linter.unusedVariables false
variable {w0 : World}
/-- What a session that is not over has. -/
structure RcK (s : CS) (body : List L8) (w : L8) (c k : Int) : Prop where
  w : w = s.wait
  c : c = s.code
  k : k = rstep s
  n : s.nls = 0 ↔ s.code = 0
  b : bodyS body = true
  y : s.body = stuffGo body
structure RcL (h : AH) (y : RK) (s : CS) (body : List L8) (tt tb tw ts : Tok) : Prop where
  k : ∃ w c k, RcO h y s body tt tb tw ts w c k ∧ (s.over = false → RcK s body w c k)
structure NewR (h : AH) (R : List Tok) (s : CS) (body : List L8) (tt tb : Tok) (y : RK) (h' : AH) : Prop where
  o : ∃ tw ts, RcL h' y s body tt tb tw ts ∧ Toks h' (tw :: ts :: R)
  e : Fr [] h h'
  f : ∀ i ∈ y.ids, h.n ≤ i
theorem rcnew_call (host sndr : L8) (tg body : List L8) (tt tb : Tok) (R : List Tok) (h : AH) (hT : Toks h R) (hz : tg.length ≤ 1000000) (hbl : body.length ≤ 140737488351232) (hbs : ∀ s ∈ body, s.length ≤ 140737488351232) :
    Call P w0 ref01_NewClient [.v (.string (bs host)), .v (.string (bs sndr)), .list 1 (srows tg) tt, .list 1 (srows body) tb] h (fun v h' => ∃ y, v = .ptr y.id 0 ∧ NewR h R (newC host sndr tg body) body tt tb y h') := by
  have hst := fun h => rgood_call (w0 := w0) body tb h hbl hbs
  have xl := srows_len tg
  obtain ⟨h1, hh1⟩ : ∃ h1, h1 = (h.alloc (.cells (icel (List.replicate tg.length 0)))).alloc (.cells [.v (.string (bs host)), .v (.string (bs sndr)), .list 1 (srows tg) tt, .list 1 (srows body) tb, .list 1 [] .full, .v (.int .i64 0), .list 1 [] .full, .v (.int .i64 0), .row h.n 0 tg.length (some tg.length), .v (.bool false)]) := ⟨_, rfl⟩
  have H0 : ∀ B, RcO h1 ⟨h.n + 1, h.n⟩ (preC host sndr tg B) body tt tb .full .full [] 0 0 := fun B => by
    subst hh1
    exact ⟨by (simp (disch := omega) only [alloc_at, alloc_n, if_pos, if_neg, eq_self, if_true]; rfl), by (simp (disch := omega) only [alloc_at, alloc_n, if_pos, if_neg, eq_self, if_true]; rfl), by (simp only [alloc_n]; omega), by (dsimp only; omega), by simp [preC]⟩
  have E0 : Ext h h1 := by subst hh1; exact (Ext.alloc _ _).trans (Ext.alloc _ _)
  have T0 := ((hT.ext E0).full).full
  have hen := fun B => rcend_call (w0 := w0) ⟨h.n + 1, h.n⟩ (preC host sndr tg B) body tt tb .full .full [] 0 0 554 _ (H0 B) (by show tg.length ≤ _; omega)
  rw [newC_eq]
  have I0 : ∀ i ∈ RK.ids ⟨h.n + 1, h.n⟩, h.n ≤ i := by simp [RK.ids]
  cases hb : bodyS body with
  | false =>
    rw [hb] at hst
    rw [if_neg (by simp), if_neg (by simp)]
    have hen1 := hen []
    clear hen
    subst hh1
    refine Call.bodyF b_ref01_NewClient rfl rfl ?_
    unfold c_ref01_NewClient
    repeat' (first
| ((with_reducible apply opsF.op rfl); (case hs => exact is_mksN (n := tg.length) tEV (by omega)))
| ((with_reducible apply opsF.op rfl); case hs => first | exact tHT | exact tHS)
| (with_reducible first | apply opsF.nil | apply seqF.nn | apply vcF.seq | apply vcF.region | apply vcF.skip | apply vcF.ret | apply seqF.r)
| ((with_reducible apply opsF.call); case hx => exact tAG)
| ((with_reducible apply opsF.want); (case hg => exact tEV); case hb => exact tNB)
| ((with_reducible apply opsF.skip); (case hg => exact tEV); case hb => exact tNB)
| (first | ((with_reducible apply opsF.case); case hg => exact tEV) | ((with_reducible apply vcF.cond); case hx => exact tEV)) <;> ((intro hc; try simp only [Int.reduceLT, Int.reduceLE, Int.reduceEq, Int.reduceNe, Int.cast_ofNat_Int, Int.reduceNeg, reduceCtorEq, ne_eq, ge_iff_le, gt_iff_lt, beq_iff_eq, beq_eq_false_iff_ne, bne_iff_ne, bne_eq_false_iff_eq, nrm, *] at hc) <;> try (exfalso; omega))
| ((with_reducible apply opsF.und); case hg => rfl)
| ((with_reducible first | apply retF.r | apply retF.nn); case hv => exact tRS)
| ((refine Call.use (hst _) ?_))
| ((refine hen1.mono fun v h2 hp => ?_); obtain ⟨H2, hT2, hF2⟩ := hp))
    all_goals exact ⟨⟨h.n + 1, h.n⟩, rfl, ⟨_, _, ⟨⟨_, _, _, H2, fun e => by cases e⟩⟩, hT2 _ T0⟩, Fr.fresh (Fr.ext E0) hF2 I0, I0⟩
  | true =>
    rw [hb] at hst
    rw [if_pos rfl]
    have hen1 := hen (stuffGo body)
    have H1 := H0 (stuffGo body)
    clear hen H0
    subst hh1
    refine Call.bodyF b_ref01_NewClient rfl rfl ?_
    unfold c_ref01_NewClient
    repeat' (first
| ((with_reducible apply opsF.op rfl); (case hs => exact is_mksN (n := tg.length) tEV (by omega)))
| ((with_reducible apply opsF.op rfl); case hs => first | exact tHT | exact tHS)
| (with_reducible first | apply opsF.nil | apply seqF.nn | apply vcF.seq | apply vcF.region | apply vcF.skip | apply vcF.ret | apply seqF.r)
| ((with_reducible apply opsF.call); case hx => exact tAG)
| ((with_reducible apply opsF.want); (case hg => exact tEV); case hb => exact tNB)
| ((with_reducible apply opsF.skip); (case hg => exact tEV); case hb => exact tNB)
| (first | ((with_reducible apply opsF.case); case hg => exact tEV) | ((with_reducible apply vcF.cond); case hx => exact tEV)) <;> ((intro hc; try simp only [Int.reduceLT, Int.reduceLE, Int.reduceEq, Int.reduceNe, Int.cast_ofNat_Int, Int.reduceNeg, reduceCtorEq, ne_eq, ge_iff_le, gt_iff_lt, beq_iff_eq, beq_eq_false_iff_ne, bne_iff_ne, bne_eq_false_iff_eq, nrm, *] at hc) <;> try (exfalso; omega))
| ((with_reducible apply opsF.und); case hg => rfl)
| ((with_reducible first | apply retF.r | apply retF.nn); case hv => exact tRS)
| ((refine Call.use (hst _) ?_))
| ((refine hen1.mono fun v h2 hp => ?_); obtain ⟨H2, hT2, hF2⟩ := hp))
    all_goals first
      | (rw [if_pos ⟨rfl, by omega, by omega⟩]; exact ⟨⟨h.n + 1, h.n⟩, rfl, ⟨_, _, ⟨⟨_, _, _, H1, fun e => ⟨rfl, rfl, rfl, ⟨fun _ => rfl, fun _ => rfl⟩, hb, rfl⟩⟩⟩, T0⟩, Fr.ext E0, I0⟩)
      | (rw [if_neg (by rintro ⟨_, q1, q2⟩; omega)]; exact ⟨⟨h.n + 1, h.n⟩, rfl, ⟨_, _, ⟨⟨_, _, _, H2, fun e => by cases e⟩⟩, hT2 _ T0⟩, Fr.fresh (Fr.ext E0) hF2 I0, I0⟩)
/-! the first end of a line, looked for from a place on -/
def cutAt (w : L8) (i : Nat) : Option (L8 × L8) := (cutL (w.drop i)).map fun p => (w.take i ++ p.1, p.2)
theorem cutAt_zero (w : L8) : cutAt w 0 = cutL w := by
  unfold cutAt
  rw [List.drop_zero]
  cases cutL w <;> simp
theorem cutAt_end {w : L8} {i : Nat} (h : w.length ≤ i + 1) : cutAt w i = none := by
  unfold cutAt
  have hl : (w.drop i).length ≤ 1 := by rw [List.length_drop]; omega
  match w.drop i, hl with
  | [], _ => rfl
  | [x], _ => rfl
theorem drop_two {w : L8} {i : Nat} {x y : UInt8} (hx : w[i]? = some x) (hy : w[i + 1]? = some y) : w.drop i = x :: y :: w.drop (i + 2) := by
  rw [drop_step hx, drop_step hy]
theorem cutAt_hit {w : L8} {i : Nat} (hx : w[i]? = some 13) (hy : w[i + 1]? = some 10) : cutAt w i = some (w.take i, w.drop (i + 2)) := by
  unfold cutAt
  rw [drop_two hx hy, cutL, if_pos ⟨rfl, rfl⟩]
  simp
theorem cutAt_miss {w : L8} {i : Nat} {x y : UInt8} (hx : w[i]? = some x) (hy : w[i + 1]? = some y) (h : ¬ (x = 13 ∧ y = 10)) : cutAt w i = cutAt w (i + 1) := by
  unfold cutAt
  rw [drop_two hx hy, cutL, if_neg h, ← drop_step hy, List.take_add_one, hx]
  cases cutL (w.drop (i + 1)) with
  | none => rfl
  | some p => simp
theorem appB_all {h : AH} {tk : Tok} {R : List Tok} (hT : Toks h (tk :: R)) (L S : L8) (hl : L.length + S.length ≤ 100000000000) : ∃ tk1 h2, (∀ (σ : Fm) (x y : Opd) (tok : Tok), evF σ x = .list 1 (brows L) tk → evF σ y = .list 1 (brows S) tok → istep (.app 1 1 x y) (evF σ) h = some (.list 1 (brows (L ++ S)) tk1, h2)) ∧ Toks h2 (tk1 :: R) ∧ h2.objs = h.objs ∧ h2.n = h.n ∧ h.nt ≤ h2.nt := by
  cases S with
  | nil => exact ⟨tk, h, fun σ x y tok hx hy => by rw [List.append_nil]; exact is_app0 hx hy rfl, hT, rfl, rfl, Nat.le_refl _⟩
  | cons a S =>
    obtain ⟨t', h2, hap, hT2, h4, h5, h6⟩ := hT.app
    exact ⟨t', h2, fun σ x y tok hx hy => is_appB hx hy (by simp) hap hl, hT2, h4, h5, h6⟩
theorem next_cb (s : CS) : s.next.code = s.code ∧ s.next.body = s.body := by
  obtain ⟨host, sndr, tg, body, wait, code, out, st, pos, codes, over, nls⟩ := s
  match st with
  | 0 => exact ⟨rfl, rfl⟩
  | 1 => exact ⟨rfl, rfl⟩
  | 2 => exact ⟨rfl, rfl⟩
  | 3 => exact ⟨rfl, rfl⟩
  | 4 => exact ⟨rfl, rfl⟩
  | n + 5 => exact ⟨rfl, rfl⟩
theorem take_cb (s : CS) (c : Int) : (s.take c).code = s.code ∧ (s.take c).body = s.body := by
  unfold CS.take
  split
  · rw [target_eq]
    unfold CS.tnext
    dsimp only
    split
    · exact ⟨rfl, rfl⟩
    · split
      · exact next_cb { s.tcode c with pos := (s.tcode c).pos + 1 }
      · exact ⟨rfl, rfl⟩
  · split
    · exact ⟨rfl, rfl⟩
    · split
      · exact ⟨rfl, rfl⟩
      · exact next_cb s
theorem lost_cn (s : CS) (c : Int) (n : Nat) : ({ s with code := c, nls := n } : CS).lost = { s.lost with code := c, nls := n } := by
  unfold CS.lost
  dsimp only
  by_cases h : s.over = true
  · rw [if_pos h, if_pos h]
  · rw [if_neg h, if_neg h]
theorem FI.overF {F s1 : CS} {m : Nat} (K : FI F s1 m) (ho : s1.over = true) : ∃ W, F = { s1 with wait := W } := by
  rcases K.k with ⟨_, _, W, e⟩ | ⟨e, _⟩
  · exact ⟨W, e⟩
  · rw [ho] at e; cases e
theorem lost_over (s : CS) : s.lost.over = true := by unfold CS.lost; split <;> simp_all
/-- What the loop keeps. -/
structure FQ (y : RK) (body : List L8) (tt tb : Tok) (R : List Tok) (h : AH) (s1 : CS) (tw ts : Tok) (w : L8) (c k : Int) (hh : AH) : Prop where
  o : RcO hh y s1 body tt tb tw ts w c k
  t : Toks hh (tw :: ts :: R)
  f : Fr y.ids h hh
end Go.Abs.F
