/- What the proof needs, part 6: Layer 1: the program's mailboxes and paths. Layer 1: the program's routes and paths. Layer 1: the reference's local parts, domains, mailboxes. Layer 1: the reference's domains, mailboxes; The compact code of functions, printed by a program of mine. -/
import Derived.Test.YtnpdmkbfphcioaaGreatDoorQTurnKeeps5
/- Layer 1: the program's mailboxes and paths. Layer 1: the program's routes and paths. Layer 1: the reference's local parts, domains, mailboxes. Layer 1: the reference's domains, mailboxes. -/
namespace Go.Abs.F
open Go Go.Abs
set_option maxRecDepth 10000
set_option maxHeartbeats 20000000
set_option linter.unusedSimpArgs false
set_option linter.unusedVariables false
variable {w0 : World}
def splitV (s : List UInt8) : AV := match splitO s with
  | some x => .tup [.v (.string (bs x.1)), .v (.string (bs x.2)), .v (.bool true)]
  | none => .tup [.v (.string (bs [])), .v (.string (bs [])), .v (.bool false)]
def optV : Option (List UInt8) → AV
  | some c => .tup [.v (.string (bs c)), .v (.bool true)]
  | none => .tup [.v (.string (bs [])), .v (.bool false)]
theorem cutB_le (c : UInt8) (s : List UInt8) : (cutB c s).1.length ≤ s.length ∧ (cutB c s).2.1.length ≤ s.length := by
  rcases cutB_cases c s with ⟨_, h⟩ | ⟨a, r, rfl, _, h⟩
  · rw [h]; exact ⟨Nat.le_refl _, Nat.zero_le _⟩
  · rw [h]; simp; omega
theorem split_call (s : List UInt8) (h : AH) (hl : s.length ≤ 1000000000) : Call P w0 addr_Split [.v (.string (bs s))] h (fun v h' => v = splitV s ∧ Ext h h') := by
  have hcut := fun h => cut_call (w0 := w0) s 64 h (by omega)
  obtain ⟨l1, l2⟩ := cutB_le 64 s
  have hlo := fun h => local_call (w0 := w0) (cutB 64 s).1 h (by omega)
  have hdo := fun h => domain_call (w0 := w0) (cutB 64 s).2.1 h (by omega)
  have hsv : splitV s = if (cutB 64 s).2.2 = true ∧ localS (cutB 64 s).1 = true ∧ domainS (cutB 64 s).2.1 = true then .tup [.v (.string (bs (cutB 64 s).1)), .v (.string (bs (cutB 64 s).2.1)), .v (.bool true)] else .tup [.v (.string (bs [])), .v (.string (bs [])), .v (.bool false)] := by
    unfold splitV splitO
    by_cases hc : (cutB 64 s).2.2 = true ∧ localS (cutB 64 s).1 = true ∧ domainS (cutB 64 s).2.1 = true
    · rw [if_pos hc, if_pos hc]
    · rw [if_neg hc, if_neg hc]
  rw [hsv]
  clear hsv
  refine Call.bodyF b_addr_Split rfl rfl ?_
  unfold c_addr_Split
  generalize cutB 64 s = q at *
  obtain ⟨a, r, ok⟩ := q
  simp only [] at *
  cases ok <;> cases hA : localS a <;> cases hD : domainS r
  all_goals rw [hA] at hlo
  all_goals rw [hD] at hdo
  all_goals simp only [Bool.false_eq_true, false_and, and_false, if_false, and_self, if_true]
  all_goals repeat' (first
| ((with_reducible apply opsF.op rfl); case hs => first | exact tHT | exact tHS)
| (with_reducible first | apply opsF.nil | apply seqF.nn | apply vcF.seq | apply vcF.region | apply vcF.skip | apply vcF.ret | apply seqF.r)
| ((with_reducible apply opsF.call); case hx => exact tAG)
| ((with_reducible apply opsF.want); (case hg => exact tEV); case hb => exact tNB)
| ((with_reducible apply opsF.skip); (case hg => exact tEV); case hb => exact tNB)
| (first | ((with_reducible apply opsF.case); case hg => exact tEV) | ((with_reducible apply vcF.cond); case hx => exact tEV)) <;> ((intro hc; try simp only [Int.reduceLT, Int.reduceLE, Int.reduceEq, Int.reduceNe, Int.cast_ofNat_Int, Int.reduceNeg, reduceCtorEq, ne_eq, ge_iff_le, gt_iff_lt, beq_iff_eq, beq_eq_false_iff_ne, bne_iff_ne, bne_eq_false_iff_eq, nrm, *] at hc) <;> try (exfalso; omega))
| ((with_reducible apply opsF.und); case hg => rfl)
| ((with_reducible first | apply retF.r | apply retF.nn); case hv => exact tRS)
| ((refine (hcut _).mono fun v h2 hp => ?_); obtain ⟨rfl, rfl⟩ := hp)
| ((refine (hlo _).mono fun v h2 hp => ?_); obtain ⟨rfl, he⟩ := hp; have hN := he.n; have hO := he.objs; (try simp only [alloc_n, set_n, newTok_n, bump_n] at hN hO))
| ((refine (hdo _).mono fun v h3 hp => ?_); obtain ⟨rfl, he2⟩ := hp; have hN := he2.n; have hO := he2.objs; (try simp only [alloc_n, set_n, newTok_n, bump_n] at hN hO)))
  all_goals first
    | exact ⟨rfl, .refl _⟩
    | exact ⟨rfl, he.trans he2⟩
    | exact ⟨rfl, he⟩
theorem canonV_eq (s : List UInt8) : optV (canonO s) = match splitO s with
    | some x => .tup [.v (.string (bs (x.1 ++ 64 :: lowerS x.2))), .v (.bool true)]
    | none => .tup [.v (.string (bs [])), .v (.bool false)] := by
  unfold canonO
  cases splitO s <;> rfl
theorem splitO_len {s : List UInt8} {x : List UInt8 × List UInt8} (h : splitO s = some x) : x.1.length ≤ 64 ∧ x.2.length ≤ 255 := by
  unfold splitO at h
  split at h
  · rename_i hh
    injection h with h
    subst h
    obtain ⟨_, h2, h3⟩ := hh
    simp only [localS, domainS, Bool.and_eq_true, decide_eq_true_eq] at h2 h3
    exact ⟨h2.1, h3.1⟩
  · cases h
theorem lowerS_len (s : List UInt8) : (lowerS s).length = s.length := by simp [lowerS]
theorem canon_call (s : List UInt8) (h : AH) (hl : s.length ≤ 1000000000) : Call P w0 addr_Canon [.v (.string (bs s))] h (fun v h' => v = optV (canonO s) ∧ Ext h h') := by
  have hsp := fun h => split_call (w0 := w0) s h hl
  rw [canonV_eq]
  unfold splitV at hsp
  refine Call.bodyF b_addr_Canon rfl rfl ?_
  unfold c_addr_Canon
  cases hx : splitO s with
  | none =>
    rw [hx] at hsp
    repeat' (first
| ((with_reducible apply opsF.op rfl); case hs => first | exact tHT | exact tHS)
| (with_reducible first | apply opsF.nil | apply seqF.nn | apply vcF.seq | apply vcF.region | apply vcF.skip | apply vcF.ret | apply seqF.r)
| ((with_reducible apply opsF.call); case hx => exact tAG)
| ((with_reducible apply vcF.cond); case hx => exact tEV) <;> ((intro hc; try simp only [Int.reduceLT, Int.reduceLE, Int.reduceEq, Int.reduceNe, Int.cast_ofNat_Int, Int.reduceNeg, reduceCtorEq, ne_eq, ge_iff_le, gt_iff_lt, beq_iff_eq, beq_eq_false_iff_ne, bne_iff_ne, bne_eq_false_iff_eq, nrm, *] at hc) <;> try (exfalso; omega))
| ((with_reducible first | apply retF.r | apply retF.nn); case hv => exact tRS)
| ((refine (hsp _).mono fun v h2 hp => ?_); obtain ⟨rfl, he⟩ := hp; have hN := he.n; have hO := he.objs; (try simp only [alloc_n, set_n, newTok_n, bump_n] at hN hO)))
    all_goals exact ⟨rfl, he⟩
  | some x =>
    obtain ⟨a, b⟩ := x
    obtain ⟨g1, g2⟩ := splitO_len hx
    rw [hx] at hsp
    simp only [] at g1 g2 hsp ⊢
    have hlw := fun h => lower_call (w0 := w0) b h (by omega)
    have hll := lowerS_len b
    repeat' (first
| ((with_reducible apply opsF.op rfl); case hs => first | exact tHT | exact tHS)
| (with_reducible first | apply opsF.nil | apply seqF.nn | apply vcF.seq | apply vcF.region | apply vcF.skip | apply vcF.ret | apply seqF.r)
| ((with_reducible apply opsF.call); case hx => exact tAG)
| ((with_reducible apply vcF.cond); case hx => exact tEV) <;> ((intro hc; try simp only [Int.reduceLT, Int.reduceLE, Int.reduceEq, Int.reduceNe, Int.cast_ofNat_Int, Int.reduceNeg, reduceCtorEq, ne_eq, ge_iff_le, gt_iff_lt, beq_iff_eq, beq_eq_false_iff_ne, bne_iff_ne, bne_eq_false_iff_eq, nrm, *] at hc) <;> try (exfalso; omega))
| ((with_reducible first | apply retF.r | apply retF.nn); case hv => exact tRS)
| ((refine (hsp _).mono fun v h2 hp => ?_); obtain ⟨rfl, he⟩ := hp; have hN := he.n; have hO := he.objs; (try simp only [alloc_n, set_n, newTok_n, bump_n] at hN hO))
| ((refine (hlw _).mono fun v h3 hp => ?_); obtain ⟨rfl, he2⟩ := hp; have hN := he2.n; have hO := he2.objs; (try simp only [alloc_n, set_n, newTok_n, bump_n] at hN hO)))
    all_goals exact ⟨by simp, he.trans he2⟩
end Go.Abs.F
namespace Go.Abs.F
open Go Go.Abs
set_option maxRecDepth 10000
set_option maxHeartbeats 20000000
set_option linter.unusedSimpArgs false
set_option linter.unusedVariables false
variable {w0 : World}
end Go.Abs.F
namespace Go.Abs.F
open Go Go.Abs
set_option maxRecDepth 10000
set_option maxHeartbeats 20000000
set_option linter.unusedSimpArgs false
set_option linter.unusedVariables false
variable {w0 : World}
theorem u8_iff {x c : UInt8} : ((x.toNat : Int) = (c.toNat : Int)) ↔ x = c := ⟨fun e => UInt8.toNat_inj.1 (by omega), fun e => by rw [e]⟩
theorem rin_call (s : List UInt8) (c : UInt8) (h : AH) (hl : s.length ≤ 1000000000000) : Call P w0 ref01_in [.v (.string (bs s)), .v (.int .u8 (c.toNat : Int))] h (fun v h' => v = .v (.bool (s.contains c)) ∧ h' = h) := by
  refine Call.bodyF b_ref01_in rfl rfl ?_
  unfold c_ref01_in
  repeat' (first
| ((with_reducible apply opsF.op rfl); case hs => first | exact tHT | exact tHS)
| (with_reducible first | apply opsF.nil | apply seqF.nn | apply vcF.seq | apply vcF.region | apply vcF.skip | apply vcF.block | apply vcF.exit | apply vcF.ret | apply vcF.loop | apply seqF.e | apply seqF.r | apply blkF.nn | apply blkF.e | apply blkF.r | apply blkF.o rfl)
| ((with_reducible apply opsF.call); case hx => exact tAG)
| ((with_reducible apply vcF.cond); case hx => exact tEV) <;> ((intro hc; try simp only [Int.reduceLT, Int.reduceLE, Int.reduceEq, Int.reduceNe, Int.cast_ofNat_Int, Int.reduceNeg, reduceCtorEq, ne_eq, ge_iff_le, gt_iff_lt, beq_iff_eq, beq_eq_false_iff_ne, bne_iff_ne, bne_eq_false_iff_eq, nrm, *] at hc) <;> try (exfalso; omega))
| ((with_reducible first | apply retF.r | apply retF.nn); case hv => exact tRS))
  refine LpF.ind rfl (fun i : Nat => s.length - i) (fun i σ h' => h' = h ∧ σ 0 = .v (.string (bs s)) ∧ σ 1 = .v (.int .u8 (c.toNat : Int)) ∧ σ 5 = .v (.int .i64 (i : Nat)) ∧ i ≤ s.length ∧ c ∉ s.take i) ?_ (i := 0) ⟨rfl, rfl, rfl, rfl, Nat.zero_le _, by simp⟩
  rintro i σ h' ⟨rfl, g0, g1, g5, hi, hn⟩
  rcases Nat.lt_or_ge i s.length with hlt | hge
  · obtain ⟨x, hx⟩ : ∃ x, s[i]? = some x := ⟨_, List.getElem?_eq_getElem hlt⟩
    by_cases hxc : (x.toNat : Int) = (c.toNat : Int)
    · have hc : s.contains c = true := by
        rw [List.contains_iff_mem, ← u8_iff.1 hxc]
        exact List.mem_of_getElem? hx
      rw [hc]
      repeat' (first
| ((with_reducible apply opsF.op rfl); case hs => first | exact tHT | exact tHS)
| (with_reducible first | apply opsF.nil | apply seqF.nn | apply vcF.seq | apply vcF.region | apply vcF.skip | apply vcF.block | apply vcF.exit | apply vcF.ret | apply vcF.loop | apply seqF.e | apply seqF.r | apply blkF.nn | apply blkF.e | apply blkF.r | apply blkF.o rfl)
| ((with_reducible apply opsF.call); case hx => exact tAG)
| ((with_reducible apply vcF.cond); case hx => exact tEV) <;> ((intro hc; try simp only [Int.reduceLT, Int.reduceLE, Int.reduceEq, Int.reduceNe, Int.cast_ofNat_Int, Int.reduceNeg, reduceCtorEq, ne_eq, ge_iff_le, gt_iff_lt, beq_iff_eq, beq_eq_false_iff_ne, bne_iff_ne, bne_eq_false_iff_eq, nrm, *] at hc) <;> try (exfalso; omega))
| ((with_reducible first | apply retF.r | apply retF.nn); case hv => exact tRS))
      all_goals exact ⟨rfl, rfl⟩
    · repeat' (first
| ((with_reducible apply opsF.op rfl); case hs => first | exact tHT | exact tHS)
| (with_reducible first | apply opsF.nil | apply seqF.nn | apply vcF.seq | apply vcF.region | apply vcF.skip | apply vcF.block | apply vcF.exit | apply vcF.ret | apply vcF.loop | apply seqF.e | apply seqF.r | apply blkF.nn | apply blkF.e | apply blkF.r | apply blkF.o rfl)
| ((with_reducible apply opsF.call); case hx => exact tAG)
| ((with_reducible apply vcF.cond); case hx => exact tEV) <;> ((intro hc; try simp only [Int.reduceLT, Int.reduceLE, Int.reduceEq, Int.reduceNe, Int.cast_ofNat_Int, Int.reduceNeg, reduceCtorEq, ne_eq, ge_iff_le, gt_iff_lt, beq_iff_eq, beq_eq_false_iff_ne, bne_iff_ne, bne_eq_false_iff_eq, nrm, *] at hc) <;> try (exfalso; omega))
| ((with_reducible first | apply retF.r | apply retF.nn); case hv => exact tRS))
      refine ⟨i + 1, by omega, rfl, g0, g1, rfl, by omega, ?_⟩
      rw [List.take_add_one, hx, Option.toList_some, List.mem_append, List.mem_singleton]
      rintro (e | e)
      · exact hn e
      · exact hxc (u8_iff.2 e.symm)
  · obtain rfl : i = s.length := by omega
    rw [List.take_length] at hn
    have hc : s.contains c = false := by
      rw [Bool.eq_false_iff]
      intro e
      exact hn (List.contains_iff_mem.1 e)
    rw [hc]
    repeat' (first
| ((with_reducible apply opsF.op rfl); case hs => first | exact tHT | exact tHS)
| (with_reducible first | apply opsF.nil | apply seqF.nn | apply vcF.seq | apply vcF.region | apply vcF.skip | apply vcF.block | apply vcF.exit | apply vcF.ret | apply vcF.loop | apply seqF.e | apply seqF.r | apply blkF.nn | apply blkF.e | apply blkF.r | apply blkF.o rfl)
| ((with_reducible apply opsF.call); case hx => exact tAG)
| ((with_reducible apply vcF.cond); case hx => exact tEV) <;> ((intro hc; try simp only [Int.reduceLT, Int.reduceLE, Int.reduceEq, Int.reduceNe, Int.cast_ofNat_Int, Int.reduceNeg, reduceCtorEq, ne_eq, ge_iff_le, gt_iff_lt, beq_iff_eq, beq_eq_false_iff_ne, bne_iff_ne, bne_eq_false_iff_eq, nrm, *] at hc) <;> try (exfalso; omega))
| ((with_reducible first | apply retF.r | apply retF.nn); case hv => exact tRS))
    all_goals exact ⟨rfl, rfl⟩
theorem rfind_call (s : List UInt8) (c : UInt8) (h : AH) (hl : s.length ≤ 1000000000000000) : Call P w0 ref01_find [.v (.string (bs s)), .v (.int .u8 (c.toNat : Int))] h (fun v h' => v = .v (.int .i64 (Lib.indexByte s c)) ∧ h' = h) := by
  refine Call.bodyF b_ref01_find rfl rfl ?_
  unfold c_ref01_find
  repeat' (first
| ((with_reducible apply opsF.op rfl); case hs => first | exact tHT | exact tHS)
| (with_reducible first | apply opsF.nil | apply seqF.nn | apply vcF.seq | apply vcF.region | apply vcF.skip | apply vcF.block | apply vcF.exit | apply vcF.ret | apply vcF.loop | apply seqF.e | apply seqF.r | apply blkF.nn | apply blkF.e | apply blkF.r | apply blkF.o rfl)
| ((with_reducible apply opsF.call); case hx => exact tAG)
| ((with_reducible apply vcF.cond); case hx => exact tEV) <;> ((intro hc; try simp only [Int.reduceLT, Int.reduceLE, Int.reduceEq, Int.reduceNe, Int.cast_ofNat_Int, Int.reduceNeg, reduceCtorEq, ne_eq, ge_iff_le, gt_iff_lt, beq_iff_eq, beq_eq_false_iff_ne, bne_iff_ne, bne_eq_false_iff_eq, nrm, *] at hc) <;> try (exfalso; omega))
| ((with_reducible first | apply retF.r | apply retF.nn); case hv => exact tRS))
  refine LpF.ind rfl (fun i : Nat => s.length - i) (fun i σ h' => h' = h ∧ σ 0 = .v (.string (bs s)) ∧ σ 1 = .v (.int .u8 (c.toNat : Int)) ∧ σ 5 = .v (.int .i64 (i : Nat)) ∧ i ≤ s.length ∧ c ∉ s.take i) ?_ (i := 0) ⟨rfl, rfl, rfl, rfl, Nat.zero_le _, by simp⟩
  rintro i σ h' ⟨rfl, g0, g1, g5, hi, hn⟩
  rcases Nat.lt_or_ge i s.length with hlt | hge
  · obtain ⟨x, hx⟩ : ∃ x, s[i]? = some x := ⟨_, List.getElem?_eq_getElem hlt⟩
    by_cases hxc : (x.toNat : Int) = (c.toNat : Int)
    · have hc : Lib.indexByte s c = (i : Int) := by
        have h1 := drop_step hx
        rw [u8_iff.1 hxc] at h1
        have h2 := idx_hit (r := s.drop (i + 1)) hn
        rw [← h1, List.take_append_drop] at h2
        rw [h2]
        simp; omega
      rw [hc]
      repeat' (first
| ((with_reducible apply opsF.op rfl); case hs => first | exact tHT | exact tHS)
| (with_reducible first | apply opsF.nil | apply seqF.nn | apply vcF.seq | apply vcF.region | apply vcF.skip | apply vcF.block | apply vcF.exit | apply vcF.ret | apply vcF.loop | apply seqF.e | apply seqF.r | apply blkF.nn | apply blkF.e | apply blkF.r | apply blkF.o rfl)
| ((with_reducible apply opsF.call); case hx => exact tAG)
| ((with_reducible apply vcF.cond); case hx => exact tEV) <;> ((intro hc; try simp only [Int.reduceLT, Int.reduceLE, Int.reduceEq, Int.reduceNe, Int.cast_ofNat_Int, Int.reduceNeg, reduceCtorEq, ne_eq, ge_iff_le, gt_iff_lt, beq_iff_eq, beq_eq_false_iff_ne, bne_iff_ne, bne_eq_false_iff_eq, nrm, *] at hc) <;> try (exfalso; omega))
| ((with_reducible first | apply retF.r | apply retF.nn); case hv => exact tRS))
      all_goals exact ⟨rfl, rfl⟩
    · repeat' (first
| ((with_reducible apply opsF.op rfl); case hs => first | exact tHT | exact tHS)
| (with_reducible first | apply opsF.nil | apply seqF.nn | apply vcF.seq | apply vcF.region | apply vcF.skip | apply vcF.block | apply vcF.exit | apply vcF.ret | apply vcF.loop | apply seqF.e | apply seqF.r | apply blkF.nn | apply blkF.e | apply blkF.r | apply blkF.o rfl)
| ((with_reducible apply opsF.call); case hx => exact tAG)
| ((with_reducible apply vcF.cond); case hx => exact tEV) <;> ((intro hc; try simp only [Int.reduceLT, Int.reduceLE, Int.reduceEq, Int.reduceNe, Int.cast_ofNat_Int, Int.reduceNeg, reduceCtorEq, ne_eq, ge_iff_le, gt_iff_lt, beq_iff_eq, beq_eq_false_iff_ne, bne_iff_ne, bne_eq_false_iff_eq, nrm, *] at hc) <;> try (exfalso; omega))
| ((with_reducible first | apply retF.r | apply retF.nn); case hv => exact tRS))
      refine ⟨i + 1, by omega, rfl, g0, g1, rfl, by omega, ?_⟩
      rw [List.take_add_one, hx, Option.toList_some, List.mem_append, List.mem_singleton]
      rintro (e | e)
      · exact hn e
      · exact hxc (u8_iff.2 e.symm)
  · obtain rfl : i = s.length := by omega
    rw [List.take_length] at hn
    rw [idx_miss hn]
    repeat' (first
| ((with_reducible apply opsF.op rfl); case hs => first | exact tHT | exact tHS)
| (with_reducible first | apply opsF.nil | apply seqF.nn | apply vcF.seq | apply vcF.region | apply vcF.skip | apply vcF.block | apply vcF.exit | apply vcF.ret | apply vcF.loop | apply seqF.e | apply seqF.r | apply blkF.nn | apply blkF.e | apply blkF.r | apply blkF.o rfl)
| ((with_reducible apply opsF.call); case hx => exact tAG)
| ((with_reducible apply vcF.cond); case hx => exact tEV) <;> ((intro hc; try simp only [Int.reduceLT, Int.reduceLE, Int.reduceEq, Int.reduceNe, Int.cast_ofNat_Int, Int.reduceNeg, reduceCtorEq, ne_eq, ge_iff_le, gt_iff_lt, beq_iff_eq, beq_eq_false_iff_ne, bne_iff_ne, bne_eq_false_iff_eq, nrm, *] at hc) <;> try (exfalso; omega))
| ((with_reducible first | apply retF.r | apply retF.nn); case hv => exact tRS))
    all_goals exact ⟨rfl, rfl⟩
theorem all_bad {α : Type} {p : α → Bool} {l : List α} {i : Nat} {x : α} (hx : l[i]? = some x) (h : p x = false) : l.all p = false := by
  rw [List.all_eq_false]
  exact ⟨x, List.mem_of_getElem? hx, by simp [h]⟩
theorem rlocal_call (s : List UInt8) (h : AH) (hl : s.length ≤ 1000000000000000) : Call P w0 ref01_Local [.v (.string (bs s))] h (fun v h' => v = .v (.bool (localS s)) ∧ Ext h h') := by
  have xl := srows_len
  have xg := srows_get
  have hsl := splB_len (c := 46) s.length (Nat.le_refl _)
  refine Call.bodyF b_ref01_Local rfl rfl ?_
  unfold c_ref01_Local
  by_cases h64 : s.length ≤ 64
  · have hcut := fun h => rcut_call (w0 := w0) s 46 h (by omega)
    have hls : localS s = (splB 46 s).all (fullP atomB) := by simp [localS, h64]
    rw [hls]
    have hwm : ∀ w ∈ splB 46 s, w.length ≤ 64 := fun w hw => by
      have := splB_mem s.length (Nat.le_refl _) hw
      omega
    generalize splB 46 s = ws at *
    repeat' (first
| ((with_reducible apply opsF.op rfl); case hs => first | exact tHT | exact tHS)
| (with_reducible first | apply opsF.nil | apply seqF.nn | apply vcF.seq | apply vcF.region | apply vcF.skip | apply vcF.block | apply vcF.exit | apply vcF.ret | apply vcF.loop | apply seqF.e | apply seqF.r | apply blkF.nn | apply blkF.e | apply blkF.r | apply blkF.o rfl)
| ((with_reducible apply opsF.call); case hx => exact tAG)
| ((with_reducible apply opsF.want); (case hg => exact tEV); case hb => exact tNB)
| ((with_reducible apply opsF.skip); (case hg => exact tEV); case hb => exact tNB)
| (first | ((with_reducible apply opsF.case); case hg => exact tEV) | ((with_reducible apply vcF.cond); case hx => exact tEV)) <;> ((intro hc; try simp only [Int.reduceLT, Int.reduceLE, Int.reduceEq, Int.reduceNe, Int.cast_ofNat_Int, Int.reduceNeg, reduceCtorEq, ne_eq, ge_iff_le, gt_iff_lt, beq_iff_eq, beq_eq_false_iff_ne, bne_iff_ne, bne_eq_false_iff_eq, nrm, *] at hc) <;> try (exfalso; omega))
| ((with_reducible apply opsF.und); case hg => rfl)
| ((with_reducible first | apply retF.r | apply retF.nn); case hv => exact tRS)
| ((refine (hcut _).mono fun v h2 hp => ?_); obtain ⟨rfl, rfl⟩ := hp))
    refine LpF.ind rfl (fun i : Nat => ws.length - i) (fun i σ hh => hh = h2 ∧ σ 3 = .list 1 (srows ws) .no ∧ σ 4 = .v (.int .i64 (i : Nat)) ∧ i ≤ ws.length ∧ (ws.take i).all (fullP atomB) = true) ?_ (i := 0) ⟨rfl, rfl, rfl, Nat.zero_le _, rfl⟩
    rintro i σ hh ⟨rfl, g3, g4, hi, hal⟩
    rcases Nat.lt_or_ge i ws.length with hlt | hge
    · obtain ⟨w, hw⟩ : ∃ x, ws[i]? = some x := ⟨_, List.getElem?_eq_getElem hlt⟩
      have hwl := hwm w (List.mem_of_getElem? hw)
      rcases Classical.em (w = []) with rfl | hwn
      · rw [all_bad hw (p := fullP atomB) rfl]
        repeat' (first
| ((with_reducible apply opsF.op rfl); case hs => first | exact tHT | exact tHS)
| (with_reducible first | apply opsF.nil | apply seqF.nn | apply vcF.seq | apply vcF.region | apply vcF.skip | apply vcF.block | apply vcF.exit | apply vcF.ret | apply vcF.loop | apply seqF.e | apply seqF.r | apply blkF.nn | apply blkF.e | apply blkF.r | apply blkF.o rfl)
| ((with_reducible apply opsF.call); case hx => exact tAG)
| ((with_reducible apply opsF.want); (case hg => exact tEV); case hb => exact tNB)
| ((with_reducible apply opsF.skip); (case hg => exact tEV); case hb => exact tNB)
| (first | ((with_reducible apply opsF.case); case hg => exact tEV) | ((with_reducible apply vcF.cond); case hx => exact tEV)) <;> ((intro hc; try simp only [Int.reduceLT, Int.reduceLE, Int.reduceEq, Int.reduceNe, Int.cast_ofNat_Int, Int.reduceNeg, reduceCtorEq, ne_eq, ge_iff_le, gt_iff_lt, beq_iff_eq, beq_eq_false_iff_ne, bne_iff_ne, bne_eq_false_iff_eq, nrm, *] at hc) <;> try (exfalso; omega))
| ((with_reducible apply opsF.und); case hg => rfl)
| ((with_reducible first | apply retF.r | apply retF.nn); case hv => exact tRS))
        all_goals exact ⟨rfl, .refl _⟩
      · repeat' (first
| ((with_reducible apply opsF.op rfl); case hs => first | exact tHT | exact tHS)
| (with_reducible first | apply opsF.nil | apply seqF.nn | apply vcF.seq | apply vcF.region | apply vcF.skip | apply vcF.block | apply vcF.exit | apply vcF.ret | apply vcF.loop | apply seqF.e | apply seqF.r | apply blkF.nn | apply blkF.e | apply blkF.r | apply blkF.o rfl)
| ((with_reducible apply opsF.call); case hx => exact tAG)
| ((with_reducible apply opsF.want); (case hg => exact tEV); case hb => exact tNB)
| ((with_reducible apply opsF.skip); (case hg => exact tEV); case hb => exact tNB)
| (first | ((with_reducible apply opsF.case); case hg => exact tEV) | ((with_reducible apply vcF.cond); case hx => exact tEV)) <;> ((intro hc; try simp only [Int.reduceLT, Int.reduceLE, Int.reduceEq, Int.reduceNe, Int.cast_ofNat_Int, Int.reduceNeg, reduceCtorEq, ne_eq, ge_iff_le, gt_iff_lt, beq_iff_eq, beq_eq_false_iff_ne, bne_iff_ne, bne_eq_false_iff_eq, nrm, *] at hc) <;> try (exfalso; omega))
| ((with_reducible apply opsF.und); case hg => rfl)
| ((with_reducible first | apply retF.r | apply retF.nn); case hv => exact tRS))
        refine LpF.ind rfl (fun k : Nat => w.length - k) (fun k σ hk => hk = hh ∧ σ 3 = .list 1 (srows ws) .no ∧ σ 4 = .v (.int .i64 (i : Nat)) ∧ σ 5 = .v (.int .i64 (k : Nat)) ∧ k ≤ w.length ∧ (w.take k).all atomB = true) ?_ (i := 0) ⟨rfl, g3, g4, rfl, Nat.zero_le _, rfl⟩
        clear g3 g4
        rintro k σ hk ⟨rfl, g3, g4, g5, hk2, hal2⟩
        rcases Nat.lt_or_ge k w.length with hlt2 | hge2
        · obtain ⟨x, hx⟩ : ∃ x, w[k]? = some x := ⟨_, List.getElem?_eq_getElem hlt2⟩
          have hlet := fun h => rletter_call (w0 := w0) x h
          have hin := fun h => rin_call (w0 := w0) atomL x h (by decide)
          have hab : atomB x = (letterB x || atomL.contains x) := rfl
          generalize atomL.contains x = B at *
          cases hL : letterB x <;> cases B
          all_goals rw [hL] at hlet hab
          all_goals simp only [Bool.or_self, Bool.or_true, Bool.true_or, Bool.or_false, Bool.false_or] at hab
          · have hbad : ws.all (fullP atomB) = false := all_bad hw (by rw [fullP, all_bad hx hab, Bool.and_false])
            rw [hbad]
            repeat' (first
| ((with_reducible apply opsF.op rfl); case hs => first | exact tHT | exact tHS)
| (with_reducible first | apply opsF.nil | apply seqF.nn | apply vcF.seq | apply vcF.region | apply vcF.skip | apply vcF.block | apply vcF.exit | apply vcF.ret | apply vcF.loop | apply seqF.e | apply seqF.r | apply blkF.nn | apply blkF.e | apply blkF.r | apply blkF.o rfl)
| ((with_reducible apply opsF.call); case hx => exact tAG)
| ((with_reducible apply opsF.want); (case hg => exact tEV); case hb => exact tNB)
| ((with_reducible apply opsF.skip); (case hg => exact tEV); case hb => exact tNB)
| (first | ((with_reducible apply opsF.case); case hg => exact tEV) | ((with_reducible apply vcF.cond); case hx => exact tEV)) <;> ((intro hc; try simp only [Int.reduceLT, Int.reduceLE, Int.reduceEq, Int.reduceNe, Int.cast_ofNat_Int, Int.reduceNeg, reduceCtorEq, ne_eq, ge_iff_le, gt_iff_lt, beq_iff_eq, beq_eq_false_iff_ne, bne_iff_ne, bne_eq_false_iff_eq, nrm, *] at hc) <;> try (exfalso; omega))
| ((with_reducible apply opsF.und); case hg => rfl)
| ((with_reducible first | apply retF.r | apply retF.nn); case hv => exact tRS)
| ((refine (hlet _).mono fun v h2 hp => ?_); obtain ⟨rfl, rfl⟩ := hp)
| ((refine (hin _).mono fun v h2 hp => ?_); obtain ⟨rfl, rfl⟩ := hp))
            all_goals exact ⟨rfl, .refl _⟩
          all_goals repeat' (first
| ((with_reducible apply opsF.op rfl); case hs => first | exact tHT | exact tHS)
| (with_reducible first | apply opsF.nil | apply seqF.nn | apply vcF.seq | apply vcF.region | apply vcF.skip | apply vcF.block | apply vcF.exit | apply vcF.ret | apply vcF.loop | apply seqF.e | apply seqF.r | apply blkF.nn | apply blkF.e | apply blkF.r | apply blkF.o rfl)
| ((with_reducible apply opsF.call); case hx => exact tAG)
| ((with_reducible apply opsF.want); (case hg => exact tEV); case hb => exact tNB)
| ((with_reducible apply opsF.skip); (case hg => exact tEV); case hb => exact tNB)
| (first | ((with_reducible apply opsF.case); case hg => exact tEV) | ((with_reducible apply vcF.cond); case hx => exact tEV)) <;> ((intro hc; try simp only [Int.reduceLT, Int.reduceLE, Int.reduceEq, Int.reduceNe, Int.cast_ofNat_Int, Int.reduceNeg, reduceCtorEq, ne_eq, ge_iff_le, gt_iff_lt, beq_iff_eq, beq_eq_false_iff_ne, bne_iff_ne, bne_eq_false_iff_eq, nrm, *] at hc) <;> try (exfalso; omega))
| ((with_reducible apply opsF.und); case hg => rfl)
| ((with_reducible first | apply retF.r | apply retF.nn); case hv => exact tRS)
| ((refine (hlet _).mono fun v h2 hp => ?_); obtain ⟨rfl, rfl⟩ := hp)
| ((refine (hin _).mono fun v h2 hp => ?_); obtain ⟨rfl, rfl⟩ := hp))
          all_goals refine ⟨k + 1, by omega, rfl, g3, g4, rfl, by omega, ?_⟩
          all_goals (rw [List.take_add_one, hx, List.all_append, hal2]; simp [hab])
        · obtain rfl : k = w.length := by omega
          rw [List.take_length] at hal2
          repeat' (first
| ((with_reducible apply opsF.op rfl); case hs => first | exact tHT | exact tHS)
| (with_reducible first | apply opsF.nil | apply seqF.nn | apply vcF.seq | apply vcF.region | apply vcF.skip | apply vcF.block | apply vcF.exit | apply vcF.ret | apply vcF.loop | apply seqF.e | apply seqF.r | apply blkF.nn | apply blkF.e | apply blkF.r | apply blkF.o rfl)
| ((with_reducible apply opsF.call); case hx => exact tAG)
| ((with_reducible apply opsF.want); (case hg => exact tEV); case hb => exact tNB)
| ((with_reducible apply opsF.skip); (case hg => exact tEV); case hb => exact tNB)
| (first | ((with_reducible apply opsF.case); case hg => exact tEV) | ((with_reducible apply vcF.cond); case hx => exact tEV)) <;> ((intro hc; try simp only [Int.reduceLT, Int.reduceLE, Int.reduceEq, Int.reduceNe, Int.cast_ofNat_Int, Int.reduceNeg, reduceCtorEq, ne_eq, ge_iff_le, gt_iff_lt, beq_iff_eq, beq_eq_false_iff_ne, bne_iff_ne, bne_eq_false_iff_eq, nrm, *] at hc) <;> try (exfalso; omega))
| ((with_reducible apply opsF.und); case hg => rfl)
| ((with_reducible first | apply retF.r | apply retF.nn); case hv => exact tRS))
          refine ⟨i + 1, by omega, rfl, g3, rfl, by omega, ?_⟩
          rw [List.take_add_one, hw, List.all_append, hal]
          cases w with
          | nil => exact absurd rfl hwn
          | cons a b => simpa [fullP] using hal2
    · obtain rfl : i = ws.length := by omega
      rw [List.take_length] at hal
      rw [hal]
      repeat' (first
| ((with_reducible apply opsF.op rfl); case hs => first | exact tHT | exact tHS)
| (with_reducible first | apply opsF.nil | apply seqF.nn | apply vcF.seq | apply vcF.region | apply vcF.skip | apply vcF.block | apply vcF.exit | apply vcF.ret | apply vcF.loop | apply seqF.e | apply seqF.r | apply blkF.nn | apply blkF.e | apply blkF.r | apply blkF.o rfl)
| ((with_reducible apply opsF.call); case hx => exact tAG)
| ((with_reducible apply opsF.want); (case hg => exact tEV); case hb => exact tNB)
| ((with_reducible apply opsF.skip); (case hg => exact tEV); case hb => exact tNB)
| (first | ((with_reducible apply opsF.case); case hg => exact tEV) | ((with_reducible apply vcF.cond); case hx => exact tEV)) <;> ((intro hc; try simp only [Int.reduceLT, Int.reduceLE, Int.reduceEq, Int.reduceNe, Int.cast_ofNat_Int, Int.reduceNeg, reduceCtorEq, ne_eq, ge_iff_le, gt_iff_lt, beq_iff_eq, beq_eq_false_iff_ne, bne_iff_ne, bne_eq_false_iff_eq, nrm, *] at hc) <;> try (exfalso; omega))
| ((with_reducible apply opsF.und); case hg => rfl)
| ((with_reducible first | apply retF.r | apply retF.nn); case hv => exact tRS))
      all_goals exact ⟨rfl, .refl _⟩
  · have hls : localS s = false := by simp [localS, h64]
    rw [hls]
    repeat' (first
| ((with_reducible apply opsF.op rfl); case hs => first | exact tHT | exact tHS)
| (with_reducible first | apply opsF.nil | apply seqF.nn | apply vcF.seq | apply vcF.region | apply vcF.skip | apply vcF.block | apply vcF.exit | apply vcF.ret | apply vcF.loop | apply seqF.e | apply seqF.r | apply blkF.nn | apply blkF.e | apply blkF.r | apply blkF.o rfl)
| ((with_reducible apply opsF.call); case hx => exact tAG)
| ((with_reducible apply opsF.want); (case hg => exact tEV); case hb => exact tNB)
| ((with_reducible apply opsF.skip); (case hg => exact tEV); case hb => exact tNB)
| (first | ((with_reducible apply opsF.case); case hg => exact tEV) | ((with_reducible apply vcF.cond); case hx => exact tEV)) <;> ((intro hc; try simp only [Int.reduceLT, Int.reduceLE, Int.reduceEq, Int.reduceNe, Int.cast_ofNat_Int, Int.reduceNeg, reduceCtorEq, ne_eq, ge_iff_le, gt_iff_lt, beq_iff_eq, beq_eq_false_iff_ne, bne_iff_ne, bne_eq_false_iff_eq, nrm, *] at hc) <;> try (exfalso; omega))
| ((with_reducible apply opsF.und); case hg => rfl)
| ((with_reducible first | apply retF.r | apply retF.nn); case hv => exact tRS))
    all_goals exact ⟨rfl, .refl _⟩
end Go.Abs.F
namespace Go.Abs.F
open Go Go.Abs
set_option maxRecDepth 10000
set_option maxHeartbeats 20000000
set_option linter.unusedSimpArgs false
set_option linter.unusedVariables false
variable {w0 : World}
theorem labelS_eq {w : List UInt8} {x z : UInt8} (h63 : w.length ≤ 63) (h0 : w[0]? = some x) (hz : w[w.length - 1]? = some z) :
    labelS w = (w.all innerB && decide (¬ (x.toNat : Int) = 45) && decide (¬ (z.toNat : Int) = 45)) := by
  have hhd : w.head? = some x := by rw [List.head?_eq_getElem?]; exact h0
  have hlt : w.getLast? = some z := by rw [List.getLast?_eq_getElem?]; exact hz
  have e1 : ∀ y : UInt8, (some y ≠ some (45 : UInt8)) ↔ ¬ (y.toNat : Int) = 45 := fun y => by
    constructor
    · intro hh e
      exact hh (congrArg some (UInt8.toNat_inj.1 (by rw [show (45 : UInt8).toNat = 45 from rfl]; omega)))
    · intro hh e
      injection e with e
      exact hh (by rw [e]; rfl)
  have hf : fullP innerB w = w.all innerB := by
    cases w with
    | nil => simp at h0
    | cons a b => simp [fullP]
  simp only [labelS, hf, decide_eq_true h63, Bool.true_and, hhd, hlt, e1]
theorem rdomain_call (s : List UInt8) (h : AH) (hl : s.length ≤ 1000000000000000) : Call P w0 ref01_Domain [.v (.string (bs s))] h (fun v h' => v = .v (.bool (domainS s)) ∧ Ext h h') := by
  have xl := srows_len
  have xg := srows_get
  have hsl := splB_len (c := 46) s.length (Nat.le_refl _)
  refine Call.bodyF b_ref01_Domain rfl rfl ?_
  unfold c_ref01_Domain
  by_cases h255 : s.length ≤ 255
  · have hcut := fun h => rcut_call (w0 := w0) s 46 h (by omega)
    have hls : domainS s = (splB 46 s).all labelS := by simp [domainS, h255]
    rw [hls]
    have hwm : ∀ w ∈ splB 46 s, w.length ≤ 255 := fun w hw => by
      have := splB_mem s.length (Nat.le_refl _) hw
      omega
    generalize splB 46 s = ws at *
    repeat' (first
| ((with_reducible apply opsF.op rfl); case hs => first | exact tHT | exact tHS)
| (with_reducible first | apply opsF.nil | apply seqF.nn | apply vcF.seq | apply vcF.region | apply vcF.skip | apply vcF.block | apply vcF.exit | apply vcF.ret | apply vcF.loop | apply seqF.e | apply seqF.r | apply blkF.nn | apply blkF.e | apply blkF.r | apply blkF.o rfl)
| ((with_reducible apply opsF.call); case hx => exact tAG)
| ((with_reducible apply opsF.want); (case hg => exact tEV); case hb => exact tNB)
| ((with_reducible apply opsF.skip); (case hg => exact tEV); case hb => exact tNB)
| (first | ((with_reducible apply opsF.case); case hg => exact tEV) | ((with_reducible apply vcF.cond); case hx => exact tEV)) <;> ((intro hc; try simp only [Int.reduceLT, Int.reduceLE, Int.reduceEq, Int.reduceNe, Int.cast_ofNat_Int, Int.reduceNeg, reduceCtorEq, ne_eq, ge_iff_le, gt_iff_lt, beq_iff_eq, beq_eq_false_iff_ne, bne_iff_ne, bne_eq_false_iff_eq, nrm, *] at hc) <;> try (exfalso; omega))
| ((with_reducible apply opsF.und); case hg => rfl)
| ((with_reducible first | apply retF.r | apply retF.nn); case hv => exact tRS)
| ((refine (hcut _).mono fun v h2 hp => ?_); obtain ⟨rfl, rfl⟩ := hp))
    refine LpF.ind rfl (fun i : Nat => ws.length - i) (fun i σ hh => hh = h2 ∧ σ 3 = .list 1 (srows ws) .no ∧ σ 4 = .v (.int .i64 (i : Nat)) ∧ i ≤ ws.length ∧ (ws.take i).all labelS = true) ?_ (i := 0) ⟨rfl, rfl, rfl, Nat.zero_le _, rfl⟩
    rintro i σ hh ⟨rfl, g3, g4, hi, hal⟩
    rcases Nat.lt_or_ge i ws.length with hlt | hge
    · obtain ⟨w, hw⟩ : ∃ x, ws[i]? = some x := ⟨_, List.getElem?_eq_getElem hlt⟩
      have hwl := hwm w (List.mem_of_getElem? hw)
      rcases Classical.em (w = []) with rfl | hwn
      · rw [all_bad hw (p := labelS) rfl]
        repeat' (first
| ((with_reducible apply opsF.op rfl); case hs => first | exact tHT | exact tHS)
| (with_reducible first | apply opsF.nil | apply seqF.nn | apply vcF.seq | apply vcF.region | apply vcF.skip | apply vcF.block | apply vcF.exit | apply vcF.ret | apply vcF.loop | apply seqF.e | apply seqF.r | apply blkF.nn | apply blkF.e | apply blkF.r | apply blkF.o rfl)
| ((with_reducible apply opsF.call); case hx => exact tAG)
| ((with_reducible apply opsF.want); (case hg => exact tEV); case hb => exact tNB)
| ((with_reducible apply opsF.skip); (case hg => exact tEV); case hb => exact tNB)
| (first | ((with_reducible apply opsF.case); case hg => exact tEV) | ((with_reducible apply vcF.cond); case hx => exact tEV)) <;> ((intro hc; try simp only [Int.reduceLT, Int.reduceLE, Int.reduceEq, Int.reduceNe, Int.cast_ofNat_Int, Int.reduceNeg, reduceCtorEq, ne_eq, ge_iff_le, gt_iff_lt, beq_iff_eq, beq_eq_false_iff_ne, bne_iff_ne, bne_eq_false_iff_eq, nrm, *] at hc) <;> try (exfalso; omega))
| ((with_reducible apply opsF.und); case hg => rfl)
| ((with_reducible first | apply retF.r | apply retF.nn); case hv => exact tRS))
        all_goals exact ⟨rfl, .refl _⟩
      · by_cases h63 : w.length ≤ 63
        · have hpos : 0 < w.length := List.length_pos_iff.2 hwn
          obtain ⟨x, h0⟩ : ∃ x, w[0]? = some x := ⟨_, List.getElem?_eq_getElem hpos⟩
          obtain ⟨z, hz⟩ : ∃ z, w[w.length - 1]? = some z := ⟨_, List.getElem?_eq_getElem (by omega)⟩
          have hi1 : ((w.length : Int) - 1).toNat = w.length - 1 := by omega
          have hlab := labelS_eq h63 h0 hz
          by_cases hx : (x.toNat : Int) = 45
          · rw [all_bad hw (p := labelS) (by rw [hlab]; simp [hx])]
            clear hlab
            repeat' (first
| ((with_reducible apply opsF.op rfl); case hs => first | exact tHT | exact tHS)
| (with_reducible first | apply opsF.nil | apply seqF.nn | apply vcF.seq | apply vcF.region | apply vcF.skip | apply vcF.block | apply vcF.exit | apply vcF.ret | apply vcF.loop | apply seqF.e | apply seqF.r | apply blkF.nn | apply blkF.e | apply blkF.r | apply blkF.o rfl)
| ((with_reducible apply opsF.call); case hx => exact tAG)
| ((with_reducible apply opsF.want); (case hg => exact tEV); case hb => exact tNB)
| ((with_reducible apply opsF.skip); (case hg => exact tEV); case hb => exact tNB)
| (first | ((with_reducible apply opsF.case); case hg => exact tEV) | ((with_reducible apply vcF.cond); case hx => exact tEV)) <;> ((intro hc; try simp only [Int.reduceLT, Int.reduceLE, Int.reduceEq, Int.reduceNe, Int.cast_ofNat_Int, Int.reduceNeg, reduceCtorEq, ne_eq, ge_iff_le, gt_iff_lt, beq_iff_eq, beq_eq_false_iff_ne, bne_iff_ne, bne_eq_false_iff_eq, nrm, *] at hc) <;> try (exfalso; omega))
| ((with_reducible apply opsF.und); case hg => rfl)
| ((with_reducible first | apply retF.r | apply retF.nn); case hv => exact tRS))
            all_goals exact ⟨rfl, .refl _⟩
          · by_cases hzz : (z.toNat : Int) = 45
            · rw [all_bad hw (p := labelS) (by rw [hlab]; simp [hzz])]
              clear hlab
              repeat' (first
| ((with_reducible apply opsF.op rfl); case hs => first | exact tHT | exact tHS)
| (with_reducible first | apply opsF.nil | apply seqF.nn | apply vcF.seq | apply vcF.region | apply vcF.skip | apply vcF.block | apply vcF.exit | apply vcF.ret | apply vcF.loop | apply seqF.e | apply seqF.r | apply blkF.nn | apply blkF.e | apply blkF.r | apply blkF.o rfl)
| ((with_reducible apply opsF.call); case hx => exact tAG)
| ((with_reducible apply opsF.want); (case hg => exact tEV); case hb => exact tNB)
| ((with_reducible apply opsF.skip); (case hg => exact tEV); case hb => exact tNB)
| (first | ((with_reducible apply opsF.case); case hg => exact tEV) | ((with_reducible apply vcF.cond); case hx => exact tEV)) <;> ((intro hc; try simp only [Int.reduceLT, Int.reduceLE, Int.reduceEq, Int.reduceNe, Int.cast_ofNat_Int, Int.reduceNeg, reduceCtorEq, ne_eq, ge_iff_le, gt_iff_lt, beq_iff_eq, beq_eq_false_iff_ne, bne_iff_ne, bne_eq_false_iff_eq, nrm, *] at hc) <;> try (exfalso; omega))
| ((with_reducible apply opsF.und); case hg => rfl)
| ((with_reducible first | apply retF.r | apply retF.nn); case hv => exact tRS))
              all_goals exact ⟨rfl, .refl _⟩
            · have hlab2 : labelS w = w.all innerB := by rw [hlab]; simp [hx, hzz]
              clear hlab
              have hww : ws.all labelS = false ∨ w.all innerB = true := by
                cases hq : w.all innerB with
                | true => exact .inr rfl
                | false => exact .inl (all_bad hw (by rw [hlab2, hq]))
              repeat' (first
| ((with_reducible apply opsF.op rfl); case hs => first | exact tHT | exact tHS)
| (with_reducible first | apply opsF.nil | apply seqF.nn | apply vcF.seq | apply vcF.region | apply vcF.skip | apply vcF.block | apply vcF.exit | apply vcF.ret | apply vcF.loop | apply seqF.e | apply seqF.r | apply blkF.nn | apply blkF.e | apply blkF.r | apply blkF.o rfl)
| ((with_reducible apply opsF.call); case hx => exact tAG)
| ((with_reducible apply opsF.want); (case hg => exact tEV); case hb => exact tNB)
| ((with_reducible apply opsF.skip); (case hg => exact tEV); case hb => exact tNB)
| (first | ((with_reducible apply opsF.case); case hg => exact tEV) | ((with_reducible apply vcF.cond); case hx => exact tEV)) <;> ((intro hc; try simp only [Int.reduceLT, Int.reduceLE, Int.reduceEq, Int.reduceNe, Int.cast_ofNat_Int, Int.reduceNeg, reduceCtorEq, ne_eq, ge_iff_le, gt_iff_lt, beq_iff_eq, beq_eq_false_iff_ne, bne_iff_ne, bne_eq_false_iff_eq, nrm, *] at hc) <;> try (exfalso; omega))
| ((with_reducible apply opsF.und); case hg => rfl)
| ((with_reducible first | apply retF.r | apply retF.nn); case hv => exact tRS))
              refine LpF.ind rfl (fun k : Nat => w.length - k) (fun k σ hk => hk = hh ∧ σ 3 = .list 1 (srows ws) .no ∧ σ 4 = .v (.int .i64 (i : Nat)) ∧ σ 5 = .v (.string (bs w)) ∧ σ 6 = .v (.int .i64 (k : Nat)) ∧ k ≤ w.length ∧ (w.take k).all innerB = true) ?_ (i := 0) ⟨rfl, g3, g4, rfl, rfl, Nat.zero_le _, rfl⟩
              clear g3 g4
              rintro k σ hk ⟨rfl, g3, g4, g5, g6, hk2, hal2⟩
              rcases Nat.lt_or_ge k w.length with hlt2 | hge2
              · obtain ⟨y, hy⟩ : ∃ x, w[k]? = some x := ⟨_, List.getElem?_eq_getElem hlt2⟩
                have hlet := fun h => rletter_call (w0 := w0) y h
                have hab : innerB y = (letterB y || decide ((y.toNat : Int) = 45)) := by
                  unfold innerB
                  congr 1
                  rw [decide_eq_decide]
                  omega
                cases hL : letterB y
                · rw [hL] at hlet hab
                  by_cases hy45 : (y.toNat : Int) = 45
                  · have hab1 : innerB y = true := by rw [hab]; simp [hy45]
                    clear hab
                    rw [hy45] at hlet
                    repeat' (first
| ((with_reducible apply opsF.op rfl); case hs => first | exact tHT | exact tHS)
| (with_reducible first | apply opsF.nil | apply seqF.nn | apply vcF.seq | apply vcF.region | apply vcF.skip | apply vcF.block | apply vcF.exit | apply vcF.ret | apply vcF.loop | apply seqF.e | apply seqF.r | apply blkF.nn | apply blkF.e | apply blkF.r | apply blkF.o rfl)
| ((with_reducible apply opsF.call); case hx => exact tAG)
| ((with_reducible apply opsF.want); (case hg => exact tEV); case hb => exact tNB)
| ((with_reducible apply opsF.skip); (case hg => exact tEV); case hb => exact tNB)
| (first | ((with_reducible apply opsF.case); case hg => exact tEV) | ((with_reducible apply vcF.cond); case hx => exact tEV)) <;> ((intro hc; try simp only [Int.reduceLT, Int.reduceLE, Int.reduceEq, Int.reduceNe, Int.cast_ofNat_Int, Int.reduceNeg, reduceCtorEq, ne_eq, ge_iff_le, gt_iff_lt, beq_iff_eq, beq_eq_false_iff_ne, bne_iff_ne, bne_eq_false_iff_eq, nrm, *] at hc) <;> try (exfalso; omega))
| ((with_reducible apply opsF.und); case hg => rfl)
| ((with_reducible first | apply retF.r | apply retF.nn); case hv => exact tRS)
| ((refine (hlet _).mono fun v h2 hp => ?_); obtain ⟨rfl, rfl⟩ := hp))
                    refine ⟨k + 1, by omega, rfl, g3, g4, g5, rfl, by omega, ?_⟩
                    rw [List.take_add_one, hy, List.all_append, hal2]; simp [hab1]
                  · have hab1 : innerB y = false := by rw [hab]; simp [hy45]
                    have hbad : ws.all labelS = false := all_bad hw (by rw [hlab2]; exact all_bad hy hab1)
                    rw [hbad]
                    clear hab hww
                    repeat' (first
| ((with_reducible apply opsF.op rfl); case hs => first | exact tHT | exact tHS)
| (with_reducible first | apply opsF.nil | apply seqF.nn | apply vcF.seq | apply vcF.region | apply vcF.skip | apply vcF.block | apply vcF.exit | apply vcF.ret | apply vcF.loop | apply seqF.e | apply seqF.r | apply blkF.nn | apply blkF.e | apply blkF.r | apply blkF.o rfl)
| ((with_reducible apply opsF.call); case hx => exact tAG)
| ((with_reducible apply opsF.want); (case hg => exact tEV); case hb => exact tNB)
| ((with_reducible apply opsF.skip); (case hg => exact tEV); case hb => exact tNB)
| (first | ((with_reducible apply opsF.case); case hg => exact tEV) | ((with_reducible apply vcF.cond); case hx => exact tEV)) <;> ((intro hc; try simp only [Int.reduceLT, Int.reduceLE, Int.reduceEq, Int.reduceNe, Int.cast_ofNat_Int, Int.reduceNeg, reduceCtorEq, ne_eq, ge_iff_le, gt_iff_lt, beq_iff_eq, beq_eq_false_iff_ne, bne_iff_ne, bne_eq_false_iff_eq, nrm, *] at hc) <;> try (exfalso; omega))
| ((with_reducible apply opsF.und); case hg => rfl)
| ((with_reducible first | apply retF.r | apply retF.nn); case hv => exact tRS)
| ((refine (hlet _).mono fun v h2 hp => ?_); obtain ⟨rfl, rfl⟩ := hp))
                    all_goals exact ⟨rfl, .refl _⟩
                · rw [hL] at hlet hab
                  rw [Bool.true_or] at hab
                  repeat' (first
| ((with_reducible apply opsF.op rfl); case hs => first | exact tHT | exact tHS)
| (with_reducible first | apply opsF.nil | apply seqF.nn | apply vcF.seq | apply vcF.region | apply vcF.skip | apply vcF.block | apply vcF.exit | apply vcF.ret | apply vcF.loop | apply seqF.e | apply seqF.r | apply blkF.nn | apply blkF.e | apply blkF.r | apply blkF.o rfl)
| ((with_reducible apply opsF.call); case hx => exact tAG)
| ((with_reducible apply opsF.want); (case hg => exact tEV); case hb => exact tNB)
| ((with_reducible apply opsF.skip); (case hg => exact tEV); case hb => exact tNB)
| (first | ((with_reducible apply opsF.case); case hg => exact tEV) | ((with_reducible apply vcF.cond); case hx => exact tEV)) <;> ((intro hc; try simp only [Int.reduceLT, Int.reduceLE, Int.reduceEq, Int.reduceNe, Int.cast_ofNat_Int, Int.reduceNeg, reduceCtorEq, ne_eq, ge_iff_le, gt_iff_lt, beq_iff_eq, beq_eq_false_iff_ne, bne_iff_ne, bne_eq_false_iff_eq, nrm, *] at hc) <;> try (exfalso; omega))
| ((with_reducible apply opsF.und); case hg => rfl)
| ((with_reducible first | apply retF.r | apply retF.nn); case hv => exact tRS)
| ((refine (hlet _).mono fun v h2 hp => ?_); obtain ⟨rfl, rfl⟩ := hp))
                  refine ⟨k + 1, by omega, rfl, g3, g4, g5, rfl, by omega, ?_⟩
                  rw [List.take_add_one, hy, List.all_append, hal2]; simp [hab]
              · obtain rfl : k = w.length := by omega
                rw [List.take_length] at hal2
                repeat' (first
| ((with_reducible apply opsF.op rfl); case hs => first | exact tHT | exact tHS)
| (with_reducible first | apply opsF.nil | apply seqF.nn | apply vcF.seq | apply vcF.region | apply vcF.skip | apply vcF.block | apply vcF.exit | apply vcF.ret | apply vcF.loop | apply seqF.e | apply seqF.r | apply blkF.nn | apply blkF.e | apply blkF.r | apply blkF.o rfl)
| ((with_reducible apply opsF.call); case hx => exact tAG)
| ((with_reducible apply opsF.want); (case hg => exact tEV); case hb => exact tNB)
| ((with_reducible apply opsF.skip); (case hg => exact tEV); case hb => exact tNB)
| (first | ((with_reducible apply opsF.case); case hg => exact tEV) | ((with_reducible apply vcF.cond); case hx => exact tEV)) <;> ((intro hc; try simp only [Int.reduceLT, Int.reduceLE, Int.reduceEq, Int.reduceNe, Int.cast_ofNat_Int, Int.reduceNeg, reduceCtorEq, ne_eq, ge_iff_le, gt_iff_lt, beq_iff_eq, beq_eq_false_iff_ne, bne_iff_ne, bne_eq_false_iff_eq, nrm, *] at hc) <;> try (exfalso; omega))
| ((with_reducible apply opsF.und); case hg => rfl)
| ((with_reducible first | apply retF.r | apply retF.nn); case hv => exact tRS))
                refine ⟨i + 1, by omega, rfl, g3, rfl, by omega, ?_⟩
                rw [List.take_add_one, hw, List.all_append, hal]
                simp [hlab2, hal2]
        · rw [all_bad hw (p := labelS) (by simp [labelS, h63])]
          repeat' (first
| ((with_reducible apply opsF.op rfl); case hs => first | exact tHT | exact tHS)
| (with_reducible first | apply opsF.nil | apply seqF.nn | apply vcF.seq | apply vcF.region | apply vcF.skip | apply vcF.block | apply vcF.exit | apply vcF.ret | apply vcF.loop | apply seqF.e | apply seqF.r | apply blkF.nn | apply blkF.e | apply blkF.r | apply blkF.o rfl)
| ((with_reducible apply opsF.call); case hx => exact tAG)
| ((with_reducible apply opsF.want); (case hg => exact tEV); case hb => exact tNB)
| ((with_reducible apply opsF.skip); (case hg => exact tEV); case hb => exact tNB)
| (first | ((with_reducible apply opsF.case); case hg => exact tEV) | ((with_reducible apply vcF.cond); case hx => exact tEV)) <;> ((intro hc; try simp only [Int.reduceLT, Int.reduceLE, Int.reduceEq, Int.reduceNe, Int.cast_ofNat_Int, Int.reduceNeg, reduceCtorEq, ne_eq, ge_iff_le, gt_iff_lt, beq_iff_eq, beq_eq_false_iff_ne, bne_iff_ne, bne_eq_false_iff_eq, nrm, *] at hc) <;> try (exfalso; omega))
| ((with_reducible apply opsF.und); case hg => rfl)
| ((with_reducible first | apply retF.r | apply retF.nn); case hv => exact tRS))
          all_goals exact ⟨rfl, .refl _⟩
    · obtain rfl : i = ws.length := by omega
      rw [List.take_length] at hal
      rw [hal]
      repeat' (first
| ((with_reducible apply opsF.op rfl); case hs => first | exact tHT | exact tHS)
| (with_reducible first | apply opsF.nil | apply seqF.nn | apply vcF.seq | apply vcF.region | apply vcF.skip | apply vcF.block | apply vcF.exit | apply vcF.ret | apply vcF.loop | apply seqF.e | apply seqF.r | apply blkF.nn | apply blkF.e | apply blkF.r | apply blkF.o rfl)
| ((with_reducible apply opsF.call); case hx => exact tAG)
| ((with_reducible apply opsF.want); (case hg => exact tEV); case hb => exact tNB)
| ((with_reducible apply opsF.skip); (case hg => exact tEV); case hb => exact tNB)
| (first | ((with_reducible apply opsF.case); case hg => exact tEV) | ((with_reducible apply vcF.cond); case hx => exact tEV)) <;> ((intro hc; try simp only [Int.reduceLT, Int.reduceLE, Int.reduceEq, Int.reduceNe, Int.cast_ofNat_Int, Int.reduceNeg, reduceCtorEq, ne_eq, ge_iff_le, gt_iff_lt, beq_iff_eq, beq_eq_false_iff_ne, bne_iff_ne, bne_eq_false_iff_eq, nrm, *] at hc) <;> try (exfalso; omega))
| ((with_reducible apply opsF.und); case hg => rfl)
| ((with_reducible first | apply retF.r | apply retF.nn); case hv => exact tRS))
      all_goals exact ⟨rfl, .refl _⟩
  · have hls : domainS s = false := by simp [domainS, h255]
    rw [hls]
    repeat' (first
| ((with_reducible apply opsF.op rfl); case hs => first | exact tHT | exact tHS)
| (with_reducible first | apply opsF.nil | apply seqF.nn | apply vcF.seq | apply vcF.region | apply vcF.skip | apply vcF.block | apply vcF.exit | apply vcF.ret | apply vcF.loop | apply seqF.e | apply seqF.r | apply blkF.nn | apply blkF.e | apply blkF.r | apply blkF.o rfl)
| ((with_reducible apply opsF.call); case hx => exact tAG)
| ((with_reducible apply opsF.want); (case hg => exact tEV); case hb => exact tNB)
| ((with_reducible apply opsF.skip); (case hg => exact tEV); case hb => exact tNB)
| (first | ((with_reducible apply opsF.case); case hg => exact tEV) | ((with_reducible apply vcF.cond); case hx => exact tEV)) <;> ((intro hc; try simp only [Int.reduceLT, Int.reduceLE, Int.reduceEq, Int.reduceNe, Int.cast_ofNat_Int, Int.reduceNeg, reduceCtorEq, ne_eq, ge_iff_le, gt_iff_lt, beq_iff_eq, beq_eq_false_iff_ne, bne_iff_ne, bne_eq_false_iff_eq, nrm, *] at hc) <;> try (exfalso; omega))
| ((with_reducible apply opsF.und); case hg => rfl)
| ((with_reducible first | apply retF.r | apply retF.nn); case hv => exact tRS))
    all_goals exact ⟨rfl, .refl _⟩
theorem rsplit_call (s : List UInt8) (h : AH) (hl : s.length ≤ 1000000000000000) : Call P w0 ref01_Split [.v (.string (bs s))] h (fun v h' => v = splitV s ∧ Ext h h') := by
  have hfind := fun h => rfind_call (w0 := w0) s 64 h (by omega)
  rcases cutB_cases 64 s with ⟨h1, h2⟩ | ⟨a, r, rfl, h1, h2⟩
  · have hsv : splitV s = .tup [.v (.string (bs [])), .v (.string (bs [])), .v (.bool false)] := by simp [splitV, splitO, h2]
    rw [hsv]
    rw [idx_miss h1] at hfind
    refine Call.bodyF b_ref01_Split rfl rfl ?_
    unfold c_ref01_Split
    repeat' (first
| ((with_reducible apply opsF.op rfl); case hs => first | exact tHT | exact tHS)
| (with_reducible first | apply opsF.nil | apply seqF.nn | apply vcF.seq | apply vcF.region | apply vcF.skip | apply vcF.ret | apply seqF.r)
| ((with_reducible apply opsF.call); case hx => exact tAG)
| ((with_reducible apply opsF.want); (case hg => exact tEV); case hb => exact tNB)
| ((with_reducible apply opsF.skip); (case hg => exact tEV); case hb => exact tNB)
| (first | ((with_reducible apply opsF.case); case hg => exact tEV) | ((with_reducible apply vcF.cond); case hx => exact tEV)) <;> ((intro hc; try simp only [Int.reduceLT, Int.reduceLE, Int.reduceEq, Int.reduceNe, Int.cast_ofNat_Int, Int.reduceNeg, reduceCtorEq, ne_eq, ge_iff_le, gt_iff_lt, beq_iff_eq, beq_eq_false_iff_ne, bne_iff_ne, bne_eq_false_iff_eq, nrm, *] at hc) <;> try (exfalso; omega))
| ((with_reducible apply opsF.und); case hg => rfl)
| ((with_reducible first | apply retF.r | apply retF.nn); case hv => exact tRS)
| ((refine (hfind _).mono fun v h2 hp => ?_); obtain ⟨rfl, rfl⟩ := hp))
    all_goals exact ⟨rfl, .refl _⟩
  · have hsv : splitV (a ++ 64 :: r) = if localS a = true ∧ domainS r = true then .tup [.v (.string (bs a)), .v (.string (bs r)), .v (.bool true)] else .tup [.v (.string (bs [])), .v (.string (bs [])), .v (.bool false)] := by
      simp only [splitV, splitO, h2, true_and]
      by_cases hc : localS a = true ∧ domainS r = true
      · rw [if_pos hc, if_pos hc]
      · rw [if_neg hc, if_neg hc]
    rw [hsv]
    clear hsv h2
    rw [idx_hit h1] at hfind
    have hlen : (a ++ 64 :: r).length = a.length + (r.length + 1) := by simp
    have hlo := fun h => rlocal_call (w0 := w0) a h (by omega)
    have hdo := fun h => rdomain_call (w0 := w0) r h (by omega)
    have ht : (a ++ 64 :: r).take a.length = a := by simp
    have hd : (a ++ 64 :: r).drop (a.length + 1) = r := by
      rw [← List.drop_drop]; simp
    have hd2 : ((a ++ 64 :: r).take (a.length + (r.length + 1))).drop (a.length + 1) = r := by
      rw [← hlen, List.take_length]; exact hd
    have ht1 : ((a.length : Int) + 1).toNat = a.length + 1 := by omega
    generalize a ++ 64 :: r = s at *
    refine Call.bodyF b_ref01_Split rfl rfl ?_
    unfold c_ref01_Split
    cases hA : localS a <;> cases hD : domainS r
    all_goals rw [hA] at hlo
    all_goals rw [hD] at hdo
    all_goals simp only [Bool.false_eq_true, false_and, and_false, if_false, and_self, if_true]
    all_goals repeat' (first
| ((with_reducible apply opsF.op rfl); case hs => first | exact tHT | exact tHS)
| (with_reducible first | apply opsF.nil | apply seqF.nn | apply vcF.seq | apply vcF.region | apply vcF.skip | apply vcF.ret | apply seqF.r)
| ((with_reducible apply opsF.call); case hx => exact tAG)
| ((with_reducible apply opsF.want); (case hg => exact tEV); case hb => exact tNB)
| ((with_reducible apply opsF.skip); (case hg => exact tEV); case hb => exact tNB)
| (first | ((with_reducible apply opsF.case); case hg => exact tEV) | ((with_reducible apply vcF.cond); case hx => exact tEV)) <;> ((intro hc; try simp only [Int.reduceLT, Int.reduceLE, Int.reduceEq, Int.reduceNe, Int.cast_ofNat_Int, Int.reduceNeg, reduceCtorEq, ne_eq, ge_iff_le, gt_iff_lt, beq_iff_eq, beq_eq_false_iff_ne, bne_iff_ne, bne_eq_false_iff_eq, nrm, *] at hc) <;> try (exfalso; omega))
| ((with_reducible apply opsF.und); case hg => rfl)
| ((with_reducible first | apply retF.r | apply retF.nn); case hv => exact tRS)
| ((refine (hfind _).mono fun v h2 hp => ?_); obtain ⟨rfl, rfl⟩ := hp)
| ((refine (hlo _).mono fun v h2 hp => ?_); obtain ⟨rfl, he⟩ := hp; have hN := he.n; have hO := he.objs; (try simp only [alloc_n, set_n, newTok_n, bump_n] at hN hO))
| ((refine (hdo _).mono fun v h3 hp => ?_); obtain ⟨rfl, he2⟩ := hp; have hN := he2.n; have hO := he2.objs; (try simp only [alloc_n, set_n, newTok_n, bump_n] at hN hO)))
    all_goals first
      | exact ⟨rfl, .refl _⟩
      | exact ⟨rfl, he.trans he2⟩
      | exact ⟨rfl, he⟩
theorem rcanon_call (s : List UInt8) (h : AH) (hl : s.length ≤ 1000000000000000) : Call P w0 ref01_Canon [.v (.string (bs s))] h (fun v h' => v = optV (canonO s) ∧ Ext h h') := by
  have hsp := fun h => rsplit_call (w0 := w0) s h hl
  rw [canonV_eq]
  unfold splitV at hsp
  refine Call.bodyF b_ref01_Canon rfl rfl ?_
  unfold c_ref01_Canon
  cases hx : splitO s with
  | none =>
    rw [hx] at hsp
    repeat' (first
| ((with_reducible apply opsF.op rfl); case hs => first | exact tHT | exact tHS)
| (with_reducible first | apply opsF.nil | apply seqF.nn | apply vcF.seq | apply vcF.region | apply vcF.skip | apply vcF.ret | apply seqF.r)
| ((with_reducible apply opsF.call); case hx => exact tAG)
| ((with_reducible apply vcF.cond); case hx => exact tEV) <;> ((intro hc; try simp only [Int.reduceLT, Int.reduceLE, Int.reduceEq, Int.reduceNe, Int.cast_ofNat_Int, Int.reduceNeg, reduceCtorEq, ne_eq, ge_iff_le, gt_iff_lt, beq_iff_eq, beq_eq_false_iff_ne, bne_iff_ne, bne_eq_false_iff_eq, nrm, *] at hc) <;> try (exfalso; omega))
| ((with_reducible first | apply retF.r | apply retF.nn); case hv => exact tRS)
| ((refine (hsp _).mono fun v h2 hp => ?_); obtain ⟨rfl, he⟩ := hp; have hN := he.n; have hO := he.objs; (try simp only [alloc_n, set_n, newTok_n, bump_n] at hN hO)))
    all_goals exact ⟨rfl, he⟩
  | some x =>
    obtain ⟨a, b⟩ := x
    obtain ⟨g1, g2⟩ := splitO_len hx
    rw [hx] at hsp
    simp only [] at g1 g2 hsp ⊢
    have hlw := fun h => rlower_call (w0 := w0) b h (by omega)
    have hll := lowerS_len b
    repeat' (first
| ((with_reducible apply opsF.op rfl); case hs => first | exact tHT | exact tHS)
| (with_reducible first | apply opsF.nil | apply seqF.nn | apply vcF.seq | apply vcF.region | apply vcF.skip | apply vcF.ret | apply seqF.r)
| ((with_reducible apply opsF.call); case hx => exact tAG)
| ((with_reducible apply vcF.cond); case hx => exact tEV) <;> ((intro hc; try simp only [Int.reduceLT, Int.reduceLE, Int.reduceEq, Int.reduceNe, Int.cast_ofNat_Int, Int.reduceNeg, reduceCtorEq, ne_eq, ge_iff_le, gt_iff_lt, beq_iff_eq, beq_eq_false_iff_ne, bne_iff_ne, bne_eq_false_iff_eq, nrm, *] at hc) <;> try (exfalso; omega))
| ((with_reducible first | apply retF.r | apply retF.nn); case hv => exact tRS)
| ((refine (hsp _).mono fun v h2 hp => ?_); obtain ⟨rfl, he⟩ := hp; have hN := he.n; have hO := he.objs; (try simp only [alloc_n, set_n, newTok_n, bump_n] at hN hO))
| ((refine (hlw _).mono fun v h3 hp => ?_); obtain ⟨rfl, he2⟩ := hp; have hN := he2.n; have hO := he2.objs; (try simp only [alloc_n, set_n, newTok_n, bump_n] at hN hO)))
    all_goals exact ⟨by simp, he.trans he2⟩
end Go.Abs.F
/- The compact code of functions, printed by a program of mine. -/
namespace Go.Abs.F
open Go Go.Abs
set_option maxRecDepth 100000
noncomputable def c_env_Encode : IC := .seq (.region [⟨some 1, .box (.tmp 0), none⟩, ⟨some 2, .mv (.cst (.list 1 [] .full)), none⟩, ⟨some 3, .mv (.cst (.v (.int .i64 0))), none⟩]) (.seq (.seq (.region [⟨some 13, .load (.tmp 1) (some 9), none⟩, ⟨some 14, .call env_Good [.tmp 13], none⟩, ⟨some 15, .un .not (.tmp 14), none⟩]) (.cond (.tmp 15) (.seq (.region [⟨some 2, .mv (.cst (.list 1 [] .full)), none⟩, ⟨some 3, .mv (.cst (.v (.int .i64 2))), none⟩]) .ret) .skip)) (.seq (.region [⟨some 4, .newT 58 [.v (.pointer none), .list 1 [] .full], none⟩]) (.seq (.region [⟨some 16, .mkf (.func env_Encode_1) [] [.tmp 4], none⟩, ⟨some 5, .mv (.tmp 16), none⟩]) (.seq (.region [⟨some 17, .mv (.tmp 5), none⟩, ⟨some 18, .fad (.tmp 1) 0, none⟩, ⟨some 19, .load (.tmp 18) none, none⟩, ⟨some 20, .call strconv_Itoa [.tmp 19], none⟩, ⟨some 21, .callv (.tmp 17) [.cst (.v (.string (bs [105, 100]))), .tmp 20], none⟩]) (.seq (.region [⟨some 22, .mv (.tmp 5), none⟩, ⟨some 23, .fad (.tmp 1) 1, none⟩, ⟨some 24, .load (.tmp 23) none, none⟩, ⟨some 25, .call strconv_Itoa [.tmp 24], none⟩, ⟨some 26, .callv (.tmp 22) [.cst (.v (.string (bs [103, 101, 110]))), .tmp 25], none⟩]) (.seq (.region [⟨some 27, .mv (.tmp 5), none⟩, ⟨some 28, .fad (.tmp 1) 2, none⟩, ⟨some 29, .load (.tmp 28) none, none⟩, ⟨some 30, .call strconv_Itoa [.tmp 29], none⟩, ⟨some 31, .callv (.tmp 27) [.cst (.v (.string (bs [98, 111, 114, 110]))), .tmp 30], none⟩]) (.seq (.region [⟨some 32, .mv (.tmp 5), none⟩, ⟨some 33, .fad (.tmp 1) 3, none⟩, ⟨some 34, .load (.tmp 33) none, none⟩, ⟨some 35, .call strconv_Itoa [.tmp 34], none⟩, ⟨some 36, .callv (.tmp 32) [.cst (.v (.string (bs [116, 114, 105, 101, 115]))), .tmp 35], none⟩]) (.seq (.region [⟨some 37, .mv (.tmp 5), none⟩, ⟨some 38, .fad (.tmp 1) 4, none⟩, ⟨some 39, .load (.tmp 38) none, none⟩, ⟨some 40, .call strconv_Itoa [.tmp 39], none⟩, ⟨some 41, .callv (.tmp 37) [.cst (.v (.string (bs [100, 117, 101]))), .tmp 40], none⟩]) (.seq (.region [⟨some 42, .mv (.tmp 5), none⟩, ⟨some 43, .fad (.tmp 1) 5, none⟩, ⟨some 44, .load (.tmp 43) none, none⟩, ⟨some 45, .callv (.tmp 42) [.cst (.v (.string (bs [102, 114, 111, 109]))), .tmp 44], none⟩]) (.seq (.seq (.region [⟨some 46, .fad (.tmp 1) 6, none⟩, ⟨some 47, .load (.tmp 46) none, none⟩, ⟨some 48, .len .sl (.tmp 47), none⟩, ⟨some 49, .mv (.cst (.v (.int .i64 0))), none⟩]) (.block 0 (.loop (.seq (.region [⟨some 50, .bin .lss .other (.tmp 49) (.tmp 48), none⟩]) (.seq (.cond (.tmp 50) .skip (.exit 0)) (.seq (.block 1 (.seq (.region [⟨some 51, .iaL 1 (.tmp 47) (.tmp 49), none⟩, ⟨some 52, .load (.tmp 51) none, none⟩, ⟨some 7, .mv (.tmp 52), none⟩]) (.region [⟨some 53, .mv (.tmp 5), none⟩, ⟨some 54, .mv (.tmp 7), none⟩, ⟨some 55, .callv (.tmp 53) [.cst (.v (.string (bs [114, 99, 112, 116]))), .tmp 54], none⟩]))) (.region [⟨some 56, .bin .add .other (.tmp 49) (.cst (.v (.int .i64 1))), none⟩, ⟨some 49, .mv (.tmp 56), none⟩]))))))) (.seq (.region [⟨some 8, .mv (.cst (.v (.string (bs [])))), none⟩]) (.seq (.seq (.region [⟨some 57, .fad (.tmp 1) 7, none⟩, ⟨some 58, .load (.tmp 57) none, none⟩, ⟨some 59, .len .sl (.tmp 58), none⟩, ⟨some 60, .mv (.cst (.v (.int .i64 0))), none⟩]) (.block 2 (.loop (.seq (.region [⟨some 61, .bin .lss .other (.tmp 60) (.tmp 59), none⟩]) (.seq (.cond (.tmp 61) .skip (.exit 2)) (.seq (.block 3 (.seq (.region [⟨some 62, .iaL 1 (.tmp 58) (.tmp 60), none⟩, ⟨some 63, .load (.tmp 62) none, none⟩, ⟨some 10, .mv (.tmp 63), none⟩]) (.region [⟨some 64, .mv (.tmp 8), none⟩, ⟨some 65, .mv (.tmp 10), none⟩, ⟨some 66, .call strconv_Itoa [.tmp 65], none⟩, ⟨some 67, .bin .add .other (.tmp 64) (.tmp 66), none⟩, ⟨some 8, .mv (.tmp 67), none⟩]))) (.region [⟨some 68, .bin .add .other (.tmp 60) (.cst (.v (.int .i64 1))), none⟩, ⟨some 60, .mv (.tmp 68), none⟩]))))))) (.seq (.region [⟨some 69, .mv (.tmp 5), none⟩, ⟨some 70, .mv (.tmp 8), none⟩, ⟨some 71, .callv (.tmp 69) [.cst (.v (.string (bs [109, 97, 114, 107, 115]))), .tmp 70], none⟩]) (.seq (.region [⟨some 72, .call strings_Builder_WriteString [.tmp 4, .cst (.v (.string (bs [10])))], none⟩]) (.seq (.seq (.region [⟨some 73, .fad (.tmp 1) 8, none⟩, ⟨some 74, .load (.tmp 73) none, none⟩, ⟨some 75, .len .sl (.tmp 74), none⟩, ⟨some 76, .mv (.cst (.v (.int .i64 0))), none⟩]) (.block 4 (.loop (.seq (.region [⟨some 77, .bin .lss .other (.tmp 76) (.tmp 75), none⟩]) (.seq (.cond (.tmp 77) .skip (.exit 4)) (.seq (.block 5 (.seq (.region [⟨some 78, .iaL 1 (.tmp 74) (.tmp 76), none⟩, ⟨some 79, .load (.tmp 78) none, none⟩, ⟨some 12, .mv (.tmp 79), none⟩]) (.region [⟨some 80, .mv (.tmp 12), none⟩, ⟨some 81, .bin .add .other (.tmp 80) (.cst (.v (.string (bs [10])))), none⟩, ⟨some 82, .call strings_Builder_WriteString [.tmp 4, .tmp 81], none⟩]))) (.region [⟨some 83, .bin .add .other (.tmp 76) (.cst (.v (.int .i64 1))), none⟩, ⟨some 76, .mv (.tmp 83), none⟩]))))))) (.seq (.region [⟨some 84, .call strings_Builder_String [.tmp 4], none⟩, ⟨some 85, .s2b .false (.tmp 84), none⟩, ⟨some 2, .mv (.tmp 85), none⟩, ⟨some 3, .mv (.cst (.v (.int .i64 0))), none⟩]) .ret))))))))))))))))
theorem b_env_Encode : HasBody P env_Encode 86 c_env_Encode [.tmp 2, .tmp 3] := .of [] (by kernel_rfl)
noncomputable def c_ref08_Good : IC := .seq (.region [⟨some 1, .box (.tmp 0), none⟩, ⟨some 2, .mv (.cst (.v (.bool .false))), none⟩]) (.seq (.region [⟨some 7, .fad (.tmp 1) 0, none⟩, ⟨some 8, .load (.tmp 7) none, none⟩, ⟨some 9, .fad (.tmp 1) 1, none⟩, ⟨some 10, .load (.tmp 9) none, none⟩, ⟨some 11, .fad (.tmp 1) 2, none⟩, ⟨some 12, .load (.tmp 11) none, none⟩, ⟨some 13, .fad (.tmp 1) 3, none⟩, ⟨some 14, .load (.tmp 13) none, none⟩, ⟨some 15, .fad (.tmp 1) 4, none⟩, ⟨some 16, .load (.tmp 15) none, none⟩, ⟨some 17, .lit 1 5 [.v (.int .i64 0)] [(0, .tmp 8), (1, .tmp 10), (2, .tmp 12), (3, .tmp 14), (4, .tmp 16)], none⟩, ⟨some 3, .mv (.tmp 17), none⟩]) (.seq (.seq (.region [⟨some 4, .mv (.cst (.v (.int .i64 0))), none⟩]) (.block 0 (.loop (.seq (.seq (.region [⟨some 18, .mv (.tmp 4), none⟩, ⟨some 19, .bin .lss .other (.tmp 18) (.cst (.v (.int .i64 5))), none⟩]) (.cond (.tmp 19) .skip (.exit 0))) (.seq (.block 1 (.seq (.region [⟨some 22, .mv (.tmp 3), none⟩, ⟨some 23, .mv (.tmp 4), none⟩, ⟨some 24, .iaL 1 (.tmp 22) (.tmp 23), none⟩, ⟨some 25, .load (.tmp 24) none, none⟩, ⟨some 26, .bin .lss .other (.tmp 25) (.cst (.v (.int .i64 0))), none⟩, ⟨some 27, .mv (.tmp 26), none⟩, ⟨some 28, .mv (.tmp 3), some (27, .false)⟩, ⟨some 29, .mv (.tmp 4), some (27, .false)⟩, ⟨some 30, .iaL 1 (.tmp 28) (.tmp 29), some (27, .false)⟩, ⟨some 31, .load (.tmp 30) none, some (27, .false)⟩, ⟨some 32, .bin .gtr .other (.tmp 31) (.cst (.v (.int .i64 1099511627776))), some (27, .false)⟩, ⟨some 33, .pick (.tmp 27) (.cst (.v (.bool .true))) (.tmp 32), none⟩]) (.cond (.tmp 33) (.seq (.region [⟨some 2, .mv (.cst (.v (.bool .false))), none⟩]) .ret) .skip))) (.region [⟨some 20, .mv (.tmp 4), none⟩, ⟨some 21, .bin .add .other (.tmp 20) (.cst (.v (.int .i64 1))), none⟩, ⟨some 4, .mv (.tmp 21), none⟩])))))) (.seq (.seq (.region [⟨some 34, .fad (.tmp 1) 5, none⟩, ⟨some 35, .load (.tmp 34) none, none⟩, ⟨some 36, .bin .neq .other (.tmp 35) (.cst (.v (.string (bs [])))), none⟩, ⟨some 37, .mv (.tmp 36), none⟩, ⟨some 38, .fad (.tmp 1) 5, some (37, .true)⟩, ⟨some 39, .load (.tmp 38) none, some (37, .true)⟩, ⟨some 40, .call ref08_mailbox [.tmp 39], some (37, .true)⟩, ⟨some 41, .un .not (.tmp 40), some (37, .true)⟩, ⟨some 42, .pick (.tmp 37) (.tmp 41) (.cst (.v (.bool .false))), none⟩, ⟨some 43, .mv (.tmp 42), none⟩, ⟨some 44, .fad (.tmp 1) 6, some (43, .false)⟩, ⟨some 45, .load (.tmp 44) none, some (43, .false)⟩, ⟨some 46, .len .sl (.tmp 45), some (43, .false)⟩, ⟨some 47, .bin .lss .other (.tmp 46) (.cst (.v (.int .i64 1))), some (43, .false)⟩, ⟨some 48, .pick (.tmp 43) (.cst (.v (.bool .true))) (.tmp 47), none⟩, ⟨some 49, .mv (.tmp 48), none⟩, ⟨some 50, .fad (.tmp 1) 6, some (49, .false)⟩, ⟨some 51, .load (.tmp 50) none, some (49, .false)⟩, ⟨some 52, .len .sl (.tmp 51), some (49, .false)⟩, ⟨some 53, .bin .gtr .other (.tmp 52) (.cst (.v (.int .i64 20))), some (49, .false)⟩, ⟨some 54, .pick (.tmp 49) (.cst (.v (.bool .true))) (.tmp 53), none⟩, ⟨some 55, .mv (.tmp 54), none⟩, ⟨some 56, .fad (.tmp 1) 7, some (55, .false)⟩, ⟨some 57, .load (.tmp 56) none, some (55, .false)⟩, ⟨some 58, .len .sl (.tmp 57), some (55, .false)⟩, ⟨some 59, .bin .gtr .other (.tmp 58) (.cst (.v (.int .i64 50))), some (55, .false)⟩, ⟨some 60, .pick (.tmp 55) (.cst (.v (.bool .true))) (.tmp 59), none⟩, ⟨some 61, .mv (.tmp 60), none⟩, ⟨some 62, .fad (.tmp 1) 8, some (61, .false)⟩, ⟨some 63, .load (.tmp 62) none, some (61, .false)⟩, ⟨some 64, .call ref01_Good [.tmp 63], some (61, .false)⟩, ⟨some 65, .un .not (.tmp 64), some (61, .false)⟩, ⟨some 66, .pick (.tmp 61) (.cst (.v (.bool .true))) (.tmp 65), none⟩]) (.cond (.tmp 66) (.seq (.region [⟨some 2, .mv (.cst (.v (.bool .false))), none⟩]) .ret) .skip)) (.seq (.seq (.region [⟨some 5, .mv (.cst (.v (.int .i64 0))), none⟩]) (.block 2 (.loop (.seq (.seq (.region [⟨some 67, .mv (.tmp 5), none⟩, ⟨some 68, .fad (.tmp 1) 6, none⟩, ⟨some 69, .load (.tmp 68) none, none⟩, ⟨some 70, .len .sl (.tmp 69), none⟩, ⟨some 71, .bin .lss .other (.tmp 67) (.tmp 70), none⟩]) (.cond (.tmp 71) .skip (.exit 2))) (.seq (.block 3 (.seq (.region [⟨some 74, .fad (.tmp 1) 6, none⟩, ⟨some 75, .load (.tmp 74) none, none⟩, ⟨some 76, .mv (.tmp 5), none⟩, ⟨some 77, .iaL 1 (.tmp 75) (.tmp 76), none⟩, ⟨some 78, .load (.tmp 77) none, none⟩, ⟨some 79, .call ref08_mailbox [.tmp 78], none⟩, ⟨some 80, .un .not (.tmp 79), none⟩]) (.cond (.tmp 80) (.seq (.region [⟨some 2, .mv (.cst (.v (.bool .false))), none⟩]) .ret) .skip))) (.region [⟨some 72, .mv (.tmp 5), none⟩, ⟨some 73, .bin .add .other (.tmp 72) (.cst (.v (.int .i64 1))), none⟩, ⟨some 5, .mv (.tmp 73), none⟩])))))) (.seq (.seq (.region [⟨some 6, .mv (.cst (.v (.int .i64 0))), none⟩]) (.block 4 (.loop (.seq (.seq (.region [⟨some 81, .mv (.tmp 6), none⟩, ⟨some 82, .fad (.tmp 1) 7, none⟩, ⟨some 83, .load (.tmp 82) none, none⟩, ⟨some 84, .len .sl (.tmp 83), none⟩, ⟨some 85, .bin .lss .other (.tmp 81) (.tmp 84), none⟩]) (.cond (.tmp 85) .skip (.exit 4))) (.seq (.block 5 (.seq (.region [⟨some 88, .fad (.tmp 1) 7, none⟩, ⟨some 89, .load (.tmp 88) none, none⟩, ⟨some 90, .mv (.tmp 6), none⟩, ⟨some 91, .iaL 1 (.tmp 89) (.tmp 90), none⟩, ⟨some 92, .load (.tmp 91) none, none⟩, ⟨some 93, .bin .lss .other (.tmp 92) (.cst (.v (.int .i64 0))), none⟩, ⟨some 94, .mv (.tmp 93), none⟩, ⟨some 95, .fad (.tmp 1) 7, some (94, .false)⟩, ⟨some 96, .load (.tmp 95) none, some (94, .false)⟩, ⟨some 97, .mv (.tmp 6), some (94, .false)⟩, ⟨some 98, .iaL 1 (.tmp 96) (.tmp 97), some (94, .false)⟩, ⟨some 99, .load (.tmp 98) none, some (94, .false)⟩, ⟨some 100, .bin .gtr .other (.tmp 99) (.cst (.v (.int .i64 2))), some (94, .false)⟩, ⟨some 101, .pick (.tmp 94) (.cst (.v (.bool .true))) (.tmp 100), none⟩]) (.cond (.tmp 101) (.seq (.region [⟨some 2, .mv (.cst (.v (.bool .false))), none⟩]) .ret) .skip))) (.region [⟨some 86, .mv (.tmp 6), none⟩, ⟨some 87, .bin .add .other (.tmp 86) (.cst (.v (.int .i64 1))), none⟩, ⟨some 6, .mv (.tmp 87), none⟩])))))) (.seq (.region [⟨some 2, .mv (.cst (.v (.bool .true))), none⟩]) .ret))))))
theorem b_ref08_Good : HasBody P ref08_Good 102 c_ref08_Good [.tmp 2] := .of [] (by kernel_rfl)
noncomputable def c_env_Decode : IC := .seq (.region [⟨some 2, .new [.v (.int .i64 0), .v (.int .i64 0), .v (.int .i64 0), .v (.int .i64 0), .v (.int .i64 0), .v (.string (bs [])), .list 1 [] .full, .list 1 [] .full, .list 1 [] .full], none⟩, ⟨some 3, .mv (.cst (.v (.int .i64 0))), none⟩]) (.seq (.region [⟨some 7, .mv (.tmp 0), none⟩, ⟨some 8, .b2s (.tmp 7), none⟩, ⟨some 9, .build [.v (.string (bs [])), .v (.bool .false)] [(0, (1, .tmp 8))], none⟩, ⟨some 10, .box (.tmp 9), none⟩, ⟨some 4, .mv (.tmp 10), none⟩]) (.seq (.region [⟨some 11, .mv (.tmp 4), none⟩, ⟨some 12, .call env_reader_num [.tmp 11, .cst (.v (.string (bs [105, 100])))], none⟩, ⟨some 13, .mv (.tmp 4), none⟩, ⟨some 14, .call env_reader_num [.tmp 13, .cst (.v (.string (bs [103, 101, 110])))], none⟩, ⟨some 15, .mv (.tmp 4), none⟩, ⟨some 16, .call env_reader_num [.tmp 15, .cst (.v (.string (bs [98, 111, 114, 110])))], none⟩, ⟨some 17, .mv (.tmp 4), none⟩, ⟨some 18, .call env_reader_num [.tmp 17, .cst (.v (.string (bs [116, 114, 105, 101, 115])))], none⟩, ⟨some 19, .mv (.tmp 4), none⟩, ⟨some 20, .call env_reader_num [.tmp 19, .cst (.v (.string (bs [100, 117, 101])))], none⟩, ⟨some 21, .mv (.tmp 4), none⟩, ⟨some 22, .call env_reader_value [.tmp 21, .cst (.v (.string (bs [102, 114, 111, 109])))], none⟩, ⟨some 23, .build [.v (.int .i64 0), .v (.int .i64 0), .v (.int .i64 0), .v (.int .i64 0), .v (.int .i64 0), .v (.string (bs [])), .list 1 [] .full, .list 1 [] .full, .list 1 [] .full] [(0, (1, .tmp 12)), (1, (1, .tmp 14)), (2, (1, .tmp 16)), (3, (1, .tmp 18)), (4, (1, .tmp 20)), (5, (1, .tmp 22))], none⟩, ⟨some 5, .new [.v (.int .i64 0), .v (.int .i64 0), .v (.int .i64 0), .v (.int .i64 0), .v (.int .i64 0), .v (.string (bs [])), .list 1 [] .full, .list 1 [] .full, .list 1 [] .full], none⟩, ⟨none, .store (.tmp 5) (.tmp 23) 9, none⟩]) (.seq (.block 0 (.loop (.seq (.seq (.region [⟨some 24, .mv (.tmp 4), none⟩, ⟨some 25, .nilc (.tmp 24), none⟩, ⟨some 26, .fad (.tmp 25) 1, none⟩, ⟨some 27, .load (.tmp 26) none, none⟩, ⟨some 28, .un .not (.tmp 27), none⟩, ⟨some 29, .mv (.tmp 28), none⟩, ⟨some 30, .mv (.tmp 4), some (29, .true)⟩, ⟨some 31, .nilc (.tmp 30), some (29, .true)⟩, ⟨some 32, .fad (.tmp 31) 0, some (29, .true)⟩, ⟨some 33, .load (.tmp 32) none, some (29, .true)⟩, ⟨some 34, .call strings_HasPrefix [.tmp 33, .cst (.v (.string (bs [114, 99, 112, 116, 32])))], some (29, .true)⟩, ⟨some 35, .pick (.tmp 29) (.tmp 34) (.cst (.v (.bool .false))), none⟩]) (.cond (.tmp 35) .skip (.exit 0))) (.block 1 (.dregion [(⟨some 36, .fad (.tmp 5) 6, none⟩, []), (⟨some 37, .load (.tmp 36) none, none⟩, []), (⟨some 38, .mv (.tmp 4), none⟩, []), (⟨some 39, .call env_reader_value [.tmp 38, .cst (.v (.string (bs [114, 99, 112, 116])))], none⟩, [⟨some 37, .load (.tmp 36) none, none⟩]), (⟨some 40, .lit 1 1 [.v (.string (bs []))] [(0, .tmp 39)], none⟩, []), (⟨some 41, .app 1 16 (.tmp 37) (.tmp 40), none⟩, []), (⟨some 42, .fad (.tmp 5) 6, none⟩, []), (⟨none, .store (.tmp 42) (.tmp 41) 1, none⟩, [])]))))) (.seq (.region [⟨some 43, .mv (.tmp 4), none⟩, ⟨some 44, .call env_reader_marks [.tmp 43], none⟩, ⟨some 45, .fad (.tmp 5) 7, none⟩, ⟨none, .store (.tmp 45) (.tmp 44) 1, none⟩]) (.seq (.region [⟨some 46, .mv (.tmp 4), none⟩, ⟨some 47, .call env_reader_line [.tmp 46], none⟩, ⟨some 6, .mv (.tmp 47), none⟩]) (.seq (.region [⟨some 48, .mv (.tmp 4), none⟩, ⟨some 49, .mv (.tmp 4), none⟩, ⟨some 50, .nilc (.tmp 49), none⟩, ⟨some 51, .fad (.tmp 50) 1, none⟩, ⟨some 52, .load (.tmp 51) none, none⟩, ⟨some 53, .mv (.tmp 52), none⟩, ⟨some 54, .mv (.tmp 6), some (53, .false)⟩, ⟨some 55, .bin .neq .other (.tmp 54) (.cst (.v (.string (bs [])))), some (53, .false)⟩, ⟨some 56, .pick (.tmp 53) (.cst (.v (.bool .true))) (.tmp 55), none⟩, ⟨some 57, .nilc (.tmp 48), none⟩, ⟨some 58, .fad (.tmp 57) 1, none⟩, ⟨none, .store (.tmp 58) (.tmp 56) 1, none⟩]) (.seq (.block 2 (.loop (.seq (.seq (.region [⟨some 59, .mv (.tmp 4), none⟩, ⟨some 60, .nilc (.tmp 59), none⟩, ⟨some 61, .fad (.tmp 60) 1, none⟩, ⟨some 62, .load (.tmp 61) none, none⟩, ⟨some 63, .un .not (.tmp 62), none⟩, ⟨some 64, .mv (.tmp 63), none⟩, ⟨some 65, .mv (.tmp 4), some (64, .true)⟩, ⟨some 66, .nilc (.tmp 65), some (64, .true)⟩, ⟨some 67, .fad (.tmp 66) 0, some (64, .true)⟩, ⟨some 68, .load (.tmp 67) none, some (64, .true)⟩, ⟨some 69, .bin .neq .other (.tmp 68) (.cst (.v (.string (bs [])))), some (64, .true)⟩, ⟨some 70, .pick (.tmp 64) (.tmp 69) (.cst (.v (.bool .false))), none⟩]) (.cond (.tmp 70) .skip (.exit 2))) (.block 3 (.dregion [(⟨some 71, .fad (.tmp 5) 8, none⟩, []), (⟨some 72, .load (.tmp 71) none, none⟩, []), (⟨some 73, .mv (.tmp 4), none⟩, []), (⟨some 74, .call env_reader_line [.tmp 73], none⟩, [⟨some 72, .load (.tmp 71) none, none⟩]), (⟨some 75, .lit 1 1 [.v (.string (bs []))] [(0, .tmp 74)], none⟩, []), (⟨some 76, .app 1 16 (.tmp 72) (.tmp 75), none⟩, []), (⟨some 77, .fad (.tmp 5) 8, none⟩, []), (⟨none, .store (.tmp 77) (.tmp 76) 1, none⟩, [])]))))) (.seq (.seq (.region [⟨some 78, .mv (.tmp 4), none⟩, ⟨some 79, .nilc (.tmp 78), none⟩, ⟨some 80, .fad (.tmp 79) 1, none⟩, ⟨some 81, .load (.tmp 80) none, none⟩, ⟨some 82, .mv (.tmp 81), none⟩, ⟨some 83, .load (.tmp 5) (some 9), some (82, .false)⟩, ⟨some 84, .call env_Good [.tmp 83], some (82, .false)⟩, ⟨some 85, .un .not (.tmp 84), some (82, .false)⟩, ⟨some 86, .pick (.tmp 82) (.cst (.v (.bool .true))) (.tmp 85), none⟩]) (.cond (.tmp 86) (.seq (.region [⟨some 87, .build [.v (.int .i64 0), .v (.int .i64 0), .v (.int .i64 0), .v (.int .i64 0), .v (.int .i64 0), .v (.string (bs [])), .list 1 [] .full, .list 1 [] .full, .list 1 [] .full] [], none⟩, ⟨none, .store (.tmp 2) (.tmp 87) 9, none⟩, ⟨some 3, .mv (.cst (.v (.int .i64 2))), none⟩]) .ret) .skip)) (.seq (.region [⟨some 88, .load (.tmp 5) (some 9), none⟩, ⟨none, .store (.tmp 2) (.tmp 88) 9, none⟩, ⟨some 3, .mv (.cst (.v (.int .i64 0))), none⟩]) .ret)))))))))
theorem b_env_Decode : HasBody P env_Decode 89 c_env_Decode [.cell 2 (some 9), .tmp 3] := .of [] (by kernel_rfl)
noncomputable def c_ref08_SameMessages : IC := .seq (.region [⟨some 2, .box (.tmp 0), none⟩, ⟨some 3, .box (.tmp 1), none⟩, ⟨some 4, .mv (.cst (.v (.bool .false))), none⟩]) (.seq (.region [⟨some 5, .fad (.tmp 2) 0, none⟩, ⟨some 6, .load (.tmp 5) none, none⟩, ⟨some 7, .fad (.tmp 3) 0, none⟩, ⟨some 8, .load (.tmp 7) none, none⟩, ⟨some 9, .bin .eql .other (.tmp 6) (.tmp 8), none⟩, ⟨some 10, .mv (.tmp 9), none⟩, ⟨some 11, .fad (.tmp 2) 1, some (10, .true)⟩, ⟨some 12, .load (.tmp 11) none, some (10, .true)⟩, ⟨some 13, .fad (.tmp 3) 1, some (10, .true)⟩, ⟨some 14, .load (.tmp 13) none, some (10, .true)⟩, ⟨some 15, .bin .eql .other (.tmp 12) (.tmp 14), some (10, .true)⟩, ⟨some 16, .pick (.tmp 10) (.tmp 15) (.cst (.v (.bool .false))), none⟩, ⟨some 17, .mv (.tmp 16), none⟩, ⟨some 18, .fad (.tmp 2) 2, some (17, .true)⟩, ⟨some 19, .load (.tmp 18) none, some (17, .true)⟩, ⟨some 20, .fad (.tmp 3) 2, some (17, .true)⟩, ⟨some 21, .load (.tmp 20) none, some (17, .true)⟩, ⟨some 22, .bin .eql .other (.tmp 19) (.tmp 21), some (17, .true)⟩, ⟨some 23, .pick (.tmp 17) (.tmp 22) (.cst (.v (.bool .false))), none⟩, ⟨some 24, .mv (.tmp 23), none⟩, ⟨some 25, .fad (.tmp 2) 3, some (24, .true)⟩, ⟨some 26, .load (.tmp 25) none, some (24, .true)⟩, ⟨some 27, .fad (.tmp 3) 3, some (24, .true)⟩, ⟨some 28, .load (.tmp 27) none, some (24, .true)⟩, ⟨some 29, .bin .eql .other (.tmp 26) (.tmp 28), some (24, .true)⟩, ⟨some 30, .pick (.tmp 24) (.tmp 29) (.cst (.v (.bool .false))), none⟩, ⟨some 31, .mv (.tmp 30), none⟩, ⟨some 32, .fad (.tmp 2) 4, some (31, .true)⟩, ⟨some 33, .load (.tmp 32) none, some (31, .true)⟩, ⟨some 34, .fad (.tmp 3) 4, some (31, .true)⟩, ⟨some 35, .load (.tmp 34) none, some (31, .true)⟩, ⟨some 36, .bin .eql .other (.tmp 33) (.tmp 35), some (31, .true)⟩, ⟨some 37, .pick (.tmp 31) (.tmp 36) (.cst (.v (.bool .false))), none⟩, ⟨some 38, .mv (.tmp 37), none⟩, ⟨some 39, .fad (.tmp 2) 5, some (38, .true)⟩, ⟨some 40, .load (.tmp 39) none, some (38, .true)⟩, ⟨some 41, .fad (.tmp 3) 5, some (38, .true)⟩, ⟨some 42, .load (.tmp 41) none, some (38, .true)⟩, ⟨some 43, .bin .eql .other (.tmp 40) (.tmp 42), some (38, .true)⟩, ⟨some 44, .pick (.tmp 38) (.tmp 43) (.cst (.v (.bool .false))), none⟩, ⟨some 45, .mv (.tmp 44), none⟩, ⟨some 46, .fad (.tmp 2) 6, some (45, .true)⟩, ⟨some 47, .load (.tmp 46) none, some (45, .true)⟩, ⟨some 48, .fad (.tmp 3) 6, some (45, .true)⟩, ⟨some 49, .load (.tmp 48) none, some (45, .true)⟩, ⟨some 50, .call ref01_Texts [.tmp 47, .tmp 49], some (45, .true)⟩, ⟨some 51, .pick (.tmp 45) (.tmp 50) (.cst (.v (.bool .false))), none⟩, ⟨some 52, .mv (.tmp 51), none⟩, ⟨some 53, .fad (.tmp 2) 7, some (52, .true)⟩, ⟨some 54, .load (.tmp 53) none, some (52, .true)⟩, ⟨some 55, .fad (.tmp 3) 7, some (52, .true)⟩, ⟨some 56, .load (.tmp 55) none, some (52, .true)⟩, ⟨some 57, .call ref08_Ints [.tmp 54, .tmp 56], some (52, .true)⟩, ⟨some 58, .pick (.tmp 52) (.tmp 57) (.cst (.v (.bool .false))), none⟩, ⟨some 59, .mv (.tmp 58), none⟩, ⟨some 60, .fad (.tmp 2) 8, some (59, .true)⟩, ⟨some 61, .load (.tmp 60) none, some (59, .true)⟩, ⟨some 62, .fad (.tmp 3) 8, some (59, .true)⟩, ⟨some 63, .load (.tmp 62) none, some (59, .true)⟩, ⟨some 64, .call ref01_Texts [.tmp 61, .tmp 63], some (59, .true)⟩, ⟨some 65, .pick (.tmp 59) (.tmp 64) (.cst (.v (.bool .false))), none⟩, ⟨some 4, .mv (.tmp 65), none⟩]) .ret)
theorem b_ref08_SameMessages : HasBody P ref08_SameMessages 66 c_ref08_SameMessages [.tmp 4] := .of [] (by kernel_rfl)
noncomputable def c_env_Good : IC := .seq (.region [⟨some 1, .box (.tmp 0), none⟩, ⟨some 2, .mv (.cst (.v (.bool .false))), none⟩]) (.seq (.region [⟨some 5, .fad (.tmp 1) 0, none⟩, ⟨some 6, .load (.tmp 5) none, none⟩, ⟨some 7, .fad (.tmp 1) 1, none⟩, ⟨some 8, .load (.tmp 7) none, none⟩, ⟨some 9, .fad (.tmp 1) 2, none⟩, ⟨some 10, .load (.tmp 9) none, none⟩, ⟨some 11, .fad (.tmp 1) 3, none⟩, ⟨some 12, .load (.tmp 11) none, none⟩, ⟨some 13, .fad (.tmp 1) 4, none⟩, ⟨some 14, .load (.tmp 13) none, none⟩, ⟨some 15, .build [.v (.int .i64 0), .v (.int .i64 0), .v (.int .i64 0), .v (.int .i64 0), .v (.int .i64 0)] [(0, (1, .tmp 6)), (1, (1, .tmp 8)), (2, (1, .tmp 10)), (3, (1, .tmp 12)), (4, (1, .tmp 14))], none⟩, ⟨some 3, .new [.v (.int .i64 0), .v (.int .i64 0), .v (.int .i64 0), .v (.int .i64 0), .v (.int .i64 0)], none⟩, ⟨none, .store (.tmp 3) (.tmp 15) 5, none⟩]) (.seq (.region [⟨some 4, .mv (.cst (.func (.func env_Good_1) [] [])), none⟩]) (.seq (.region [⟨some 16, .slA 5 1 (.tmp 3) none none, none⟩, ⟨some 17, .call slices_ContainsFunc_int_int [.tmp 16, .cst (.func (.func env_Good_2) [] [])], none⟩, ⟨some 18, .un .not (.tmp 17), none⟩, ⟨some 19, .mv (.tmp 18), none⟩, ⟨some 20, .fad (.tmp 1) 5, some (19, .true)⟩, ⟨some 21, .load (.tmp 20) none, some (19, .true)⟩, ⟨some 22, .bin .eql .other (.tmp 21) (.cst (.v (.string (bs [])))), some (19, .true)⟩, ⟨some 23, .mv (.tmp 22), some (19, .true)⟩, ⟨some 24, .fad (.tmp 1) 5, some (23, .false)⟩, ⟨some 25, .load (.tmp 24) none, some (23, .false)⟩, ⟨some 26, .call env_mailbox [.tmp 25], some (23, .false)⟩, ⟨some 27, .pick (.tmp 23) (.cst (.v (.bool .true))) (.tmp 26), some (19, .true)⟩, ⟨some 28, .pick (.tmp 19) (.tmp 27) (.cst (.v (.bool .false))), none⟩, ⟨some 29, .mv (.tmp 28), none⟩, ⟨some 30, .fad (.tmp 1) 6, some (29, .true)⟩, ⟨some 31, .load (.tmp 30) none, some (29, .true)⟩, ⟨some 32, .len .sl (.tmp 31), some (29, .true)⟩, ⟨some 33, .bin .geq .other (.tmp 32) (.cst (.v (.int .i64 1))), some (29, .true)⟩, ⟨some 34, .pick (.tmp 29) (.tmp 33) (.cst (.v (.bool .false))), none⟩, ⟨some 35, .mv (.tmp 34), none⟩, ⟨some 36, .fad (.tmp 1) 6, some (35, .true)⟩, ⟨some 37, .load (.tmp 36) none, some (35, .true)⟩, ⟨some 38, .len .sl (.tmp 37), some (35, .true)⟩, ⟨some 39, .bin .leq .other (.tmp 38) (.cst (.v (.int .i64 20))), some (35, .true)⟩, ⟨some 40, .pick (.tmp 35) (.tmp 39) (.cst (.v (.bool .false))), none⟩, ⟨some 41, .mv (.tmp 40), none⟩, ⟨some 42, .fad (.tmp 1) 6, some (41, .true)⟩, ⟨some 43, .load (.tmp 42) none, some (41, .true)⟩, ⟨some 44, .call slices_ContainsFunc_string_string [.tmp 43, .cst (.func (.func env_Good_3) [] [])], some (41, .true)⟩, ⟨some 45, .un .not (.tmp 44), some (41, .true)⟩, ⟨some 46, .pick (.tmp 41) (.tmp 45) (.cst (.v (.bool .false))), none⟩, ⟨some 47, .mv (.tmp 46), none⟩, ⟨some 48, .fad (.tmp 1) 7, some (47, .true)⟩, ⟨some 49, .load (.tmp 48) none, some (47, .true)⟩, ⟨some 50, .len .sl (.tmp 49), some (47, .true)⟩, ⟨some 51, .bin .leq .other (.tmp 50) (.cst (.v (.int .i64 50))), some (47, .true)⟩, ⟨some 52, .pick (.tmp 47) (.tmp 51) (.cst (.v (.bool .false))), none⟩, ⟨some 53, .mv (.tmp 52), none⟩, ⟨some 54, .fad (.tmp 1) 7, some (53, .true)⟩, ⟨some 55, .load (.tmp 54) none, some (53, .true)⟩, ⟨some 56, .mv (.tmp 4), some (53, .true)⟩, ⟨some 57, .call slices_ContainsFunc_int_int [.tmp 55, .tmp 56], some (53, .true)⟩, ⟨some 58, .un .not (.tmp 57), some (53, .true)⟩, ⟨some 59, .pick (.tmp 53) (.tmp 58) (.cst (.v (.bool .false))), none⟩, ⟨some 60, .mv (.tmp 59), none⟩, ⟨some 61, .fad (.tmp 1) 8, some (60, .true)⟩, ⟨some 62, .load (.tmp 61) none, some (60, .true)⟩, ⟨some 63, .call dots_Good [.tmp 62], some (60, .true)⟩, ⟨some 64, .pick (.tmp 60) (.tmp 63) (.cst (.v (.bool .false))), none⟩, ⟨some 2, .mv (.tmp 64), none⟩]) .ret)))
theorem b_env_Good : HasBody P env_Good 65 c_env_Good [.tmp 2] := .of [] (by kernel_rfl)
noncomputable def c_ref08_Bytes : IC := .seq (.region [⟨some 1, .box (.tmp 0), none⟩, ⟨some 2, .mv (.cst (.list 1 [] .full)), none⟩]) (.seq (.region [⟨some 9, .lit 1 1 [.v (.int .u8 0)] [(0, .cst (.v (.int .u8 2)))], none⟩, ⟨some 3, .mv (.tmp 9), none⟩]) (.seq (.region [⟨some 10, .fad (.tmp 1) 0, none⟩, ⟨some 11, .load (.tmp 10) none, none⟩, ⟨some 12, .fad (.tmp 1) 1, none⟩, ⟨some 13, .load (.tmp 12) none, none⟩, ⟨some 14, .fad (.tmp 1) 2, none⟩, ⟨some 15, .load (.tmp 14) none, none⟩, ⟨some 16, .fad (.tmp 1) 3, none⟩, ⟨some 17, .load (.tmp 16) none, none⟩, ⟨some 18, .fad (.tmp 1) 4, none⟩, ⟨some 19, .load (.tmp 18) none, none⟩, ⟨some 20, .lit 1 5 [.v (.int .i64 0)] [(0, .tmp 11), (1, .tmp 13), (2, .tmp 15), (3, .tmp 17), (4, .tmp 19)], none⟩, ⟨some 4, .mv (.tmp 20), none⟩]) (.seq (.seq (.region [⟨some 5, .mv (.cst (.v (.int .i64 0))), none⟩]) (.block 0 (.loop (.seq (.seq (.region [⟨some 21, .mv (.tmp 5), none⟩, ⟨some 22, .bin .lss .other (.tmp 21) (.cst (.v (.int .i64 5))), none⟩]) (.cond (.tmp 22) .skip (.exit 0))) (.seq (.block 1 (.region [⟨some 25, .mv (.tmp 3), none⟩, ⟨some 26, .mv (.tmp 4), none⟩, ⟨some 27, .mv (.tmp 5), none⟩, ⟨some 28, .iaL 1 (.tmp 26) (.tmp 27), none⟩, ⟨some 29, .load (.tmp 28) none, none⟩, ⟨some 30, .call ref08_num [.tmp 29, .cst (.v (.int .i64 6))], none⟩, ⟨some 31, .app 1 1 (.tmp 25) (.tmp 30), none⟩, ⟨some 3, .mv (.tmp 31), none⟩])) (.region [⟨some 23, .mv (.tmp 5), none⟩, ⟨some 24, .bin .add .other (.tmp 23) (.cst (.v (.int .i64 1))), none⟩, ⟨some 5, .mv (.tmp 24), none⟩])))))) (.seq (.region [⟨some 32, .mv (.tmp 3), none⟩, ⟨some 33, .fad (.tmp 1) 5, none⟩, ⟨some 34, .load (.tmp 33) none, none⟩, ⟨some 35, .call ref08_text [.tmp 34], none⟩, ⟨some 36, .app 1 1 (.tmp 32) (.tmp 35), none⟩, ⟨some 3, .mv (.tmp 36), none⟩]) (.seq (.region [⟨some 37, .mv (.tmp 3), none⟩, ⟨some 38, .fad (.tmp 1) 6, none⟩, ⟨some 39, .load (.tmp 38) none, none⟩, ⟨some 40, .len .sl (.tmp 39), none⟩, ⟨some 41, .call ref08_num [.tmp 40, .cst (.v (.int .i64 2))], none⟩, ⟨some 42, .app 1 1 (.tmp 37) (.tmp 41), none⟩, ⟨some 3, .mv (.tmp 42), none⟩]) (.seq (.seq (.region [⟨some 6, .mv (.cst (.v (.int .i64 0))), none⟩]) (.block 2 (.loop (.seq (.seq (.region [⟨some 43, .mv (.tmp 6), none⟩, ⟨some 44, .fad (.tmp 1) 6, none⟩, ⟨some 45, .load (.tmp 44) none, none⟩, ⟨some 46, .len .sl (.tmp 45), none⟩, ⟨some 47, .bin .lss .other (.tmp 43) (.tmp 46), none⟩]) (.cond (.tmp 47) .skip (.exit 2))) (.seq (.block 3 (.region [⟨some 50, .mv (.tmp 3), none⟩, ⟨some 51, .fad (.tmp 1) 6, none⟩, ⟨some 52, .load (.tmp 51) none, none⟩, ⟨some 53, .mv (.tmp 6), none⟩, ⟨some 54, .iaL 1 (.tmp 52) (.tmp 53), none⟩, ⟨some 55, .load (.tmp 54) none, none⟩, ⟨some 56, .call ref08_text [.tmp 55], none⟩, ⟨some 57, .app 1 1 (.tmp 50) (.tmp 56), none⟩, ⟨some 3, .mv (.tmp 57), none⟩])) (.region [⟨some 48, .mv (.tmp 6), none⟩, ⟨some 49, .bin .add .other (.tmp 48) (.cst (.v (.int .i64 1))), none⟩, ⟨some 6, .mv (.tmp 49), none⟩])))))) (.seq (.region [⟨some 58, .mv (.tmp 3), none⟩, ⟨some 59, .fad (.tmp 1) 7, none⟩, ⟨some 60, .load (.tmp 59) none, none⟩, ⟨some 61, .len .sl (.tmp 60), none⟩, ⟨some 62, .call ref08_num [.tmp 61, .cst (.v (.int .i64 2))], none⟩, ⟨some 63, .app 1 1 (.tmp 58) (.tmp 62), none⟩, ⟨some 3, .mv (.tmp 63), none⟩]) (.seq (.seq (.region [⟨some 7, .mv (.cst (.v (.int .i64 0))), none⟩]) (.block 4 (.loop (.seq (.seq (.region [⟨some 64, .mv (.tmp 7), none⟩, ⟨some 65, .fad (.tmp 1) 7, none⟩, ⟨some 66, .load (.tmp 65) none, none⟩, ⟨some 67, .len .sl (.tmp 66), none⟩, ⟨some 68, .bin .lss .other (.tmp 64) (.tmp 67), none⟩]) (.cond (.tmp 68) .skip (.exit 4))) (.seq (.block 5 (.region [⟨some 71, .mv (.tmp 3), none⟩, ⟨some 72, .fad (.tmp 1) 7, none⟩, ⟨some 73, .load (.tmp 72) none, none⟩, ⟨some 74, .mv (.tmp 7), none⟩, ⟨some 75, .iaL 1 (.tmp 73) (.tmp 74), none⟩, ⟨some 76, .load (.tmp 75) none, none⟩, ⟨some 77, .convI .u8 (.tmp 76), none⟩, ⟨some 78, .lit 1 1 [.v (.int .u8 0)] [(0, .tmp 77)], none⟩, ⟨some 79, .app 1 1 (.tmp 71) (.tmp 78), none⟩, ⟨some 3, .mv (.tmp 79), none⟩])) (.region [⟨some 69, .mv (.tmp 7), none⟩, ⟨some 70, .bin .add .other (.tmp 69) (.cst (.v (.int .i64 1))), none⟩, ⟨some 7, .mv (.tmp 70), none⟩])))))) (.seq (.region [⟨some 80, .mv (.tmp 3), none⟩, ⟨some 81, .fad (.tmp 1) 8, none⟩, ⟨some 82, .load (.tmp 81) none, none⟩, ⟨some 83, .len .sl (.tmp 82), none⟩, ⟨some 84, .call ref08_num [.tmp 83, .cst (.v (.int .i64 4))], none⟩, ⟨some 85, .app 1 1 (.tmp 80) (.tmp 84), none⟩, ⟨some 3, .mv (.tmp 85), none⟩]) (.seq (.seq (.region [⟨some 8, .mv (.cst (.v (.int .i64 0))), none⟩]) (.block 6 (.loop (.seq (.seq (.region [⟨some 86, .mv (.tmp 8), none⟩, ⟨some 87, .fad (.tmp 1) 8, none⟩, ⟨some 88, .load (.tmp 87) none, none⟩, ⟨some 89, .len .sl (.tmp 88), none⟩, ⟨some 90, .bin .lss .other (.tmp 86) (.tmp 89), none⟩]) (.cond (.tmp 90) .skip (.exit 6))) (.seq (.block 7 (.region [⟨some 93, .mv (.tmp 3), none⟩, ⟨some 94, .fad (.tmp 1) 8, none⟩, ⟨some 95, .load (.tmp 94) none, none⟩, ⟨some 96, .mv (.tmp 8), none⟩, ⟨some 97, .iaL 1 (.tmp 95) (.tmp 96), none⟩, ⟨some 98, .load (.tmp 97) none, none⟩, ⟨some 99, .call ref08_text [.tmp 98], none⟩, ⟨some 100, .app 1 1 (.tmp 93) (.tmp 99), none⟩, ⟨some 3, .mv (.tmp 100), none⟩])) (.region [⟨some 91, .mv (.tmp 8), none⟩, ⟨some 92, .bin .add .other (.tmp 91) (.cst (.v (.int .i64 1))), none⟩, ⟨some 8, .mv (.tmp 92), none⟩])))))) (.seq (.region [⟨some 101, .mv (.tmp 3), none⟩, ⟨some 2, .mv (.tmp 101), none⟩]) .ret)))))))))))
theorem b_ref08_Bytes : HasBody P ref08_Bytes 102 c_ref08_Bytes [.tmp 2] := .of [] (by kernel_rfl)
noncomputable def c_env_Encode_1 : IC := .region [⟨some 5, .mv (.tmp 0), none⟩, ⟨some 6, .bin .add .other (.tmp 5) (.cst (.v (.string (bs [32])))), none⟩, ⟨some 7, .mv (.tmp 1), none⟩, ⟨some 8, .bin .add .other (.tmp 6) (.tmp 7), none⟩, ⟨some 9, .bin .add .other (.tmp 8) (.cst (.v (.string (bs [10])))), none⟩, ⟨some 10, .call strings_Builder_WriteString [.tmp 2, .tmp 9], none⟩]
theorem b_env_Encode_1 : HasBody P env_Encode_1 11 c_env_Encode_1 [] := .of [] (by kernel_rfl)
noncomputable def c_ref08_mailbox : IC := .seq (.region [⟨some 2, .mv (.cst (.v (.bool .false))), none⟩]) (.seq (.region [⟨some 6, .mv (.tmp 0), none⟩, ⟨some 7, .call ref01_Canon [.tmp 6], none⟩, ⟨some 5, .mv (.tmp 7), none⟩, ⟨some 8, .ext (.tmp 5) 0, none⟩, ⟨some 9, .ext (.tmp 5) 1, none⟩, ⟨some 3, .mv (.tmp 8), none⟩, ⟨some 4, .mv (.tmp 9), none⟩]) (.seq (.region [⟨some 10, .mv (.tmp 4), none⟩, ⟨some 11, .mv (.tmp 10), none⟩, ⟨some 12, .mv (.tmp 3), some (11, .true)⟩, ⟨some 13, .mv (.tmp 0), some (11, .true)⟩, ⟨some 14, .bin .eql .other (.tmp 12) (.tmp 13), some (11, .true)⟩, ⟨some 15, .pick (.tmp 11) (.tmp 14) (.cst (.v (.bool .false))), none⟩, ⟨some 2, .mv (.tmp 15), none⟩]) .ret))
theorem b_ref08_mailbox : HasBody P ref08_mailbox 16 c_ref08_mailbox [.tmp 2] := .of [] (by kernel_rfl)
noncomputable def c_ref01_Good : IC := .seq (.region [⟨some 2, .mv (.cst (.v (.bool .false))), none⟩]) (.seq (.seq (.region [⟨some 3, .mv (.cst (.v (.int .i64 0))), none⟩]) (.block 0 (.loop (.seq (.seq (.region [⟨some 4, .mv (.tmp 3), none⟩, ⟨some 5, .mv (.tmp 0), none⟩, ⟨some 6, .len .sl (.tmp 5), none⟩, ⟨some 7, .bin .lss .other (.tmp 4) (.tmp 6), none⟩]) (.cond (.tmp 7) .skip (.exit 0))) (.seq (.block 1 (.seq (.region [⟨some 10, .mv (.tmp 0), none⟩, ⟨some 11, .mv (.tmp 3), none⟩, ⟨some 12, .iaL 1 (.tmp 10) (.tmp 11), none⟩, ⟨some 13, .load (.tmp 12) none, none⟩, ⟨some 14, .len .str (.tmp 13), none⟩, ⟨some 15, .bin .gtr .other (.tmp 14) (.cst (.v (.int .i64 997))), none⟩, ⟨some 16, .mv (.tmp 15), none⟩, ⟨some 17, .mv (.tmp 0), some (16, .false)⟩, ⟨some 18, .mv (.tmp 3), some (16, .false)⟩, ⟨some 19, .iaL 1 (.tmp 17) (.tmp 18), some (16, .false)⟩, ⟨some 20, .load (.tmp 19) none, some (16, .false)⟩, ⟨some 21, .call ref01_in [.tmp 20, .cst (.v (.int .u8 0))], some (16, .false)⟩, ⟨some 22, .pick (.tmp 16) (.cst (.v (.bool .true))) (.tmp 21), none⟩, ⟨some 23, .mv (.tmp 22), none⟩, ⟨some 24, .mv (.tmp 0), some (23, .false)⟩, ⟨some 25, .mv (.tmp 3), some (23, .false)⟩, ⟨some 26, .iaL 1 (.tmp 24) (.tmp 25), some (23, .false)⟩, ⟨some 27, .load (.tmp 26) none, some (23, .false)⟩, ⟨some 28, .call ref01_in [.tmp 27, .cst (.v (.int .u8 10))], some (23, .false)⟩, ⟨some 29, .pick (.tmp 23) (.cst (.v (.bool .true))) (.tmp 28), none⟩, ⟨some 30, .mv (.tmp 29), none⟩, ⟨some 31, .mv (.tmp 0), some (30, .false)⟩, ⟨some 32, .mv (.tmp 3), some (30, .false)⟩, ⟨some 33, .iaL 1 (.tmp 31) (.tmp 32), some (30, .false)⟩, ⟨some 34, .load (.tmp 33) none, some (30, .false)⟩, ⟨some 35, .call ref01_in [.tmp 34, .cst (.v (.int .u8 13))], some (30, .false)⟩, ⟨some 36, .pick (.tmp 30) (.cst (.v (.bool .true))) (.tmp 35), none⟩]) (.cond (.tmp 36) (.seq (.region [⟨some 2, .mv (.cst (.v (.bool .false))), none⟩]) .ret) .skip))) (.region [⟨some 8, .mv (.tmp 3), none⟩, ⟨some 9, .bin .add .other (.tmp 8) (.cst (.v (.int .i64 1))), none⟩, ⟨some 3, .mv (.tmp 9), none⟩])))))) (.seq (.region [⟨some 37, .mv (.tmp 0), none⟩, ⟨some 38, .call ref01_Size [.tmp 37], none⟩, ⟨some 39, .bin .leq .other (.tmp 38) (.cst (.v (.int .i64 65536))), none⟩, ⟨some 2, .mv (.tmp 39), none⟩]) .ret))
theorem b_ref01_Good : HasBody P ref01_Good 40 c_ref01_Good [.tmp 2] := .of [] (by kernel_rfl)
noncomputable def c_env_reader_num : IC := .seq (.region [⟨some 4, .mv (.cst (.v (.int .i64 0))), none⟩]) (.seq (.region [⟨some 8, .mv (.tmp 0), none⟩, ⟨some 9, .mv (.tmp 1), none⟩, ⟨some 10, .call env_reader_value [.tmp 8, .tmp 9], none⟩, ⟨some 5, .mv (.tmp 10), none⟩]) (.seq (.region [⟨some 12, .mv (.tmp 5), none⟩, ⟨some 13, .call strconv_Atoi [.tmp 12], none⟩, ⟨some 11, .mv (.tmp 13), none⟩, ⟨some 14, .ext (.tmp 11) 0, none⟩, ⟨some 15, .ext (.tmp 11) 1, none⟩, ⟨some 6, .mv (.tmp 14), none⟩, ⟨some 7, .mv (.tmp 15), none⟩]) (.seq (.region [⟨some 16, .mv (.tmp 0), none⟩, ⟨some 17, .mv (.tmp 0), none⟩, ⟨some 18, .nilc (.tmp 17), none⟩, ⟨some 19, .fad (.tmp 18) 1, none⟩, ⟨some 20, .load (.tmp 19) none, none⟩, ⟨some 21, .mv (.tmp 20), none⟩, ⟨some 22, .mv (.tmp 7), some (21, .false)⟩, ⟨some 23, .bin .neq .iface (.tmp 22) (.cst (.v .nilIface)), some (21, .false)⟩, ⟨some 24, .pick (.tmp 21) (.cst (.v (.bool .true))) (.tmp 23), none⟩, ⟨some 25, .mv (.tmp 24), none⟩, ⟨some 26, .mv (.tmp 6), some (25, .false)⟩, ⟨some 27, .call strconv_Itoa [.tmp 26], some (25, .false)⟩, ⟨some 28, .mv (.tmp 5), some (25, .false)⟩, ⟨some 29, .bin .neq .other (.tmp 27) (.tmp 28), some (25, .false)⟩, ⟨some 30, .pick (.tmp 25) (.cst (.v (.bool .true))) (.tmp 29), none⟩, ⟨some 31, .nilc (.tmp 16), none⟩, ⟨some 32, .fad (.tmp 31) 1, none⟩, ⟨none, .store (.tmp 32) (.tmp 30) 1, none⟩]) (.seq (.region [⟨some 33, .mv (.tmp 6), none⟩, ⟨some 4, .mv (.tmp 33), none⟩]) .ret))))
theorem b_env_reader_num : HasBody P env_reader_num 34 c_env_reader_num [.tmp 4] := .of [] (by kernel_rfl)
noncomputable def c_env_reader_value : IC := .seq (.region [⟨some 4, .mv (.cst (.v (.string (bs [])))), none⟩]) (.seq (.region [⟨some 8, .mv (.tmp 0), none⟩, ⟨some 9, .call env_reader_line [.tmp 8], none⟩, ⟨some 10, .mv (.tmp 1), none⟩, ⟨some 11, .bin .add .other (.tmp 10) (.cst (.v (.string (bs [32])))), none⟩, ⟨some 12, .call strings_CutPrefix [.tmp 9, .tmp 11], none⟩, ⟨some 7, .mv (.tmp 12), none⟩, ⟨some 13, .ext (.tmp 7) 0, none⟩, ⟨some 14, .ext (.tmp 7) 1, none⟩, ⟨some 5, .mv (.tmp 13), none⟩, ⟨some 6, .mv (.tmp 14), none⟩]) (.seq (.region [⟨some 15, .mv (.tmp 0), none⟩, ⟨some 16, .mv (.tmp 0), none⟩, ⟨some 17, .nilc (.tmp 16), none⟩, ⟨some 18, .fad (.tmp 17) 1, none⟩, ⟨some 19, .load (.tmp 18) none, none⟩, ⟨some 20, .mv (.tmp 19), none⟩, ⟨some 21, .mv (.tmp 6), some (20, .false)⟩, ⟨some 22, .un .not (.tmp 21), some (20, .false)⟩, ⟨some 23, .pick (.tmp 20) (.cst (.v (.bool .true))) (.tmp 22), none⟩, ⟨some 24, .nilc (.tmp 15), none⟩, ⟨some 25, .fad (.tmp 24) 1, none⟩, ⟨none, .store (.tmp 25) (.tmp 23) 1, none⟩]) (.seq (.region [⟨some 26, .mv (.tmp 5), none⟩, ⟨some 4, .mv (.tmp 26), none⟩]) .ret)))
theorem b_env_reader_value : HasBody P env_reader_value 27 c_env_reader_value [.tmp 4] := .of [] (by kernel_rfl)
noncomputable def c_env_reader_marks : IC := .seq (.region [⟨some 2, .mv (.cst (.list 1 [] .full)), none⟩]) (.seq (.region [⟨some 3, .mv (.cst (.list 1 [] .full)), none⟩]) (.seq (.seq (.region [⟨some 6, .mv (.tmp 0), none⟩, ⟨some 7, .call env_reader_value [.tmp 6, .cst (.v (.string (bs [109, 97, 114, 107, 115])))], none⟩, ⟨some 8, .s2b .false (.tmp 7), none⟩, ⟨some 9, .len .sl (.tmp 8), none⟩, ⟨some 10, .mv (.cst (.v (.int .i64 0))), none⟩]) (.block 0 (.loop (.seq (.region [⟨some 11, .bin .lss .other (.tmp 10) (.tmp 9), none⟩]) (.seq (.cond (.tmp 11) .skip (.exit 0)) (.seq (.block 1 (.seq (.region [⟨some 12, .iaL 1 (.tmp 8) (.tmp 10), none⟩, ⟨some 13, .load (.tmp 12) none, none⟩, ⟨some 5, .mv (.tmp 13), none⟩]) (.region [⟨some 14, .mv (.tmp 3), none⟩, ⟨some 15, .mv (.tmp 5), none⟩, ⟨some 16, .convI .i64 (.tmp 15), none⟩, ⟨some 17, .bin .sub .other (.tmp 16) (.cst (.v (.int .i64 48))), none⟩, ⟨some 18, .lit 1 1 [.v (.int .i64 0)] [(0, .tmp 17)], none⟩, ⟨some 19, .app 1 8 (.tmp 14) (.tmp 18), none⟩, ⟨some 3, .mv (.tmp 19), none⟩]))) (.region [⟨some 20, .bin .add .other (.tmp 10) (.cst (.v (.int .i64 1))), none⟩, ⟨some 10, .mv (.tmp 20), none⟩]))))))) (.seq (.region [⟨some 21, .mv (.tmp 3), none⟩, ⟨some 2, .mv (.tmp 21), none⟩]) .ret)))
theorem b_env_reader_marks : HasBody P env_reader_marks 22 c_env_reader_marks [.tmp 2] := .of [] (by kernel_rfl)
noncomputable def c_env_reader_line : IC := .seq (.region [⟨some 2, .mv (.cst (.v (.string (bs [])))), none⟩]) (.seq (.region [⟨some 7, .mv (.tmp 0), none⟩, ⟨some 8, .nilc (.tmp 7), none⟩, ⟨some 9, .fad (.tmp 8) 0, none⟩, ⟨some 10, .load (.tmp 9) none, none⟩, ⟨some 11, .call strings_Cut [.tmp 10, .cst (.v (.string (bs [10])))], none⟩, ⟨some 6, .mv (.tmp 11), none⟩, ⟨some 12, .ext (.tmp 6) 0, none⟩, ⟨some 13, .ext (.tmp 6) 1, none⟩, ⟨some 14, .ext (.tmp 6) 2, none⟩, ⟨some 3, .mv (.tmp 12), none⟩, ⟨some 4, .mv (.tmp 13), none⟩, ⟨some 5, .mv (.tmp 14), none⟩]) (.seq (.region [⟨some 15, .mv (.tmp 0), none⟩, ⟨some 16, .mv (.tmp 4), none⟩, ⟨some 17, .nilc (.tmp 15), none⟩, ⟨some 18, .fad (.tmp 17) 0, none⟩, ⟨none, .store (.tmp 18) (.tmp 16) 1, none⟩]) (.seq (.region [⟨some 19, .mv (.tmp 0), none⟩, ⟨some 20, .mv (.tmp 0), none⟩, ⟨some 21, .nilc (.tmp 20), none⟩, ⟨some 22, .fad (.tmp 21) 1, none⟩, ⟨some 23, .load (.tmp 22) none, none⟩, ⟨some 24, .mv (.tmp 23), none⟩, ⟨some 25, .mv (.tmp 5), some (24, .false)⟩, ⟨some 26, .un .not (.tmp 25), some (24, .false)⟩, ⟨some 27, .pick (.tmp 24) (.cst (.v (.bool .true))) (.tmp 26), none⟩, ⟨some 28, .nilc (.tmp 19), none⟩, ⟨some 29, .fad (.tmp 28) 1, none⟩, ⟨none, .store (.tmp 29) (.tmp 27) 1, none⟩]) (.seq (.region [⟨some 30, .mv (.tmp 3), none⟩, ⟨some 2, .mv (.tmp 30), none⟩]) .ret))))
theorem b_env_reader_line : HasBody P env_reader_line 31 c_env_reader_line [.tmp 2] := .of [] (by kernel_rfl)
noncomputable def c_ref01_Texts : IC := .seq (.region [⟨some 4, .mv (.cst (.v (.bool .false))), none⟩]) (.seq (.seq (.region [⟨some 6, .mv (.tmp 0), none⟩, ⟨some 7, .len .sl (.tmp 6), none⟩, ⟨some 8, .mv (.tmp 1), none⟩, ⟨some 9, .len .sl (.tmp 8), none⟩, ⟨some 10, .bin .neq .other (.tmp 7) (.tmp 9), none⟩]) (.cond (.tmp 10) (.seq (.region [⟨some 4, .mv (.cst (.v (.bool .false))), none⟩]) .ret) .skip)) (.seq (.seq (.region [⟨some 5, .mv (.cst (.v (.int .i64 0))), none⟩]) (.block 0 (.loop (.seq (.seq (.region [⟨some 11, .mv (.tmp 5), none⟩, ⟨some 12, .mv (.tmp 0), none⟩, ⟨some 13, .len .sl (.tmp 12), none⟩, ⟨some 14, .bin .lss .other (.tmp 11) (.tmp 13), none⟩]) (.cond (.tmp 14) .skip (.exit 0))) (.seq (.block 1 (.seq (.region [⟨some 17, .mv (.tmp 0), none⟩, ⟨some 18, .mv (.tmp 5), none⟩, ⟨some 19, .iaL 1 (.tmp 17) (.tmp 18), none⟩, ⟨some 20, .load (.tmp 19) none, none⟩, ⟨some 21, .mv (.tmp 1), none⟩, ⟨some 22, .mv (.tmp 5), none⟩, ⟨some 23, .iaL 1 (.tmp 21) (.tmp 22), none⟩, ⟨some 24, .load (.tmp 23) none, none⟩, ⟨some 25, .bin .neq .other (.tmp 20) (.tmp 24), none⟩]) (.cond (.tmp 25) (.seq (.region [⟨some 4, .mv (.cst (.v (.bool .false))), none⟩]) .ret) .skip))) (.region [⟨some 15, .mv (.tmp 5), none⟩, ⟨some 16, .bin .add .other (.tmp 15) (.cst (.v (.int .i64 1))), none⟩, ⟨some 5, .mv (.tmp 16), none⟩])))))) (.seq (.region [⟨some 4, .mv (.cst (.v (.bool .true))), none⟩]) .ret)))
theorem b_ref01_Texts : HasBody P ref01_Texts 26 c_ref01_Texts [.tmp 4] := .of [] (by kernel_rfl)
noncomputable def c_ref08_Ints : IC := .seq (.region [⟨some 4, .mv (.cst (.v (.bool .false))), none⟩]) (.seq (.seq (.region [⟨some 6, .mv (.tmp 0), none⟩, ⟨some 7, .len .sl (.tmp 6), none⟩, ⟨some 8, .mv (.tmp 1), none⟩, ⟨some 9, .len .sl (.tmp 8), none⟩, ⟨some 10, .bin .neq .other (.tmp 7) (.tmp 9), none⟩]) (.cond (.tmp 10) (.seq (.region [⟨some 4, .mv (.cst (.v (.bool .false))), none⟩]) .ret) .skip)) (.seq (.seq (.region [⟨some 5, .mv (.cst (.v (.int .i64 0))), none⟩]) (.block 0 (.loop (.seq (.seq (.region [⟨some 11, .mv (.tmp 5), none⟩, ⟨some 12, .mv (.tmp 0), none⟩, ⟨some 13, .len .sl (.tmp 12), none⟩, ⟨some 14, .bin .lss .other (.tmp 11) (.tmp 13), none⟩]) (.cond (.tmp 14) .skip (.exit 0))) (.seq (.block 1 (.seq (.region [⟨some 17, .mv (.tmp 0), none⟩, ⟨some 18, .mv (.tmp 5), none⟩, ⟨some 19, .iaL 1 (.tmp 17) (.tmp 18), none⟩, ⟨some 20, .load (.tmp 19) none, none⟩, ⟨some 21, .mv (.tmp 1), none⟩, ⟨some 22, .mv (.tmp 5), none⟩, ⟨some 23, .iaL 1 (.tmp 21) (.tmp 22), none⟩, ⟨some 24, .load (.tmp 23) none, none⟩, ⟨some 25, .bin .neq .other (.tmp 20) (.tmp 24), none⟩]) (.cond (.tmp 25) (.seq (.region [⟨some 4, .mv (.cst (.v (.bool .false))), none⟩]) .ret) .skip))) (.region [⟨some 15, .mv (.tmp 5), none⟩, ⟨some 16, .bin .add .other (.tmp 15) (.cst (.v (.int .i64 1))), none⟩, ⟨some 5, .mv (.tmp 16), none⟩])))))) (.seq (.region [⟨some 4, .mv (.cst (.v (.bool .true))), none⟩]) .ret)))
theorem b_ref08_Ints : HasBody P ref08_Ints 26 c_ref08_Ints [.tmp 4] := .of [] (by kernel_rfl)
noncomputable def c_env_Good_1 : IC := .seq (.region [⟨some 2, .mv (.cst (.v (.bool .false))), none⟩]) (.seq (.region [⟨some 3, .mv (.tmp 0), none⟩, ⟨some 4, .bin .lss .other (.tmp 3) (.cst (.v (.int .i64 0))), none⟩, ⟨some 5, .mv (.tmp 4), none⟩, ⟨some 6, .mv (.tmp 0), some (5, .false)⟩, ⟨some 7, .bin .gtr .other (.tmp 6) (.cst (.v (.int .i64 2))), some (5, .false)⟩, ⟨some 8, .pick (.tmp 5) (.cst (.v (.bool .true))) (.tmp 7), none⟩, ⟨some 2, .mv (.tmp 8), none⟩]) .ret)
theorem b_env_Good_1 : HasBody P env_Good_1 9 c_env_Good_1 [.tmp 2] := .of [] (by kernel_rfl)
noncomputable def c_slices_ContainsFunc_int_int : IC := .seq (.region [⟨some 4, .mv (.cst (.v (.bool .false))), none⟩]) (.seq (.region [⟨some 5, .mv (.tmp 0), none⟩, ⟨some 6, .mv (.tmp 1), none⟩, ⟨some 7, .call slices_IndexFunc_int_int [.tmp 5, .tmp 6], none⟩, ⟨some 8, .bin .geq .other (.tmp 7) (.cst (.v (.int .i64 0))), none⟩, ⟨some 4, .mv (.tmp 8), none⟩]) .ret)
theorem b_slices_ContainsFunc_int_int : HasBody P slices_ContainsFunc_int_int 9 c_slices_ContainsFunc_int_int [.tmp 4] := .of [] (by kernel_rfl)
noncomputable def c_env_Good_2 : IC := .seq (.region [⟨some 2, .mv (.cst (.v (.bool .false))), none⟩]) (.seq (.region [⟨some 3, .mv (.tmp 0), none⟩, ⟨some 4, .call env_time [.tmp 3], none⟩, ⟨some 5, .un .not (.tmp 4), none⟩, ⟨some 2, .mv (.tmp 5), none⟩]) .ret)
theorem b_env_Good_2 : HasBody P env_Good_2 6 c_env_Good_2 [.tmp 2] := .of [] (by kernel_rfl)
noncomputable def c_env_time : IC := .seq (.region [⟨some 2, .mv (.cst (.v (.bool .false))), none⟩]) (.seq (.region [⟨some 3, .mv (.tmp 0), none⟩, ⟨some 4, .bin .geq .other (.tmp 3) (.cst (.v (.int .i64 0))), none⟩, ⟨some 5, .mv (.tmp 4), none⟩, ⟨some 6, .mv (.tmp 0), some (5, .true)⟩, ⟨some 7, .bin .leq .other (.tmp 6) (.cst (.v (.int .i64 1099511627776))), some (5, .true)⟩, ⟨some 8, .pick (.tmp 5) (.tmp 7) (.cst (.v (.bool .false))), none⟩, ⟨some 2, .mv (.tmp 8), none⟩]) .ret)
theorem b_env_time : HasBody P env_time 9 c_env_time [.tmp 2] := .of [] (by kernel_rfl)
noncomputable def c_env_mailbox : IC := .seq (.region [⟨some 2, .mv (.cst (.v (.bool .false))), none⟩]) (.seq (.region [⟨some 6, .mv (.tmp 0), none⟩, ⟨some 7, .call addr_Canon [.tmp 6], none⟩, ⟨some 5, .mv (.tmp 7), none⟩, ⟨some 8, .ext (.tmp 5) 0, none⟩, ⟨some 9, .ext (.tmp 5) 1, none⟩, ⟨some 3, .mv (.tmp 8), none⟩, ⟨some 4, .mv (.tmp 9), none⟩]) (.seq (.region [⟨some 10, .mv (.tmp 4), none⟩, ⟨some 11, .mv (.tmp 10), none⟩, ⟨some 12, .mv (.tmp 3), some (11, .true)⟩, ⟨some 13, .mv (.tmp 0), some (11, .true)⟩, ⟨some 14, .bin .eql .other (.tmp 12) (.tmp 13), some (11, .true)⟩, ⟨some 15, .pick (.tmp 11) (.tmp 14) (.cst (.v (.bool .false))), none⟩, ⟨some 2, .mv (.tmp 15), none⟩]) .ret))
theorem b_env_mailbox : HasBody P env_mailbox 16 c_env_mailbox [.tmp 2] := .of [] (by kernel_rfl)
noncomputable def c_env_Good_3 : IC := .seq (.region [⟨some 2, .mv (.cst (.v (.bool .false))), none⟩]) (.seq (.region [⟨some 3, .mv (.tmp 0), none⟩, ⟨some 4, .call env_mailbox [.tmp 3], none⟩, ⟨some 5, .un .not (.tmp 4), none⟩, ⟨some 2, .mv (.tmp 5), none⟩]) .ret)
theorem b_env_Good_3 : HasBody P env_Good_3 6 c_env_Good_3 [.tmp 2] := .of [] (by kernel_rfl)
noncomputable def c_dots_Good : IC := .seq (.region [⟨some 2, .mv (.cst (.v (.bool .false))), none⟩]) (.seq (.seq (.region [⟨some 5, .mv (.tmp 0), none⟩, ⟨some 6, .len .sl (.tmp 5), none⟩, ⟨some 7, .mv (.cst (.v (.int .i64 0))), none⟩]) (.block 0 (.loop (.seq (.region [⟨some 8, .bin .lss .other (.tmp 7) (.tmp 6), none⟩]) (.seq (.cond (.tmp 8) .skip (.exit 0)) (.seq (.block 1 (.seq (.region [⟨some 9, .iaL 1 (.tmp 5) (.tmp 7), none⟩, ⟨some 10, .load (.tmp 9) none, none⟩, ⟨some 4, .mv (.tmp 10), none⟩]) (.seq (.region [⟨some 11, .mv (.tmp 4), none⟩, ⟨some 12, .call strings_IndexByte [.tmp 11, .cst (.v (.int .u8 0))], none⟩, ⟨some 13, .bin .geq .other (.tmp 12) (.cst (.v (.int .i64 0))), none⟩, ⟨some 14, .mv (.tmp 13), none⟩, ⟨some 15, .mv (.tmp 4), some (14, .false)⟩, ⟨some 16, .call strings_IndexByte [.tmp 15, .cst (.v (.int .u8 10))], some (14, .false)⟩, ⟨some 17, .bin .geq .other (.tmp 16) (.cst (.v (.int .i64 0))), some (14, .false)⟩, ⟨some 18, .pick (.tmp 14) (.cst (.v (.bool .true))) (.tmp 17), none⟩, ⟨some 19, .mv (.tmp 18), none⟩, ⟨some 20, .mv (.tmp 4), some (19, .false)⟩, ⟨some 21, .call strings_IndexByte [.tmp 20, .cst (.v (.int .u8 13))], some (19, .false)⟩, ⟨some 22, .bin .geq .other (.tmp 21) (.cst (.v (.int .i64 0))), some (19, .false)⟩, ⟨some 23, .pick (.tmp 19) (.cst (.v (.bool .true))) (.tmp 22), none⟩, ⟨some 24, .mv (.tmp 23), none⟩, ⟨some 25, .mv (.tmp 4), some (24, .false)⟩, ⟨some 26, .len .str (.tmp 25), some (24, .false)⟩, ⟨some 27, .bin .gtr .other (.tmp 26) (.cst (.v (.int .i64 997))), some (24, .false)⟩, ⟨some 28, .pick (.tmp 24) (.cst (.v (.bool .true))) (.tmp 27), none⟩]) (.cond (.tmp 28) (.seq (.region [⟨some 2, .mv (.cst (.v (.bool .false))), none⟩]) .ret) .skip)))) (.region [⟨some 29, .bin .add .other (.tmp 7) (.cst (.v (.int .i64 1))), none⟩, ⟨some 7, .mv (.tmp 29), none⟩]))))))) (.seq (.region [⟨some 30, .mv (.tmp 0), none⟩, ⟨some 31, .call dots_Size [.tmp 30], none⟩, ⟨some 32, .bin .leq .other (.tmp 31) (.cst (.v (.int .i64 65536))), none⟩, ⟨some 2, .mv (.tmp 32), none⟩]) .ret))
theorem b_dots_Good : HasBody P dots_Good 33 c_dots_Good [.tmp 2] := .of [] (by kernel_rfl)
noncomputable def c_ref08_num : IC := .seq (.region [⟨some 4, .mv (.cst (.list 1 [] .full)), none⟩]) (.seq (.region [⟨some 7, .mv (.tmp 1), none⟩, ⟨some 8, .mks 1 1 [.v (.int .u8 0)] (.tmp 7) (.tmp 7), none⟩, ⟨some 5, .mv (.tmp 8), none⟩]) (.seq (.seq (.region [⟨some 9, .mv (.tmp 1), none⟩, ⟨some 10, .bin .sub .other (.tmp 9) (.cst (.v (.int .i64 1))), none⟩, ⟨some 6, .mv (.tmp 10), none⟩]) (.block 0 (.loop (.seq (.seq (.region [⟨some 11, .mv (.tmp 6), none⟩, ⟨some 12, .bin .geq .other (.tmp 11) (.cst (.v (.int .i64 0))), none⟩]) (.cond (.tmp 12) .skip (.exit 0))) (.seq (.block 1 (.seq (.region [⟨some 15, .mv (.tmp 5), none⟩, ⟨some 16, .mv (.tmp 6), none⟩, ⟨some 17, .mv (.tmp 0), none⟩, ⟨some 18, .bin .rem .other (.tmp 17) (.cst (.v (.int .i64 256))), none⟩, ⟨some 19, .convI .u8 (.tmp 18), none⟩, ⟨some 20, .iaL 1 (.tmp 15) (.tmp 16), none⟩, ⟨none, .store (.tmp 20) (.tmp 19) 1, none⟩]) (.region [⟨some 21, .mv (.tmp 0), none⟩, ⟨some 22, .bin .quo .other (.tmp 21) (.cst (.v (.int .i64 256))), none⟩, ⟨some 0, .mv (.tmp 22), none⟩]))) (.region [⟨some 13, .mv (.tmp 6), none⟩, ⟨some 14, .bin .sub .other (.tmp 13) (.cst (.v (.int .i64 1))), none⟩, ⟨some 6, .mv (.tmp 14), none⟩])))))) (.seq (.region [⟨some 23, .mv (.tmp 5), none⟩, ⟨some 4, .mv (.tmp 23), none⟩]) .ret)))
theorem b_ref08_num : HasBody P ref08_num 24 c_ref08_num [.tmp 4] := .of [] (by kernel_rfl)
noncomputable def c_ref08_text : IC := .seq (.region [⟨some 2, .mv (.cst (.list 1 [] .full)), none⟩]) (.seq (.region [⟨some 3, .mv (.tmp 0), none⟩, ⟨some 4, .len .str (.tmp 3), none⟩, ⟨some 5, .call ref08_num [.tmp 4, .cst (.v (.int .i64 2))], none⟩, ⟨some 6, .mv (.tmp 0), none⟩, ⟨some 7, .app 1 1 (.tmp 5) (.tmp 6), none⟩, ⟨some 2, .mv (.tmp 7), none⟩]) .ret)
theorem b_ref08_text : HasBody P ref08_text 8 c_ref08_text [.tmp 2] := .of [] (by kernel_rfl)
noncomputable def c_ref01_Size : IC := .seq (.region [⟨some 2, .mv (.cst (.v (.int .i64 0))), none⟩]) (.seq (.region [⟨some 3, .mv (.cst (.v (.int .i64 0))), none⟩]) (.seq (.seq (.region [⟨some 4, .mv (.cst (.v (.int .i64 0))), none⟩]) (.block 0 (.loop (.seq (.seq (.region [⟨some 5, .mv (.tmp 4), none⟩, ⟨some 6, .mv (.tmp 0), none⟩, ⟨some 7, .len .sl (.tmp 6), none⟩, ⟨some 8, .bin .lss .other (.tmp 5) (.tmp 7), none⟩]) (.cond (.tmp 8) .skip (.exit 0))) (.seq (.block 1 (.region [⟨some 11, .mv (.tmp 3), none⟩, ⟨some 12, .mv (.tmp 0), none⟩, ⟨some 13, .mv (.tmp 4), none⟩, ⟨some 14, .iaL 1 (.tmp 12) (.tmp 13), none⟩, ⟨some 15, .load (.tmp 14) none, none⟩, ⟨some 16, .len .str (.tmp 15), none⟩, ⟨some 17, .bin .add .other (.tmp 11) (.tmp 16), none⟩, ⟨some 18, .bin .add .other (.tmp 17) (.cst (.v (.int .i64 2))), none⟩, ⟨some 3, .mv (.tmp 18), none⟩])) (.region [⟨some 9, .mv (.tmp 4), none⟩, ⟨some 10, .bin .add .other (.tmp 9) (.cst (.v (.int .i64 1))), none⟩, ⟨some 4, .mv (.tmp 10), none⟩])))))) (.seq (.region [⟨some 19, .mv (.tmp 3), none⟩, ⟨some 2, .mv (.tmp 19), none⟩]) .ret)))
theorem b_ref01_Size : HasBody P ref01_Size 20 c_ref01_Size [.tmp 2] := .of [] (by kernel_rfl)
noncomputable def c_slices_IndexFunc_int_int : IC := .seq (.region [⟨some 4, .mv (.cst (.v (.int .i64 0))), none⟩]) (.seq (.seq (.region [⟨some 6, .mv (.tmp 0), none⟩, ⟨some 7, .len .sl (.tmp 6), none⟩, ⟨some 8, .mv (.cst (.v (.int .i64 0))), none⟩]) (.block 0 (.loop (.seq (.region [⟨some 9, .bin .lss .other (.tmp 8) (.tmp 7), none⟩]) (.seq (.cond (.tmp 9) .skip (.exit 0)) (.seq (.block 1 (.seq (.region [⟨some 10, .mv (.tmp 8), none⟩, ⟨some 5, .mv (.tmp 10), none⟩]) (.seq (.region [⟨some 11, .mv (.tmp 1), none⟩, ⟨some 12, .mv (.tmp 0), none⟩, ⟨some 13, .mv (.tmp 5), none⟩, ⟨some 14, .iaL 1 (.tmp 12) (.tmp 13), none⟩, ⟨some 15, .load (.tmp 14) none, none⟩, ⟨some 16, .callv (.tmp 11) [.tmp 15], none⟩]) (.cond (.tmp 16) (.seq (.region [⟨some 17, .mv (.tmp 5), none⟩, ⟨some 4, .mv (.tmp 17), none⟩]) .ret) .skip)))) (.region [⟨some 18, .bin .add .other (.tmp 8) (.cst (.v (.int .i64 1))), none⟩, ⟨some 8, .mv (.tmp 18), none⟩]))))))) (.seq (.region [⟨some 4, .mv (.cst (.v (.int .i64 (-1)))), none⟩]) .ret))
theorem b_slices_IndexFunc_int_int : HasBody P slices_IndexFunc_int_int 19 c_slices_IndexFunc_int_int [.tmp 4] := .of [] (by kernel_rfl)
noncomputable def c_dots_Size : IC := .seq (.region [⟨some 2, .mv (.cst (.v (.int .i64 0))), none⟩]) (.seq (.region [⟨some 3, .mv (.cst (.v (.int .i64 0))), none⟩]) (.seq (.seq (.region [⟨some 6, .mv (.tmp 0), none⟩, ⟨some 7, .len .sl (.tmp 6), none⟩, ⟨some 8, .mv (.cst (.v (.int .i64 0))), none⟩]) (.block 0 (.loop (.seq (.region [⟨some 9, .bin .lss .other (.tmp 8) (.tmp 7), none⟩]) (.seq (.cond (.tmp 9) .skip (.exit 0)) (.seq (.block 1 (.seq (.region [⟨some 10, .iaL 1 (.tmp 6) (.tmp 8), none⟩, ⟨some 11, .load (.tmp 10) none, none⟩, ⟨some 5, .mv (.tmp 11), none⟩]) (.region [⟨some 12, .mv (.tmp 3), none⟩, ⟨some 13, .mv (.tmp 5), none⟩, ⟨some 14, .len .str (.tmp 13), none⟩, ⟨some 15, .bin .add .other (.tmp 14) (.cst (.v (.int .i64 2))), none⟩, ⟨some 16, .bin .add .other (.tmp 12) (.tmp 15), none⟩, ⟨some 3, .mv (.tmp 16), none⟩]))) (.region [⟨some 17, .bin .add .other (.tmp 8) (.cst (.v (.int .i64 1))), none⟩, ⟨some 8, .mv (.tmp 17), none⟩]))))))) (.seq (.region [⟨some 18, .mv (.tmp 3), none⟩, ⟨some 2, .mv (.tmp 18), none⟩]) .ret)))
theorem b_dots_Size : HasBody P dots_Size 19 c_dots_Size [.tmp 2] := .of [] (by kernel_rfl)
end Go.Abs.F
