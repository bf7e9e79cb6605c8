/- What the proof needs, part 16: Layer 1: the program's mailboxes and paths. Layer 1: the program's routes and paths. Layer 1: the reference's local parts, domains, mailboxes. Layer 1: the reference's domains, mailboxes; Layer 1: paths: the program's and the reference's; For a seat that has the texts of addresses: what Smb holds elsewhere stands there; built under Smb's name; Replies' lines, read by the program and by the document; Layer 5: bodies; Layer 7: a session with the next hop: the plain side. -/
import Derived.Test.YtlmgpkopcgcbgaaGreatDoorQServeMail14
import Derived.Test.YtlmgpkopcgcbgaaGreatDoorQServeMail10
import Derived.Test.YtlmgpkopcgcbgaaGreatDoorQServeMail15
/- Layer 1: the program's mailboxes and paths. Layer 1: the program's routes and paths. Layer 1: the reference's local parts, domains, mailboxes. Layer 1: the reference's domains, mailboxes. -/
namespace Go.Abs.F
open Go Go.Abs
set_option maxRecDepth 10000
set_option maxHeartbeats 20000000
set_option linter.unusedSimpArgs false
set_option linter.unusedVariables false
variable {w0 : World}
def splitV (s : List UInt8) : AV := match splitO s with
  | some x => .tup [.v (.string (bs x.1)), .v (.string (bs x.2)), .v (.bool true)]
  | none => .tup [.v (.string (bs [])), .v (.string (bs [])), .v (.bool false)]
def optV : Option (List UInt8) → AV
  | some c => .tup [.v (.string (bs c)), .v (.bool true)]
  | none => .tup [.v (.string (bs [])), .v (.bool false)]
theorem cutB_le (c : UInt8) (s : List UInt8) : (cutB c s).1.length ≤ s.length ∧ (cutB c s).2.1.length ≤ s.length := by
  rcases cutB_cases c s with ⟨_, h⟩ | ⟨a, r, rfl, _, h⟩
  · rw [h]; exact ⟨Nat.le_refl _, Nat.zero_le _⟩
  · rw [h]; simp; omega
theorem split_call (s : List UInt8) (h : AH) (hl : s.length ≤ 1000000000) : Call P w0 addr_Split [.v (.string (bs s))] h (fun v h' => v = splitV s ∧ Ext h h') := by
  have hcut := fun h => cut_call (w0 := w0) s 64 h (by omega)
  obtain ⟨l1, l2⟩ := cutB_le 64 s
  have hlo := fun h => local_call (w0 := w0) (cutB 64 s).1 h (by omega)
  have hdo := fun h => domain_call (w0 := w0) (cutB 64 s).2.1 h (by omega)
  have hsv : splitV s = if (cutB 64 s).2.2 = true ∧ localS (cutB 64 s).1 = true ∧ domainS (cutB 64 s).2.1 = true then .tup [.v (.string (bs (cutB 64 s).1)), .v (.string (bs (cutB 64 s).2.1)), .v (.bool true)] else .tup [.v (.string (bs [])), .v (.string (bs [])), .v (.bool false)] := by
    unfold splitV splitO
    by_cases hc : (cutB 64 s).2.2 = true ∧ localS (cutB 64 s).1 = true ∧ domainS (cutB 64 s).2.1 = true
    · rw [if_pos hc, if_pos hc]
    · rw [if_neg hc, if_neg hc]
  rw [hsv]
  clear hsv
  refine Call.bodyF b_addr_Split rfl rfl ?_
  unfold c_addr_Split
  generalize cutB 64 s = q at *
  obtain ⟨a, r, ok⟩ := q
  simp only [] at *
  cases ok <;> cases hA : localS a <;> cases hD : domainS r
  all_goals rw [hA] at hlo
  all_goals rw [hD] at hdo
  all_goals simp only [Bool.false_eq_true, false_and, and_false, if_false, and_self, if_true]
  all_goals repeat' (first
| ((with_reducible apply opsF.op rfl); case hs => first | exact tHT | exact tHS)
| (with_reducible first | apply opsF.nil | apply seqF.nn | apply vcF.seq | apply vcF.region | apply vcF.skip | apply vcF.ret | apply seqF.r)
| ((with_reducible apply opsF.call); case hx => exact tAG)
| ((with_reducible apply opsF.want); (case hg => exact tEV); case hb => exact tNB)
| ((with_reducible apply opsF.skip); (case hg => exact tEV); case hb => exact tNB)
| (first | ((with_reducible apply opsF.case); case hg => exact tEV) | ((with_reducible apply vcF.cond); case hx => exact tEV)) <;> ((intro hc; try simp only [Int.reduceLT, Int.reduceLE, Int.reduceEq, Int.reduceNe, Int.cast_ofNat_Int, Int.reduceNeg, reduceCtorEq, ne_eq, ge_iff_le, gt_iff_lt, beq_iff_eq, beq_eq_false_iff_ne, bne_iff_ne, bne_eq_false_iff_eq, nrm, *] at hc) <;> try (exfalso; omega))
| ((with_reducible apply opsF.und); case hg => rfl)
| ((with_reducible first | apply retF.r | apply retF.nn); case hv => exact tRS)
| ((refine (hcut _).mono fun v h2 hp => ?_); obtain ⟨rfl, rfl⟩ := hp)
| ((refine (hlo _).mono fun v h2 hp => ?_); obtain ⟨rfl, he⟩ := hp; have hN := he.n; have hO := he.objs; (try simp only [alloc_n, set_n, newTok_n, bump_n] at hN hO))
| ((refine (hdo _).mono fun v h3 hp => ?_); obtain ⟨rfl, he2⟩ := hp; have hN := he2.n; have hO := he2.objs; (try simp only [alloc_n, set_n, newTok_n, bump_n] at hN hO)))
  all_goals first
    | exact ⟨rfl, .refl _⟩
    | exact ⟨rfl, he.trans he2⟩
    | exact ⟨rfl, he⟩
theorem canonV_eq (s : List UInt8) : optV (canonO s) = match splitO s with
    | some x => .tup [.v (.string (bs (x.1 ++ 64 :: lowerS x.2))), .v (.bool true)]
    | none => .tup [.v (.string (bs [])), .v (.bool false)] := by
  unfold canonO
  cases splitO s <;> rfl
theorem splitO_len {s : List UInt8} {x : List UInt8 × List UInt8} (h : splitO s = some x) : x.1.length ≤ 64 ∧ x.2.length ≤ 255 := by
  unfold splitO at h
  split at h
  · rename_i hh
    injection h with h
    subst h
    obtain ⟨_, h2, h3⟩ := hh
    simp only [localS, domainS, Bool.and_eq_true, decide_eq_true_eq] at h2 h3
    exact ⟨h2.1, h3.1⟩
  · cases h
theorem lowerS_len (s : List UInt8) : (lowerS s).length = s.length := by simp [lowerS]
theorem canon_call (s : List UInt8) (h : AH) (hl : s.length ≤ 1000000000) : Call P w0 addr_Canon [.v (.string (bs s))] h (fun v h' => v = optV (canonO s) ∧ Ext h h') := by
  have hsp := fun h => split_call (w0 := w0) s h hl
  rw [canonV_eq]
  unfold splitV at hsp
  refine Call.bodyF b_addr_Canon rfl rfl ?_
  unfold c_addr_Canon
  cases hx : splitO s with
  | none =>
    rw [hx] at hsp
    repeat' (first
| ((with_reducible apply opsF.op rfl); case hs => first | exact tHT | exact tHS)
| (with_reducible first | apply opsF.nil | apply seqF.nn | apply vcF.seq | apply vcF.region | apply vcF.skip | apply vcF.ret | apply seqF.r)
| ((with_reducible apply opsF.call); case hx => exact tAG)
| ((with_reducible apply vcF.cond); case hx => exact tEV) <;> ((intro hc; try simp only [Int.reduceLT, Int.reduceLE, Int.reduceEq, Int.reduceNe, Int.cast_ofNat_Int, Int.reduceNeg, reduceCtorEq, ne_eq, ge_iff_le, gt_iff_lt, beq_iff_eq, beq_eq_false_iff_ne, bne_iff_ne, bne_eq_false_iff_eq, nrm, *] at hc) <;> try (exfalso; omega))
| ((with_reducible first | apply retF.r | apply retF.nn); case hv => exact tRS)
| ((refine (hsp _).mono fun v h2 hp => ?_); obtain ⟨rfl, he⟩ := hp; have hN := he.n; have hO := he.objs; (try simp only [alloc_n, set_n, newTok_n, bump_n] at hN hO)))
    all_goals exact ⟨rfl, he⟩
  | some x =>
    obtain ⟨a, b⟩ := x
    obtain ⟨g1, g2⟩ := splitO_len hx
    rw [hx] at hsp
    simp only [] at g1 g2 hsp ⊢
    have hlw := fun h => lower_call (w0 := w0) b h (by omega)
    have hll := lowerS_len b
    repeat' (first
| ((with_reducible apply opsF.op rfl); case hs => first | exact tHT | exact tHS)
| (with_reducible first | apply opsF.nil | apply seqF.nn | apply vcF.seq | apply vcF.region | apply vcF.skip | apply vcF.ret | apply seqF.r)
| ((with_reducible apply opsF.call); case hx => exact tAG)
| ((with_reducible apply vcF.cond); case hx => exact tEV) <;> ((intro hc; try simp only [Int.reduceLT, Int.reduceLE, Int.reduceEq, Int.reduceNe, Int.cast_ofNat_Int, Int.reduceNeg, reduceCtorEq, ne_eq, ge_iff_le, gt_iff_lt, beq_iff_eq, beq_eq_false_iff_ne, bne_iff_ne, bne_eq_false_iff_eq, nrm, *] at hc) <;> try (exfalso; omega))
| ((with_reducible first | apply retF.r | apply retF.nn); case hv => exact tRS)
| ((refine (hsp _).mono fun v h2 hp => ?_); obtain ⟨rfl, he⟩ := hp; have hN := he.n; have hO := he.objs; (try simp only [alloc_n, set_n, newTok_n, bump_n] at hN hO))
| ((refine (hlw _).mono fun v h3 hp => ?_); obtain ⟨rfl, he2⟩ := hp; have hN := he2.n; have hO := he2.objs; (try simp only [alloc_n, set_n, newTok_n, bump_n] at hN hO)))
    all_goals exact ⟨by simp, he.trans he2⟩
end Go.Abs.F
namespace Go.Abs.F
open Go Go.Abs
set_option maxRecDepth 10000
set_option maxHeartbeats 20000000
set_option linter.unusedSimpArgs false
set_option linter.unusedVariables false
variable {w0 : World}
theorem route1_call (s : List UInt8) (h : AH) (hl : s.length ≤ 1000000000) : Call P w0 addr_route_1 [.v (.string (bs s))] h (fun v h' => v = .v (.bool (!atS s)) ∧ Ext h h') := by
  refine Call.bodyF b_addr_route_1 rfl rfl ?_
  unfold c_addr_route_1
  cases s with
  | nil =>
    have : atS [] = false := rfl
    rw [this]
    repeat' (first
| ((with_reducible apply opsF.op rfl); case hs => first | exact tHT | exact tHS)
| (with_reducible first | apply opsF.nil | apply seqF.nn | apply vcF.seq | apply vcF.region | apply vcF.skip | apply vcF.ret | apply seqF.r)
| ((with_reducible apply opsF.call); case hx => exact tAG)
| ((with_reducible apply opsF.want); (case hg => exact tEV); case hb => exact tNB)
| ((with_reducible apply opsF.skip); (case hg => exact tEV); case hb => exact tNB)
| (first | ((with_reducible apply opsF.case); case hg => exact tEV) | ((with_reducible apply vcF.cond); case hx => exact tEV)) <;> ((intro hc; try simp only [Int.reduceLT, Int.reduceLE, Int.reduceEq, Int.reduceNe, Int.cast_ofNat_Int, Int.reduceNeg, reduceCtorEq, ne_eq, ge_iff_le, gt_iff_lt, beq_iff_eq, beq_eq_false_iff_ne, bne_iff_ne, bne_eq_false_iff_eq, nrm, *] at hc) <;> try (exfalso; omega))
| ((with_reducible apply opsF.und); case hg => rfl)
| ((with_reducible first | apply retF.r | apply retF.nn); case hv => exact tRS))
    all_goals exact ⟨rfl, .refl _⟩
  | cons x r =>
    have hdo := fun h => domain_call (w0 := w0) r h (by simp at hl; omega)
    have h0 : (x :: r)[0]? = some x := rfl
    have hne : (x :: r) ≠ [] := by simp
    have hsl : (x :: r).length = r.length + 1 := rfl
    have hdr : ((x :: r).take (r.length + 1)).drop 1 = r := by rw [← hsl, List.take_length]; rfl
    by_cases hx : (x.toNat : Int) = 64
    · have hat : atS (x :: r) = domainS r := by
        have : x = 64 := UInt8.toNat_inj.1 (by rw [show (64 : UInt8).toNat = 64 from rfl]; omega)
        simp [atS, this]
      rw [hat]
      generalize x :: r = s at *
      repeat' (first
| ((with_reducible apply opsF.op rfl); case hs => first | exact tHT | exact tHS)
| (with_reducible first | apply opsF.nil | apply seqF.nn | apply vcF.seq | apply vcF.region | apply vcF.skip | apply vcF.ret | apply seqF.r)
| ((with_reducible apply opsF.call); case hx => exact tAG)
| ((with_reducible apply opsF.want); (case hg => exact tEV); case hb => exact tNB)
| ((with_reducible apply opsF.skip); (case hg => exact tEV); case hb => exact tNB)
| (first | ((with_reducible apply opsF.case); case hg => exact tEV) | ((with_reducible apply vcF.cond); case hx => exact tEV)) <;> ((intro hc; try simp only [Int.reduceLT, Int.reduceLE, Int.reduceEq, Int.reduceNe, Int.cast_ofNat_Int, Int.reduceNeg, reduceCtorEq, ne_eq, ge_iff_le, gt_iff_lt, beq_iff_eq, beq_eq_false_iff_ne, bne_iff_ne, bne_eq_false_iff_eq, nrm, *] at hc) <;> try (exfalso; omega))
| ((with_reducible apply opsF.und); case hg => rfl)
| ((with_reducible first | apply retF.r | apply retF.nn); case hv => exact tRS)
| ((refine (hdo _).mono fun v h2 hp => ?_); obtain ⟨rfl, he⟩ := hp; have hN := he.n; have hO := he.objs; (try simp only [alloc_n, set_n, newTok_n, bump_n] at hN hO)))
      all_goals exact ⟨rfl, he⟩
    · have hat : atS (x :: r) = false := by
        have : x ≠ 64 := fun e => hx (by rw [e]; rfl)
        simp [atS, this]
      rw [hat]
      generalize x :: r = s at *
      repeat' (first
| ((with_reducible apply opsF.op rfl); case hs => first | exact tHT | exact tHS)
| (with_reducible first | apply opsF.nil | apply seqF.nn | apply vcF.seq | apply vcF.region | apply vcF.skip | apply vcF.ret | apply seqF.r)
| ((with_reducible apply opsF.call); case hx => exact tAG)
| ((with_reducible apply opsF.want); (case hg => exact tEV); case hb => exact tNB)
| ((with_reducible apply opsF.skip); (case hg => exact tEV); case hb => exact tNB)
| (first | ((with_reducible apply opsF.case); case hg => exact tEV) | ((with_reducible apply vcF.cond); case hx => exact tEV)) <;> ((intro hc; try simp only [Int.reduceLT, Int.reduceLE, Int.reduceEq, Int.reduceNe, Int.cast_ofNat_Int, Int.reduceNeg, reduceCtorEq, ne_eq, ge_iff_le, gt_iff_lt, beq_iff_eq, beq_eq_false_iff_ne, bne_iff_ne, bne_eq_false_iff_eq, nrm, *] at hc) <;> try (exfalso; omega))
| ((with_reducible apply opsF.und); case hg => rfl)
| ((with_reducible first | apply retF.r | apply retF.nn); case hv => exact tRS))
      all_goals exact ⟨rfl, .refl _⟩
theorem shasP_call (s : List UInt8) (c : UInt8) (h : AH) : Call P w0 strings_HasPrefix [.v (.string (bs s)), .v (.string (bs [c]))] h (fun v h' => v = .v (.bool (decide (s.head? = some c))) ∧ h' = h) := by
  refine Call.bodyF b_strings_HasPrefix rfl rfl ?_
  unfold c_strings_HasPrefix
  repeat' (first
| ((with_reducible apply opsF.op rfl); case hs => first | exact tHT | exact tHS)
| (with_reducible first | apply opsF.nil | apply seqF.nn | apply vcF.seq | apply vcF.region | apply vcF.skip | apply vcF.ret | apply seqF.r)
| ((with_reducible apply opsF.call); case hx => exact tAG)
| ((with_reducible apply vcF.cond); case hx => exact tEV) <;> ((intro hc; try simp only [Int.reduceLT, Int.reduceLE, Int.reduceEq, Int.reduceNe, Int.cast_ofNat_Int, Int.reduceNeg, reduceCtorEq, ne_eq, ge_iff_le, gt_iff_lt, beq_iff_eq, beq_eq_false_iff_ne, bne_iff_ne, bne_eq_false_iff_eq, nrm, *] at hc) <;> try (exfalso; omega))
| ((with_reducible first | apply retF.r | apply retF.nn); case hv => exact tRS)
| ((refine (hasP_call s c _).mono fun v h2 hp => ?_); obtain ⟨rfl, rfl⟩ := hp))
  all_goals exact ⟨rfl, rfl⟩
/-- What route gives. -/
def RouteP (s : List UInt8) (v : AV) : Prop := match routeO s with
  | some t => v = .tup [.v (.string (bs t)), .v (.bool true)]
  | none => ∃ t, v = .tup [.v (.string (bs t)), .v (.bool false)]
theorem route_call (s : List UInt8) (h : AH) (hl : s.length ≤ 1000000000) : Call P w0 addr_route [.v (.string (bs s))] h (fun v h' => RouteP s v ∧ Ext h h') := by
  have hpre := fun h => shasP_call (w0 := w0) s 64 h
  refine Call.bodyF b_addr_route rfl rfl ?_
  unfold c_addr_route
  by_cases hh : s.head? = some 64
  · have hd : decide (s.head? = some 64) = true := decide_eq_true hh
    rw [hd] at hpre
    have hcut := fun h => cut_call (w0 := w0) s 58 h (by omega)
    obtain ⟨l1, l2⟩ := cutB_le 58 s
    have hro : routeO s = if (cutB 58 s).2.2 = true ∧ (splB 44 (cutB 58 s).1).all atS = true then some (cutB 58 s).2.1 else none := by rw [routeO, if_pos hh]
    unfold RouteP
    rw [hro]
    clear hro
    generalize cutB 58 s = q at *
    obtain ⟨a, r, ok⟩ := q
    simp only [] at *
    have hsp := fun h => spl_call (w0 := w0) a 44 h (by omega)
    have hsl := splB_len (c := 44) a.length (Nat.le_refl _)
    have hp := fun h => conf_call (w0 := w0) addr_route_1 (fun s => !atS s) (splB 44 a) .no (fun w hw h => route1_call w h (by have := splB_mem a.length (Nat.le_refl _) hw; omega)) h (by omega)
    rw [any_not] at hp
    generalize (splB 44 a).all atS = B at *
    generalize splB 44 a = ws at *
    cases ok <;> cases B
    all_goals simp only [Bool.false_eq_true, false_and, and_false, if_false, and_self, if_true]
    all_goals repeat' (first
| ((with_reducible apply opsF.op rfl); case hs => first | exact tHT | exact tHS)
| (with_reducible first | apply opsF.nil | apply seqF.nn | apply vcF.seq | apply vcF.region | apply vcF.skip | apply vcF.ret | apply seqF.r)
| ((with_reducible apply opsF.call); case hx => exact tAG)
| ((with_reducible apply opsF.want); (case hg => exact tEV); case hb => exact tNB)
| ((with_reducible apply opsF.skip); (case hg => exact tEV); case hb => exact tNB)
| (first | ((with_reducible apply opsF.case); case hg => exact tEV) | ((with_reducible apply vcF.cond); case hx => exact tEV)) <;> ((intro hc; try simp only [Int.reduceLT, Int.reduceLE, Int.reduceEq, Int.reduceNe, Int.cast_ofNat_Int, Int.reduceNeg, reduceCtorEq, ne_eq, ge_iff_le, gt_iff_lt, beq_iff_eq, beq_eq_false_iff_ne, bne_iff_ne, bne_eq_false_iff_eq, nrm, *] at hc) <;> try (exfalso; omega))
| ((with_reducible apply opsF.und); case hg => rfl)
| ((with_reducible first | apply retF.r | apply retF.nn); case hv => exact tRS)
| ((refine (hpre _).mono fun v h2 hp => ?_); obtain ⟨rfl, rfl⟩ := hp)
| ((refine (hcut _).mono fun v h2 hp => ?_); obtain ⟨rfl, rfl⟩ := hp)
| ((refine (hsp _).mono fun v h2 hp => ?_); obtain ⟨rfl, he⟩ := hp; have hN := he.n; have hO := he.objs; (try simp only [alloc_n, set_n, newTok_n, bump_n] at hN hO))
| ((refine (hp _).mono fun v h3 hp => ?_); obtain ⟨rfl, he2⟩ := hp; have hN := he2.n; have hO := he2.objs; (try simp only [alloc_n, set_n, newTok_n, bump_n] at hN hO)))
    all_goals first
      | exact ⟨⟨_, rfl⟩, .refl _⟩
      | exact ⟨⟨_, rfl⟩, he.trans he2⟩
      | exact ⟨rfl, he.trans he2⟩
  · have hd : decide (s.head? = some 64) = false := decide_eq_false hh
    rw [hd] at hpre
    have hro : routeO s = some s := by rw [routeO, if_neg hh]
    unfold RouteP
    rw [hro]
    repeat' (first
| ((with_reducible apply opsF.op rfl); case hs => first | exact tHT | exact tHS)
| (with_reducible first | apply opsF.nil | apply seqF.nn | apply vcF.seq | apply vcF.region | apply vcF.skip | apply vcF.ret | apply seqF.r)
| ((with_reducible apply opsF.call); case hx => exact tAG)
| ((with_reducible apply opsF.want); (case hg => exact tEV); case hb => exact tNB)
| ((with_reducible apply opsF.skip); (case hg => exact tEV); case hb => exact tNB)
| (first | ((with_reducible apply opsF.case); case hg => exact tEV) | ((with_reducible apply vcF.cond); case hx => exact tEV)) <;> ((intro hc; try simp only [Int.reduceLT, Int.reduceLE, Int.reduceEq, Int.reduceNe, Int.cast_ofNat_Int, Int.reduceNeg, reduceCtorEq, ne_eq, ge_iff_le, gt_iff_lt, beq_iff_eq, beq_eq_false_iff_ne, bne_iff_ne, bne_eq_false_iff_eq, nrm, *] at hc) <;> try (exfalso; omega))
| ((with_reducible apply opsF.und); case hg => rfl)
| ((with_reducible first | apply retF.r | apply retF.nn); case hv => exact tRS)
| ((refine (hpre _).mono fun v h2 hp => ?_); obtain ⟨rfl, rfl⟩ := hp))
    all_goals exact ⟨rfl, .refl _⟩
end Go.Abs.F
namespace Go.Abs.F
open Go Go.Abs
set_option maxRecDepth 10000
set_option maxHeartbeats 20000000
set_option linter.unusedSimpArgs false
set_option linter.unusedVariables false
variable {w0 : World}
theorem u8_iff {x c : UInt8} : ((x.toNat : Int) = (c.toNat : Int)) ↔ x = c := ⟨fun e => UInt8.toNat_inj.1 (by omega), fun e => by rw [e]⟩
theorem rin_call (s : List UInt8) (c : UInt8) (h : AH) (hl : s.length ≤ 140737488351232) : Call P w0 ref01_in [.v (.string (bs s)), .v (.int .u8 (c.toNat : Int))] h (fun v h' => v = .v (.bool (s.contains c)) ∧ h' = h) := by
  refine Call.bodyF b_ref01_in rfl rfl ?_
  unfold c_ref01_in
  repeat' (first
| ((with_reducible apply opsF.op rfl); case hs => first | exact tHT | exact tHS)
| (with_reducible first | apply opsF.nil | apply seqF.nn | apply vcF.seq | apply vcF.region | apply vcF.skip | apply vcF.block | apply vcF.exit | apply vcF.ret | apply vcF.loop | apply seqF.e | apply seqF.r | apply blkF.nn | apply blkF.e | apply blkF.r | apply blkF.o rfl)
| ((with_reducible apply opsF.call); case hx => exact tAG)
| ((with_reducible apply vcF.cond); case hx => exact tEV) <;> ((intro hc; try simp only [Int.reduceLT, Int.reduceLE, Int.reduceEq, Int.reduceNe, Int.cast_ofNat_Int, Int.reduceNeg, reduceCtorEq, ne_eq, ge_iff_le, gt_iff_lt, beq_iff_eq, beq_eq_false_iff_ne, bne_iff_ne, bne_eq_false_iff_eq, nrm, *] at hc) <;> try (exfalso; omega))
| ((with_reducible first | apply retF.r | apply retF.nn); case hv => exact tRS))
  refine LpF.ind rfl (fun i : Nat => s.length - i) (fun i σ h' => h' = h ∧ σ 0 = .v (.string (bs s)) ∧ σ 1 = .v (.int .u8 (c.toNat : Int)) ∧ σ 5 = .v (.int .i64 (i : Nat)) ∧ i ≤ s.length ∧ c ∉ s.take i) ?_ (i := 0) ⟨rfl, rfl, rfl, rfl, Nat.zero_le _, by simp⟩
  rintro i σ h' ⟨rfl, g0, g1, g5, hi, hn⟩
  rcases Nat.lt_or_ge i s.length with hlt | hge
  · obtain ⟨x, hx⟩ : ∃ x, s[i]? = some x := ⟨_, List.getElem?_eq_getElem hlt⟩
    by_cases hxc : (x.toNat : Int) = (c.toNat : Int)
    · have hc : s.contains c = true := by
        rw [List.contains_iff_mem, ← u8_iff.1 hxc]
        exact List.mem_of_getElem? hx
      rw [hc]
      repeat' (first
| ((with_reducible apply opsF.op rfl); case hs => first | exact tHT | exact tHS)
| (with_reducible first | apply opsF.nil | apply seqF.nn | apply vcF.seq | apply vcF.region | apply vcF.skip | apply vcF.block | apply vcF.exit | apply vcF.ret | apply vcF.loop | apply seqF.e | apply seqF.r | apply blkF.nn | apply blkF.e | apply blkF.r | apply blkF.o rfl)
| ((with_reducible apply opsF.call); case hx => exact tAG)
| ((with_reducible apply vcF.cond); case hx => exact tEV) <;> ((intro hc; try simp only [Int.reduceLT, Int.reduceLE, Int.reduceEq, Int.reduceNe, Int.cast_ofNat_Int, Int.reduceNeg, reduceCtorEq, ne_eq, ge_iff_le, gt_iff_lt, beq_iff_eq, beq_eq_false_iff_ne, bne_iff_ne, bne_eq_false_iff_eq, nrm, *] at hc) <;> try (exfalso; omega))
| ((with_reducible first | apply retF.r | apply retF.nn); case hv => exact tRS))
      all_goals exact ⟨rfl, rfl⟩
    · repeat' (first
| ((with_reducible apply opsF.op rfl); case hs => first | exact tHT | exact tHS)
| (with_reducible first | apply opsF.nil | apply seqF.nn | apply vcF.seq | apply vcF.region | apply vcF.skip | apply vcF.block | apply vcF.exit | apply vcF.ret | apply vcF.loop | apply seqF.e | apply seqF.r | apply blkF.nn | apply blkF.e | apply blkF.r | apply blkF.o rfl)
| ((with_reducible apply opsF.call); case hx => exact tAG)
| ((with_reducible apply vcF.cond); case hx => exact tEV) <;> ((intro hc; try simp only [Int.reduceLT, Int.reduceLE, Int.reduceEq, Int.reduceNe, Int.cast_ofNat_Int, Int.reduceNeg, reduceCtorEq, ne_eq, ge_iff_le, gt_iff_lt, beq_iff_eq, beq_eq_false_iff_ne, bne_iff_ne, bne_eq_false_iff_eq, nrm, *] at hc) <;> try (exfalso; omega))
| ((with_reducible first | apply retF.r | apply retF.nn); case hv => exact tRS))
      refine ⟨i + 1, by omega, rfl, g0, g1, rfl, by omega, ?_⟩
      rw [List.take_add_one, hx, Option.toList_some, List.mem_append, List.mem_singleton]
      rintro (e | e)
      · exact hn e
      · exact hxc (u8_iff.2 e.symm)
  · obtain rfl : i = s.length := by omega
    rw [List.take_length] at hn
    have hc : s.contains c = false := by
      rw [Bool.eq_false_iff]
      intro e
      exact hn (List.contains_iff_mem.1 e)
    rw [hc]
    repeat' (first
| ((with_reducible apply opsF.op rfl); case hs => first | exact tHT | exact tHS)
| (with_reducible first | apply opsF.nil | apply seqF.nn | apply vcF.seq | apply vcF.region | apply vcF.skip | apply vcF.block | apply vcF.exit | apply vcF.ret | apply vcF.loop | apply seqF.e | apply seqF.r | apply blkF.nn | apply blkF.e | apply blkF.r | apply blkF.o rfl)
| ((with_reducible apply opsF.call); case hx => exact tAG)
| ((with_reducible apply vcF.cond); case hx => exact tEV) <;> ((intro hc; try simp only [Int.reduceLT, Int.reduceLE, Int.reduceEq, Int.reduceNe, Int.cast_ofNat_Int, Int.reduceNeg, reduceCtorEq, ne_eq, ge_iff_le, gt_iff_lt, beq_iff_eq, beq_eq_false_iff_ne, bne_iff_ne, bne_eq_false_iff_eq, nrm, *] at hc) <;> try (exfalso; omega))
| ((with_reducible first | apply retF.r | apply retF.nn); case hv => exact tRS))
    all_goals exact ⟨rfl, rfl⟩
theorem rfind_call (s : List UInt8) (c : UInt8) (h : AH) (hl : s.length ≤ 1000000000000000) : Call P w0 ref01_find [.v (.string (bs s)), .v (.int .u8 (c.toNat : Int))] h (fun v h' => v = .v (.int .i64 (Lib.indexByte s c)) ∧ h' = h) := by
  refine Call.bodyF b_ref01_find rfl rfl ?_
  unfold c_ref01_find
  repeat' (first
| ((with_reducible apply opsF.op rfl); case hs => first | exact tHT | exact tHS)
| (with_reducible first | apply opsF.nil | apply seqF.nn | apply vcF.seq | apply vcF.region | apply vcF.skip | apply vcF.block | apply vcF.exit | apply vcF.ret | apply vcF.loop | apply seqF.e | apply seqF.r | apply blkF.nn | apply blkF.e | apply blkF.r | apply blkF.o rfl)
| ((with_reducible apply opsF.call); case hx => exact tAG)
| ((with_reducible apply vcF.cond); case hx => exact tEV) <;> ((intro hc; try simp only [Int.reduceLT, Int.reduceLE, Int.reduceEq, Int.reduceNe, Int.cast_ofNat_Int, Int.reduceNeg, reduceCtorEq, ne_eq, ge_iff_le, gt_iff_lt, beq_iff_eq, beq_eq_false_iff_ne, bne_iff_ne, bne_eq_false_iff_eq, nrm, *] at hc) <;> try (exfalso; omega))
| ((with_reducible first | apply retF.r | apply retF.nn); case hv => exact tRS))
  refine LpF.ind rfl (fun i : Nat => s.length - i) (fun i σ h' => h' = h ∧ σ 0 = .v (.string (bs s)) ∧ σ 1 = .v (.int .u8 (c.toNat : Int)) ∧ σ 5 = .v (.int .i64 (i : Nat)) ∧ i ≤ s.length ∧ c ∉ s.take i) ?_ (i := 0) ⟨rfl, rfl, rfl, rfl, Nat.zero_le _, by simp⟩
  rintro i σ h' ⟨rfl, g0, g1, g5, hi, hn⟩
  rcases Nat.lt_or_ge i s.length with hlt | hge
  · obtain ⟨x, hx⟩ : ∃ x, s[i]? = some x := ⟨_, List.getElem?_eq_getElem hlt⟩
    by_cases hxc : (x.toNat : Int) = (c.toNat : Int)
    · have hc : Lib.indexByte s c = (i : Int) := by
        have h1 := drop_step hx
        rw [u8_iff.1 hxc] at h1
        have h2 := idx_hit (r := s.drop (i + 1)) hn
        rw [← h1, List.take_append_drop] at h2
        rw [h2]
        simp; omega
      rw [hc]
      repeat' (first
| ((with_reducible apply opsF.op rfl); case hs => first | exact tHT | exact tHS)
| (with_reducible first | apply opsF.nil | apply seqF.nn | apply vcF.seq | apply vcF.region | apply vcF.skip | apply vcF.block | apply vcF.exit | apply vcF.ret | apply vcF.loop | apply seqF.e | apply seqF.r | apply blkF.nn | apply blkF.e | apply blkF.r | apply blkF.o rfl)
| ((with_reducible apply opsF.call); case hx => exact tAG)
| ((with_reducible apply vcF.cond); case hx => exact tEV) <;> ((intro hc; try simp only [Int.reduceLT, Int.reduceLE, Int.reduceEq, Int.reduceNe, Int.cast_ofNat_Int, Int.reduceNeg, reduceCtorEq, ne_eq, ge_iff_le, gt_iff_lt, beq_iff_eq, beq_eq_false_iff_ne, bne_iff_ne, bne_eq_false_iff_eq, nrm, *] at hc) <;> try (exfalso; omega))
| ((with_reducible first | apply retF.r | apply retF.nn); case hv => exact tRS))
      all_goals exact ⟨rfl, rfl⟩
    · repeat' (first
| ((with_reducible apply opsF.op rfl); case hs => first | exact tHT | exact tHS)
| (with_reducible first | apply opsF.nil | apply seqF.nn | apply vcF.seq | apply vcF.region | apply vcF.skip | apply vcF.block | apply vcF.exit | apply vcF.ret | apply vcF.loop | apply seqF.e | apply seqF.r | apply blkF.nn | apply blkF.e | apply blkF.r | apply blkF.o rfl)
| ((with_reducible apply opsF.call); case hx => exact tAG)
| ((with_reducible apply vcF.cond); case hx => exact tEV) <;> ((intro hc; try simp only [Int.reduceLT, Int.reduceLE, Int.reduceEq, Int.reduceNe, Int.cast_ofNat_Int, Int.reduceNeg, reduceCtorEq, ne_eq, ge_iff_le, gt_iff_lt, beq_iff_eq, beq_eq_false_iff_ne, bne_iff_ne, bne_eq_false_iff_eq, nrm, *] at hc) <;> try (exfalso; omega))
| ((with_reducible first | apply retF.r | apply retF.nn); case hv => exact tRS))
      refine ⟨i + 1, by omega, rfl, g0, g1, rfl, by omega, ?_⟩
      rw [List.take_add_one, hx, Option.toList_some, List.mem_append, List.mem_singleton]
      rintro (e | e)
      · exact hn e
      · exact hxc (u8_iff.2 e.symm)
  · obtain rfl : i = s.length := by omega
    rw [List.take_length] at hn
    rw [idx_miss hn]
    repeat' (first
| ((with_reducible apply opsF.op rfl); case hs => first | exact tHT | exact tHS)
| (with_reducible first | apply opsF.nil | apply seqF.nn | apply vcF.seq | apply vcF.region | apply vcF.skip | apply vcF.block | apply vcF.exit | apply vcF.ret | apply vcF.loop | apply seqF.e | apply seqF.r | apply blkF.nn | apply blkF.e | apply blkF.r | apply blkF.o rfl)
| ((with_reducible apply opsF.call); case hx => exact tAG)
| ((with_reducible apply vcF.cond); case hx => exact tEV) <;> ((intro hc; try simp only [Int.reduceLT, Int.reduceLE, Int.reduceEq, Int.reduceNe, Int.cast_ofNat_Int, Int.reduceNeg, reduceCtorEq, ne_eq, ge_iff_le, gt_iff_lt, beq_iff_eq, beq_eq_false_iff_ne, bne_iff_ne, bne_eq_false_iff_eq, nrm, *] at hc) <;> try (exfalso; omega))
| ((with_reducible first | apply retF.r | apply retF.nn); case hv => exact tRS))
    all_goals exact ⟨rfl, rfl⟩
theorem all_bad {α : Type} {p : α → Bool} {l : List α} {i : Nat} {x : α} (hx : l[i]? = some x) (h : p x = false) : l.all p = false := by
  rw [List.all_eq_false]
  exact ⟨x, List.mem_of_getElem? hx, by simp [h]⟩
theorem rlocal_call (s : List UInt8) (h : AH) (hl : s.length ≤ 1000000000000000) : Call P w0 ref01_Local [.v (.string (bs s))] h (fun v h' => v = .v (.bool (localS s)) ∧ Ext h h') := by
  have xl := srows_len
  have xg := srows_get
  have hsl := splB_len (c := 46) s.length (Nat.le_refl _)
  refine Call.bodyF b_ref01_Local rfl rfl ?_
  unfold c_ref01_Local
  by_cases h64 : s.length ≤ 64
  · have hcut := fun h => rcut_call (w0 := w0) s 46 h (by omega)
    have hls : localS s = (splB 46 s).all (fullP atomB) := by simp [localS, h64]
    rw [hls]
    have hwm : ∀ w ∈ splB 46 s, w.length ≤ 64 := fun w hw => by
      have := splB_mem s.length (Nat.le_refl _) hw
      omega
    generalize splB 46 s = ws at *
    repeat' (first
| ((with_reducible apply opsF.op rfl); case hs => first | exact tHT | exact tHS)
| (with_reducible first | apply opsF.nil | apply seqF.nn | apply vcF.seq | apply vcF.region | apply vcF.skip | apply vcF.block | apply vcF.exit | apply vcF.ret | apply vcF.loop | apply seqF.e | apply seqF.r | apply blkF.nn | apply blkF.e | apply blkF.r | apply blkF.o rfl)
| ((with_reducible apply opsF.call); case hx => exact tAG)
| ((with_reducible apply opsF.want); (case hg => exact tEV); case hb => exact tNB)
| ((with_reducible apply opsF.skip); (case hg => exact tEV); case hb => exact tNB)
| (first | ((with_reducible apply opsF.case); case hg => exact tEV) | ((with_reducible apply vcF.cond); case hx => exact tEV)) <;> ((intro hc; try simp only [Int.reduceLT, Int.reduceLE, Int.reduceEq, Int.reduceNe, Int.cast_ofNat_Int, Int.reduceNeg, reduceCtorEq, ne_eq, ge_iff_le, gt_iff_lt, beq_iff_eq, beq_eq_false_iff_ne, bne_iff_ne, bne_eq_false_iff_eq, nrm, *] at hc) <;> try (exfalso; omega))
| ((with_reducible apply opsF.und); case hg => rfl)
| ((with_reducible first | apply retF.r | apply retF.nn); case hv => exact tRS)
| ((refine (hcut _).mono fun v h2 hp => ?_); obtain ⟨rfl, rfl⟩ := hp))
    refine LpF.ind rfl (fun i : Nat => ws.length - i) (fun i σ hh => hh = h2 ∧ σ 3 = .list 1 (srows ws) .no ∧ σ 4 = .v (.int .i64 (i : Nat)) ∧ i ≤ ws.length ∧ (ws.take i).all (fullP atomB) = true) ?_ (i := 0) ⟨rfl, rfl, rfl, Nat.zero_le _, rfl⟩
    rintro i σ hh ⟨rfl, g3, g4, hi, hal⟩
    rcases Nat.lt_or_ge i ws.length with hlt | hge
    · obtain ⟨w, hw⟩ : ∃ x, ws[i]? = some x := ⟨_, List.getElem?_eq_getElem hlt⟩
      have hwl := hwm w (List.mem_of_getElem? hw)
      rcases Classical.em (w = []) with rfl | hwn
      · rw [all_bad hw (p := fullP atomB) rfl]
        repeat' (first
| ((with_reducible apply opsF.op rfl); case hs => first | exact tHT | exact tHS)
| (with_reducible first | apply opsF.nil | apply seqF.nn | apply vcF.seq | apply vcF.region | apply vcF.skip | apply vcF.block | apply vcF.exit | apply vcF.ret | apply vcF.loop | apply seqF.e | apply seqF.r | apply blkF.nn | apply blkF.e | apply blkF.r | apply blkF.o rfl)
| ((with_reducible apply opsF.call); case hx => exact tAG)
| ((with_reducible apply opsF.want); (case hg => exact tEV); case hb => exact tNB)
| ((with_reducible apply opsF.skip); (case hg => exact tEV); case hb => exact tNB)
| (first | ((with_reducible apply opsF.case); case hg => exact tEV) | ((with_reducible apply vcF.cond); case hx => exact tEV)) <;> ((intro hc; try simp only [Int.reduceLT, Int.reduceLE, Int.reduceEq, Int.reduceNe, Int.cast_ofNat_Int, Int.reduceNeg, reduceCtorEq, ne_eq, ge_iff_le, gt_iff_lt, beq_iff_eq, beq_eq_false_iff_ne, bne_iff_ne, bne_eq_false_iff_eq, nrm, *] at hc) <;> try (exfalso; omega))
| ((with_reducible apply opsF.und); case hg => rfl)
| ((with_reducible first | apply retF.r | apply retF.nn); case hv => exact tRS))
        all_goals exact ⟨rfl, .refl _⟩
      · repeat' (first
| ((with_reducible apply opsF.op rfl); case hs => first | exact tHT | exact tHS)
| (with_reducible first | apply opsF.nil | apply seqF.nn | apply vcF.seq | apply vcF.region | apply vcF.skip | apply vcF.block | apply vcF.exit | apply vcF.ret | apply vcF.loop | apply seqF.e | apply seqF.r | apply blkF.nn | apply blkF.e | apply blkF.r | apply blkF.o rfl)
| ((with_reducible apply opsF.call); case hx => exact tAG)
| ((with_reducible apply opsF.want); (case hg => exact tEV); case hb => exact tNB)
| ((with_reducible apply opsF.skip); (case hg => exact tEV); case hb => exact tNB)
| (first | ((with_reducible apply opsF.case); case hg => exact tEV) | ((with_reducible apply vcF.cond); case hx => exact tEV)) <;> ((intro hc; try simp only [Int.reduceLT, Int.reduceLE, Int.reduceEq, Int.reduceNe, Int.cast_ofNat_Int, Int.reduceNeg, reduceCtorEq, ne_eq, ge_iff_le, gt_iff_lt, beq_iff_eq, beq_eq_false_iff_ne, bne_iff_ne, bne_eq_false_iff_eq, nrm, *] at hc) <;> try (exfalso; omega))
| ((with_reducible apply opsF.und); case hg => rfl)
| ((with_reducible first | apply retF.r | apply retF.nn); case hv => exact tRS))
        refine LpF.ind rfl (fun k : Nat => w.length - k) (fun k σ hk => hk = hh ∧ σ 3 = .list 1 (srows ws) .no ∧ σ 4 = .v (.int .i64 (i : Nat)) ∧ σ 5 = .v (.int .i64 (k : Nat)) ∧ k ≤ w.length ∧ (w.take k).all atomB = true) ?_ (i := 0) ⟨rfl, g3, g4, rfl, Nat.zero_le _, rfl⟩
        clear g3 g4
        rintro k σ hk ⟨rfl, g3, g4, g5, hk2, hal2⟩
        rcases Nat.lt_or_ge k w.length with hlt2 | hge2
        · obtain ⟨x, hx⟩ : ∃ x, w[k]? = some x := ⟨_, List.getElem?_eq_getElem hlt2⟩
          have hlet := fun h => rletter_call (w0 := w0) x h
          have hin := fun h => rin_call (w0 := w0) atomL x h (by decide)
          have hab : atomB x = (letterB x || atomL.contains x) := rfl
          generalize atomL.contains x = B at *
          cases hL : letterB x <;> cases B
          all_goals rw [hL] at hlet hab
          all_goals simp only [Bool.or_self, Bool.or_true, Bool.true_or, Bool.or_false, Bool.false_or] at hab
          · have hbad : ws.all (fullP atomB) = false := all_bad hw (by rw [fullP, all_bad hx hab, Bool.and_false])
            rw [hbad]
            repeat' (first
| ((with_reducible apply opsF.op rfl); case hs => first | exact tHT | exact tHS)
| (with_reducible first | apply opsF.nil | apply seqF.nn | apply vcF.seq | apply vcF.region | apply vcF.skip | apply vcF.block | apply vcF.exit | apply vcF.ret | apply vcF.loop | apply seqF.e | apply seqF.r | apply blkF.nn | apply blkF.e | apply blkF.r | apply blkF.o rfl)
| ((with_reducible apply opsF.call); case hx => exact tAG)
| ((with_reducible apply opsF.want); (case hg => exact tEV); case hb => exact tNB)
| ((with_reducible apply opsF.skip); (case hg => exact tEV); case hb => exact tNB)
| (first | ((with_reducible apply opsF.case); case hg => exact tEV) | ((with_reducible apply vcF.cond); case hx => exact tEV)) <;> ((intro hc; try simp only [Int.reduceLT, Int.reduceLE, Int.reduceEq, Int.reduceNe, Int.cast_ofNat_Int, Int.reduceNeg, reduceCtorEq, ne_eq, ge_iff_le, gt_iff_lt, beq_iff_eq, beq_eq_false_iff_ne, bne_iff_ne, bne_eq_false_iff_eq, nrm, *] at hc) <;> try (exfalso; omega))
| ((with_reducible apply opsF.und); case hg => rfl)
| ((with_reducible first | apply retF.r | apply retF.nn); case hv => exact tRS)
| ((refine (hlet _).mono fun v h2 hp => ?_); obtain ⟨rfl, rfl⟩ := hp)
| ((refine (hin _).mono fun v h2 hp => ?_); obtain ⟨rfl, rfl⟩ := hp))
            all_goals exact ⟨rfl, .refl _⟩
          all_goals repeat' (first
| ((with_reducible apply opsF.op rfl); case hs => first | exact tHT | exact tHS)
| (with_reducible first | apply opsF.nil | apply seqF.nn | apply vcF.seq | apply vcF.region | apply vcF.skip | apply vcF.block | apply vcF.exit | apply vcF.ret | apply vcF.loop | apply seqF.e | apply seqF.r | apply blkF.nn | apply blkF.e | apply blkF.r | apply blkF.o rfl)
| ((with_reducible apply opsF.call); case hx => exact tAG)
| ((with_reducible apply opsF.want); (case hg => exact tEV); case hb => exact tNB)
| ((with_reducible apply opsF.skip); (case hg => exact tEV); case hb => exact tNB)
| (first | ((with_reducible apply opsF.case); case hg => exact tEV) | ((with_reducible apply vcF.cond); case hx => exact tEV)) <;> ((intro hc; try simp only [Int.reduceLT, Int.reduceLE, Int.reduceEq, Int.reduceNe, Int.cast_ofNat_Int, Int.reduceNeg, reduceCtorEq, ne_eq, ge_iff_le, gt_iff_lt, beq_iff_eq, beq_eq_false_iff_ne, bne_iff_ne, bne_eq_false_iff_eq, nrm, *] at hc) <;> try (exfalso; omega))
| ((with_reducible apply opsF.und); case hg => rfl)
| ((with_reducible first | apply retF.r | apply retF.nn); case hv => exact tRS)
| ((refine (hlet _).mono fun v h2 hp => ?_); obtain ⟨rfl, rfl⟩ := hp)
| ((refine (hin _).mono fun v h2 hp => ?_); obtain ⟨rfl, rfl⟩ := hp))
          all_goals refine ⟨k + 1, by omega, rfl, g3, g4, rfl, by omega, ?_⟩
          all_goals (rw [List.take_add_one, hx, List.all_append, hal2]; simp [hab])
        · obtain rfl : k = w.length := by omega
          rw [List.take_length] at hal2
          repeat' (first
| ((with_reducible apply opsF.op rfl); case hs => first | exact tHT | exact tHS)
| (with_reducible first | apply opsF.nil | apply seqF.nn | apply vcF.seq | apply vcF.region | apply vcF.skip | apply vcF.block | apply vcF.exit | apply vcF.ret | apply vcF.loop | apply seqF.e | apply seqF.r | apply blkF.nn | apply blkF.e | apply blkF.r | apply blkF.o rfl)
| ((with_reducible apply opsF.call); case hx => exact tAG)
| ((with_reducible apply opsF.want); (case hg => exact tEV); case hb => exact tNB)
| ((with_reducible apply opsF.skip); (case hg => exact tEV); case hb => exact tNB)
| (first | ((with_reducible apply opsF.case); case hg => exact tEV) | ((with_reducible apply vcF.cond); case hx => exact tEV)) <;> ((intro hc; try simp only [Int.reduceLT, Int.reduceLE, Int.reduceEq, Int.reduceNe, Int.cast_ofNat_Int, Int.reduceNeg, reduceCtorEq, ne_eq, ge_iff_le, gt_iff_lt, beq_iff_eq, beq_eq_false_iff_ne, bne_iff_ne, bne_eq_false_iff_eq, nrm, *] at hc) <;> try (exfalso; omega))
| ((with_reducible apply opsF.und); case hg => rfl)
| ((with_reducible first | apply retF.r | apply retF.nn); case hv => exact tRS))
          refine ⟨i + 1, by omega, rfl, g3, rfl, by omega, ?_⟩
          rw [List.take_add_one, hw, List.all_append, hal]
          cases w with
          | nil => exact absurd rfl hwn
          | cons a b => simpa [fullP] using hal2
    · obtain rfl : i = ws.length := by omega
      rw [List.take_length] at hal
      rw [hal]
      repeat' (first
| ((with_reducible apply opsF.op rfl); case hs => first | exact tHT | exact tHS)
| (with_reducible first | apply opsF.nil | apply seqF.nn | apply vcF.seq | apply vcF.region | apply vcF.skip | apply vcF.block | apply vcF.exit | apply vcF.ret | apply vcF.loop | apply seqF.e | apply seqF.r | apply blkF.nn | apply blkF.e | apply blkF.r | apply blkF.o rfl)
| ((with_reducible apply opsF.call); case hx => exact tAG)
| ((with_reducible apply opsF.want); (case hg => exact tEV); case hb => exact tNB)
| ((with_reducible apply opsF.skip); (case hg => exact tEV); case hb => exact tNB)
| (first | ((with_reducible apply opsF.case); case hg => exact tEV) | ((with_reducible apply vcF.cond); case hx => exact tEV)) <;> ((intro hc; try simp only [Int.reduceLT, Int.reduceLE, Int.reduceEq, Int.reduceNe, Int.cast_ofNat_Int, Int.reduceNeg, reduceCtorEq, ne_eq, ge_iff_le, gt_iff_lt, beq_iff_eq, beq_eq_false_iff_ne, bne_iff_ne, bne_eq_false_iff_eq, nrm, *] at hc) <;> try (exfalso; omega))
| ((with_reducible apply opsF.und); case hg => rfl)
| ((with_reducible first | apply retF.r | apply retF.nn); case hv => exact tRS))
      all_goals exact ⟨rfl, .refl _⟩
  · have hls : localS s = false := by simp [localS, h64]
    rw [hls]
    repeat' (first
| ((with_reducible apply opsF.op rfl); case hs => first | exact tHT | exact tHS)
| (with_reducible first | apply opsF.nil | apply seqF.nn | apply vcF.seq | apply vcF.region | apply vcF.skip | apply vcF.block | apply vcF.exit | apply vcF.ret | apply vcF.loop | apply seqF.e | apply seqF.r | apply blkF.nn | apply blkF.e | apply blkF.r | apply blkF.o rfl)
| ((with_reducible apply opsF.call); case hx => exact tAG)
| ((with_reducible apply opsF.want); (case hg => exact tEV); case hb => exact tNB)
| ((with_reducible apply opsF.skip); (case hg => exact tEV); case hb => exact tNB)
| (first | ((with_reducible apply opsF.case); case hg => exact tEV) | ((with_reducible apply vcF.cond); case hx => exact tEV)) <;> ((intro hc; try simp only [Int.reduceLT, Int.reduceLE, Int.reduceEq, Int.reduceNe, Int.cast_ofNat_Int, Int.reduceNeg, reduceCtorEq, ne_eq, ge_iff_le, gt_iff_lt, beq_iff_eq, beq_eq_false_iff_ne, bne_iff_ne, bne_eq_false_iff_eq, nrm, *] at hc) <;> try (exfalso; omega))
| ((with_reducible apply opsF.und); case hg => rfl)
| ((with_reducible first | apply retF.r | apply retF.nn); case hv => exact tRS))
    all_goals exact ⟨rfl, .refl _⟩
end Go.Abs.F
namespace Go.Abs.F
open Go Go.Abs
set_option maxRecDepth 10000
set_option maxHeartbeats 20000000
set_option linter.unusedSimpArgs false
set_option linter.unusedVariables false
variable {w0 : World}
theorem labelS_eq {w : List UInt8} {x z : UInt8} (h63 : w.length ≤ 63) (h0 : w[0]? = some x) (hz : w[w.length - 1]? = some z) :
    labelS w = (w.all innerB && decide (¬ (x.toNat : Int) = 45) && decide (¬ (z.toNat : Int) = 45)) := by
  have hhd : w.head? = some x := by rw [List.head?_eq_getElem?]; exact h0
  have hlt : w.getLast? = some z := by rw [List.getLast?_eq_getElem?]; exact hz
  have e1 : ∀ y : UInt8, (some y ≠ some (45 : UInt8)) ↔ ¬ (y.toNat : Int) = 45 := fun y => by
    constructor
    · intro hh e
      exact hh (congrArg some (UInt8.toNat_inj.1 (by rw [show (45 : UInt8).toNat = 45 from rfl]; omega)))
    · intro hh e
      injection e with e
      exact hh (by rw [e]; rfl)
  have hf : fullP innerB w = w.all innerB := by
    cases w with
    | nil => simp at h0
    | cons a b => simp [fullP]
  simp only [labelS, hf, decide_eq_true h63, Bool.true_and, hhd, hlt, e1]
theorem rdomain_call (s : List UInt8) (h : AH) (hl : s.length ≤ 1000000000000000) : Call P w0 ref01_Domain [.v (.string (bs s))] h (fun v h' => v = .v (.bool (domainS s)) ∧ Ext h h') := by
  have xl := srows_len
  have xg := srows_get
  have hsl := splB_len (c := 46) s.length (Nat.le_refl _)
  refine Call.bodyF b_ref01_Domain rfl rfl ?_
  unfold c_ref01_Domain
  by_cases h255 : s.length ≤ 255
  · have hcut := fun h => rcut_call (w0 := w0) s 46 h (by omega)
    have hls : domainS s = (splB 46 s).all labelS := by simp [domainS, h255]
    rw [hls]
    have hwm : ∀ w ∈ splB 46 s, w.length ≤ 255 := fun w hw => by
      have := splB_mem s.length (Nat.le_refl _) hw
      omega
    generalize splB 46 s = ws at *
    repeat' (first
| ((with_reducible apply opsF.op rfl); case hs => first | exact tHT | exact tHS)
| (with_reducible first | apply opsF.nil | apply seqF.nn | apply vcF.seq | apply vcF.region | apply vcF.skip | apply vcF.block | apply vcF.exit | apply vcF.ret | apply vcF.loop | apply seqF.e | apply seqF.r | apply blkF.nn | apply blkF.e | apply blkF.r | apply blkF.o rfl)
| ((with_reducible apply opsF.call); case hx => exact tAG)
| ((with_reducible apply opsF.want); (case hg => exact tEV); case hb => exact tNB)
| ((with_reducible apply opsF.skip); (case hg => exact tEV); case hb => exact tNB)
| (first | ((with_reducible apply opsF.case); case hg => exact tEV) | ((with_reducible apply vcF.cond); case hx => exact tEV)) <;> ((intro hc; try simp only [Int.reduceLT, Int.reduceLE, Int.reduceEq, Int.reduceNe, Int.cast_ofNat_Int, Int.reduceNeg, reduceCtorEq, ne_eq, ge_iff_le, gt_iff_lt, beq_iff_eq, beq_eq_false_iff_ne, bne_iff_ne, bne_eq_false_iff_eq, nrm, *] at hc) <;> try (exfalso; omega))
| ((with_reducible apply opsF.und); case hg => rfl)
| ((with_reducible first | apply retF.r | apply retF.nn); case hv => exact tRS)
| ((refine (hcut _).mono fun v h2 hp => ?_); obtain ⟨rfl, rfl⟩ := hp))
    refine LpF.ind rfl (fun i : Nat => ws.length - i) (fun i σ hh => hh = h2 ∧ σ 3 = .list 1 (srows ws) .no ∧ σ 4 = .v (.int .i64 (i : Nat)) ∧ i ≤ ws.length ∧ (ws.take i).all labelS = true) ?_ (i := 0) ⟨rfl, rfl, rfl, Nat.zero_le _, rfl⟩
    rintro i σ hh ⟨rfl, g3, g4, hi, hal⟩
    rcases Nat.lt_or_ge i ws.length with hlt | hge
    · obtain ⟨w, hw⟩ : ∃ x, ws[i]? = some x := ⟨_, List.getElem?_eq_getElem hlt⟩
      have hwl := hwm w (List.mem_of_getElem? hw)
      rcases Classical.em (w = []) with rfl | hwn
      · rw [all_bad hw (p := labelS) rfl]
        repeat' (first
| ((with_reducible apply opsF.op rfl); case hs => first | exact tHT | exact tHS)
| (with_reducible first | apply opsF.nil | apply seqF.nn | apply vcF.seq | apply vcF.region | apply vcF.skip | apply vcF.block | apply vcF.exit | apply vcF.ret | apply vcF.loop | apply seqF.e | apply seqF.r | apply blkF.nn | apply blkF.e | apply blkF.r | apply blkF.o rfl)
| ((with_reducible apply opsF.call); case hx => exact tAG)
| ((with_reducible apply opsF.want); (case hg => exact tEV); case hb => exact tNB)
| ((with_reducible apply opsF.skip); (case hg => exact tEV); case hb => exact tNB)
| (first | ((with_reducible apply opsF.case); case hg => exact tEV) | ((with_reducible apply vcF.cond); case hx => exact tEV)) <;> ((intro hc; try simp only [Int.reduceLT, Int.reduceLE, Int.reduceEq, Int.reduceNe, Int.cast_ofNat_Int, Int.reduceNeg, reduceCtorEq, ne_eq, ge_iff_le, gt_iff_lt, beq_iff_eq, beq_eq_false_iff_ne, bne_iff_ne, bne_eq_false_iff_eq, nrm, *] at hc) <;> try (exfalso; omega))
| ((with_reducible apply opsF.und); case hg => rfl)
| ((with_reducible first | apply retF.r | apply retF.nn); case hv => exact tRS))
        all_goals exact ⟨rfl, .refl _⟩
      · by_cases h63 : w.length ≤ 63
        · have hpos : 0 < w.length := List.length_pos_iff.2 hwn
          obtain ⟨x, h0⟩ : ∃ x, w[0]? = some x := ⟨_, List.getElem?_eq_getElem hpos⟩
          obtain ⟨z, hz⟩ : ∃ z, w[w.length - 1]? = some z := ⟨_, List.getElem?_eq_getElem (by omega)⟩
          have hi1 : ((w.length : Int) - 1).toNat = w.length - 1 := by omega
          have hlab := labelS_eq h63 h0 hz
          by_cases hx : (x.toNat : Int) = 45
          · rw [all_bad hw (p := labelS) (by rw [hlab]; simp [hx])]
            clear hlab
            repeat' (first
| ((with_reducible apply opsF.op rfl); case hs => first | exact tHT | exact tHS)
| (with_reducible first | apply opsF.nil | apply seqF.nn | apply vcF.seq | apply vcF.region | apply vcF.skip | apply vcF.block | apply vcF.exit | apply vcF.ret | apply vcF.loop | apply seqF.e | apply seqF.r | apply blkF.nn | apply blkF.e | apply blkF.r | apply blkF.o rfl)
| ((with_reducible apply opsF.call); case hx => exact tAG)
| ((with_reducible apply opsF.want); (case hg => exact tEV); case hb => exact tNB)
| ((with_reducible apply opsF.skip); (case hg => exact tEV); case hb => exact tNB)
| (first | ((with_reducible apply opsF.case); case hg => exact tEV) | ((with_reducible apply vcF.cond); case hx => exact tEV)) <;> ((intro hc; try simp only [Int.reduceLT, Int.reduceLE, Int.reduceEq, Int.reduceNe, Int.cast_ofNat_Int, Int.reduceNeg, reduceCtorEq, ne_eq, ge_iff_le, gt_iff_lt, beq_iff_eq, beq_eq_false_iff_ne, bne_iff_ne, bne_eq_false_iff_eq, nrm, *] at hc) <;> try (exfalso; omega))
| ((with_reducible apply opsF.und); case hg => rfl)
| ((with_reducible first | apply retF.r | apply retF.nn); case hv => exact tRS))
            all_goals exact ⟨rfl, .refl _⟩
          · by_cases hzz : (z.toNat : Int) = 45
            · rw [all_bad hw (p := labelS) (by rw [hlab]; simp [hzz])]
              clear hlab
              repeat' (first
| ((with_reducible apply opsF.op rfl); case hs => first | exact tHT | exact tHS)
| (with_reducible first | apply opsF.nil | apply seqF.nn | apply vcF.seq | apply vcF.region | apply vcF.skip | apply vcF.block | apply vcF.exit | apply vcF.ret | apply vcF.loop | apply seqF.e | apply seqF.r | apply blkF.nn | apply blkF.e | apply blkF.r | apply blkF.o rfl)
| ((with_reducible apply opsF.call); case hx => exact tAG)
| ((with_reducible apply opsF.want); (case hg => exact tEV); case hb => exact tNB)
| ((with_reducible apply opsF.skip); (case hg => exact tEV); case hb => exact tNB)
| (first | ((with_reducible apply opsF.case); case hg => exact tEV) | ((with_reducible apply vcF.cond); case hx => exact tEV)) <;> ((intro hc; try simp only [Int.reduceLT, Int.reduceLE, Int.reduceEq, Int.reduceNe, Int.cast_ofNat_Int, Int.reduceNeg, reduceCtorEq, ne_eq, ge_iff_le, gt_iff_lt, beq_iff_eq, beq_eq_false_iff_ne, bne_iff_ne, bne_eq_false_iff_eq, nrm, *] at hc) <;> try (exfalso; omega))
| ((with_reducible apply opsF.und); case hg => rfl)
| ((with_reducible first | apply retF.r | apply retF.nn); case hv => exact tRS))
              all_goals exact ⟨rfl, .refl _⟩
            · have hlab2 : labelS w = w.all innerB := by rw [hlab]; simp [hx, hzz]
              clear hlab
              have hww : ws.all labelS = false ∨ w.all innerB = true := by
                cases hq : w.all innerB with
                | true => exact .inr rfl
                | false => exact .inl (all_bad hw (by rw [hlab2, hq]))
              repeat' (first
| ((with_reducible apply opsF.op rfl); case hs => first | exact tHT | exact tHS)
| (with_reducible first | apply opsF.nil | apply seqF.nn | apply vcF.seq | apply vcF.region | apply vcF.skip | apply vcF.block | apply vcF.exit | apply vcF.ret | apply vcF.loop | apply seqF.e | apply seqF.r | apply blkF.nn | apply blkF.e | apply blkF.r | apply blkF.o rfl)
| ((with_reducible apply opsF.call); case hx => exact tAG)
| ((with_reducible apply opsF.want); (case hg => exact tEV); case hb => exact tNB)
| ((with_reducible apply opsF.skip); (case hg => exact tEV); case hb => exact tNB)
| (first | ((with_reducible apply opsF.case); case hg => exact tEV) | ((with_reducible apply vcF.cond); case hx => exact tEV)) <;> ((intro hc; try simp only [Int.reduceLT, Int.reduceLE, Int.reduceEq, Int.reduceNe, Int.cast_ofNat_Int, Int.reduceNeg, reduceCtorEq, ne_eq, ge_iff_le, gt_iff_lt, beq_iff_eq, beq_eq_false_iff_ne, bne_iff_ne, bne_eq_false_iff_eq, nrm, *] at hc) <;> try (exfalso; omega))
| ((with_reducible apply opsF.und); case hg => rfl)
| ((with_reducible first | apply retF.r | apply retF.nn); case hv => exact tRS))
              refine LpF.ind rfl (fun k : Nat => w.length - k) (fun k σ hk => hk = hh ∧ σ 3 = .list 1 (srows ws) .no ∧ σ 4 = .v (.int .i64 (i : Nat)) ∧ σ 5 = .v (.string (bs w)) ∧ σ 6 = .v (.int .i64 (k : Nat)) ∧ k ≤ w.length ∧ (w.take k).all innerB = true) ?_ (i := 0) ⟨rfl, g3, g4, rfl, rfl, Nat.zero_le _, rfl⟩
              clear g3 g4
              rintro k σ hk ⟨rfl, g3, g4, g5, g6, hk2, hal2⟩
              rcases Nat.lt_or_ge k w.length with hlt2 | hge2
              · obtain ⟨y, hy⟩ : ∃ x, w[k]? = some x := ⟨_, List.getElem?_eq_getElem hlt2⟩
                have hlet := fun h => rletter_call (w0 := w0) y h
                have hab : innerB y = (letterB y || decide ((y.toNat : Int) = 45)) := by
                  unfold innerB
                  congr 1
                  rw [decide_eq_decide]
                  omega
                cases hL : letterB y
                · rw [hL] at hlet hab
                  by_cases hy45 : (y.toNat : Int) = 45
                  · have hab1 : innerB y = true := by rw [hab]; simp [hy45]
                    clear hab
                    rw [hy45] at hlet
                    repeat' (first
| ((with_reducible apply opsF.op rfl); case hs => first | exact tHT | exact tHS)
| (with_reducible first | apply opsF.nil | apply seqF.nn | apply vcF.seq | apply vcF.region | apply vcF.skip | apply vcF.block | apply vcF.exit | apply vcF.ret | apply vcF.loop | apply seqF.e | apply seqF.r | apply blkF.nn | apply blkF.e | apply blkF.r | apply blkF.o rfl)
| ((with_reducible apply opsF.call); case hx => exact tAG)
| ((with_reducible apply opsF.want); (case hg => exact tEV); case hb => exact tNB)
| ((with_reducible apply opsF.skip); (case hg => exact tEV); case hb => exact tNB)
| (first | ((with_reducible apply opsF.case); case hg => exact tEV) | ((with_reducible apply vcF.cond); case hx => exact tEV)) <;> ((intro hc; try simp only [Int.reduceLT, Int.reduceLE, Int.reduceEq, Int.reduceNe, Int.cast_ofNat_Int, Int.reduceNeg, reduceCtorEq, ne_eq, ge_iff_le, gt_iff_lt, beq_iff_eq, beq_eq_false_iff_ne, bne_iff_ne, bne_eq_false_iff_eq, nrm, *] at hc) <;> try (exfalso; omega))
| ((with_reducible apply opsF.und); case hg => rfl)
| ((with_reducible first | apply retF.r | apply retF.nn); case hv => exact tRS)
| ((refine (hlet _).mono fun v h2 hp => ?_); obtain ⟨rfl, rfl⟩ := hp))
                    refine ⟨k + 1, by omega, rfl, g3, g4, g5, rfl, by omega, ?_⟩
                    rw [List.take_add_one, hy, List.all_append, hal2]; simp [hab1]
                  · have hab1 : innerB y = false := by rw [hab]; simp [hy45]
                    have hbad : ws.all labelS = false := all_bad hw (by rw [hlab2]; exact all_bad hy hab1)
                    rw [hbad]
                    clear hab hww
                    repeat' (first
| ((with_reducible apply opsF.op rfl); case hs => first | exact tHT | exact tHS)
| (with_reducible first | apply opsF.nil | apply seqF.nn | apply vcF.seq | apply vcF.region | apply vcF.skip | apply vcF.block | apply vcF.exit | apply vcF.ret | apply vcF.loop | apply seqF.e | apply seqF.r | apply blkF.nn | apply blkF.e | apply blkF.r | apply blkF.o rfl)
| ((with_reducible apply opsF.call); case hx => exact tAG)
| ((with_reducible apply opsF.want); (case hg => exact tEV); case hb => exact tNB)
| ((with_reducible apply opsF.skip); (case hg => exact tEV); case hb => exact tNB)
| (first | ((with_reducible apply opsF.case); case hg => exact tEV) | ((with_reducible apply vcF.cond); case hx => exact tEV)) <;> ((intro hc; try simp only [Int.reduceLT, Int.reduceLE, Int.reduceEq, Int.reduceNe, Int.cast_ofNat_Int, Int.reduceNeg, reduceCtorEq, ne_eq, ge_iff_le, gt_iff_lt, beq_iff_eq, beq_eq_false_iff_ne, bne_iff_ne, bne_eq_false_iff_eq, nrm, *] at hc) <;> try (exfalso; omega))
| ((with_reducible apply opsF.und); case hg => rfl)
| ((with_reducible first | apply retF.r | apply retF.nn); case hv => exact tRS)
| ((refine (hlet _).mono fun v h2 hp => ?_); obtain ⟨rfl, rfl⟩ := hp))
                    all_goals exact ⟨rfl, .refl _⟩
                · rw [hL] at hlet hab
                  rw [Bool.true_or] at hab
                  repeat' (first
| ((with_reducible apply opsF.op rfl); case hs => first | exact tHT | exact tHS)
| (with_reducible first | apply opsF.nil | apply seqF.nn | apply vcF.seq | apply vcF.region | apply vcF.skip | apply vcF.block | apply vcF.exit | apply vcF.ret | apply vcF.loop | apply seqF.e | apply seqF.r | apply blkF.nn | apply blkF.e | apply blkF.r | apply blkF.o rfl)
| ((with_reducible apply opsF.call); case hx => exact tAG)
| ((with_reducible apply opsF.want); (case hg => exact tEV); case hb => exact tNB)
| ((with_reducible apply opsF.skip); (case hg => exact tEV); case hb => exact tNB)
| (first | ((with_reducible apply opsF.case); case hg => exact tEV) | ((with_reducible apply vcF.cond); case hx => exact tEV)) <;> ((intro hc; try simp only [Int.reduceLT, Int.reduceLE, Int.reduceEq, Int.reduceNe, Int.cast_ofNat_Int, Int.reduceNeg, reduceCtorEq, ne_eq, ge_iff_le, gt_iff_lt, beq_iff_eq, beq_eq_false_iff_ne, bne_iff_ne, bne_eq_false_iff_eq, nrm, *] at hc) <;> try (exfalso; omega))
| ((with_reducible apply opsF.und); case hg => rfl)
| ((with_reducible first | apply retF.r | apply retF.nn); case hv => exact tRS)
| ((refine (hlet _).mono fun v h2 hp => ?_); obtain ⟨rfl, rfl⟩ := hp))
                  refine ⟨k + 1, by omega, rfl, g3, g4, g5, rfl, by omega, ?_⟩
                  rw [List.take_add_one, hy, List.all_append, hal2]; simp [hab]
              · obtain rfl : k = w.length := by omega
                rw [List.take_length] at hal2
                repeat' (first
| ((with_reducible apply opsF.op rfl); case hs => first | exact tHT | exact tHS)
| (with_reducible first | apply opsF.nil | apply seqF.nn | apply vcF.seq | apply vcF.region | apply vcF.skip | apply vcF.block | apply vcF.exit | apply vcF.ret | apply vcF.loop | apply seqF.e | apply seqF.r | apply blkF.nn | apply blkF.e | apply blkF.r | apply blkF.o rfl)
| ((with_reducible apply opsF.call); case hx => exact tAG)
| ((with_reducible apply opsF.want); (case hg => exact tEV); case hb => exact tNB)
| ((with_reducible apply opsF.skip); (case hg => exact tEV); case hb => exact tNB)
| (first | ((with_reducible apply opsF.case); case hg => exact tEV) | ((with_reducible apply vcF.cond); case hx => exact tEV)) <;> ((intro hc; try simp only [Int.reduceLT, Int.reduceLE, Int.reduceEq, Int.reduceNe, Int.cast_ofNat_Int, Int.reduceNeg, reduceCtorEq, ne_eq, ge_iff_le, gt_iff_lt, beq_iff_eq, beq_eq_false_iff_ne, bne_iff_ne, bne_eq_false_iff_eq, nrm, *] at hc) <;> try (exfalso; omega))
| ((with_reducible apply opsF.und); case hg => rfl)
| ((with_reducible first | apply retF.r | apply retF.nn); case hv => exact tRS))
                refine ⟨i + 1, by omega, rfl, g3, rfl, by omega, ?_⟩
                rw [List.take_add_one, hw, List.all_append, hal]
                simp [hlab2, hal2]
        · rw [all_bad hw (p := labelS) (by simp [labelS, h63])]
          repeat' (first
| ((with_reducible apply opsF.op rfl); case hs => first | exact tHT | exact tHS)
| (with_reducible first | apply opsF.nil | apply seqF.nn | apply vcF.seq | apply vcF.region | apply vcF.skip | apply vcF.block | apply vcF.exit | apply vcF.ret | apply vcF.loop | apply seqF.e | apply seqF.r | apply blkF.nn | apply blkF.e | apply blkF.r | apply blkF.o rfl)
| ((with_reducible apply opsF.call); case hx => exact tAG)
| ((with_reducible apply opsF.want); (case hg => exact tEV); case hb => exact tNB)
| ((with_reducible apply opsF.skip); (case hg => exact tEV); case hb => exact tNB)
| (first | ((with_reducible apply opsF.case); case hg => exact tEV) | ((with_reducible apply vcF.cond); case hx => exact tEV)) <;> ((intro hc; try simp only [Int.reduceLT, Int.reduceLE, Int.reduceEq, Int.reduceNe, Int.cast_ofNat_Int, Int.reduceNeg, reduceCtorEq, ne_eq, ge_iff_le, gt_iff_lt, beq_iff_eq, beq_eq_false_iff_ne, bne_iff_ne, bne_eq_false_iff_eq, nrm, *] at hc) <;> try (exfalso; omega))
| ((with_reducible apply opsF.und); case hg => rfl)
| ((with_reducible first | apply retF.r | apply retF.nn); case hv => exact tRS))
          all_goals exact ⟨rfl, .refl _⟩
    · obtain rfl : i = ws.length := by omega
      rw [List.take_length] at hal
      rw [hal]
      repeat' (first
| ((with_reducible apply opsF.op rfl); case hs => first | exact tHT | exact tHS)
| (with_reducible first | apply opsF.nil | apply seqF.nn | apply vcF.seq | apply vcF.region | apply vcF.skip | apply vcF.block | apply vcF.exit | apply vcF.ret | apply vcF.loop | apply seqF.e | apply seqF.r | apply blkF.nn | apply blkF.e | apply blkF.r | apply blkF.o rfl)
| ((with_reducible apply opsF.call); case hx => exact tAG)
| ((with_reducible apply opsF.want); (case hg => exact tEV); case hb => exact tNB)
| ((with_reducible apply opsF.skip); (case hg => exact tEV); case hb => exact tNB)
| (first | ((with_reducible apply opsF.case); case hg => exact tEV) | ((with_reducible apply vcF.cond); case hx => exact tEV)) <;> ((intro hc; try simp only [Int.reduceLT, Int.reduceLE, Int.reduceEq, Int.reduceNe, Int.cast_ofNat_Int, Int.reduceNeg, reduceCtorEq, ne_eq, ge_iff_le, gt_iff_lt, beq_iff_eq, beq_eq_false_iff_ne, bne_iff_ne, bne_eq_false_iff_eq, nrm, *] at hc) <;> try (exfalso; omega))
| ((with_reducible apply opsF.und); case hg => rfl)
| ((with_reducible first | apply retF.r | apply retF.nn); case hv => exact tRS))
      all_goals exact ⟨rfl, .refl _⟩
  · have hls : domainS s = false := by simp [domainS, h255]
    rw [hls]
    repeat' (first
| ((with_reducible apply opsF.op rfl); case hs => first | exact tHT | exact tHS)
| (with_reducible first | apply opsF.nil | apply seqF.nn | apply vcF.seq | apply vcF.region | apply vcF.skip | apply vcF.block | apply vcF.exit | apply vcF.ret | apply vcF.loop | apply seqF.e | apply seqF.r | apply blkF.nn | apply blkF.e | apply blkF.r | apply blkF.o rfl)
| ((with_reducible apply opsF.call); case hx => exact tAG)
| ((with_reducible apply opsF.want); (case hg => exact tEV); case hb => exact tNB)
| ((with_reducible apply opsF.skip); (case hg => exact tEV); case hb => exact tNB)
| (first | ((with_reducible apply opsF.case); case hg => exact tEV) | ((with_reducible apply vcF.cond); case hx => exact tEV)) <;> ((intro hc; try simp only [Int.reduceLT, Int.reduceLE, Int.reduceEq, Int.reduceNe, Int.cast_ofNat_Int, Int.reduceNeg, reduceCtorEq, ne_eq, ge_iff_le, gt_iff_lt, beq_iff_eq, beq_eq_false_iff_ne, bne_iff_ne, bne_eq_false_iff_eq, nrm, *] at hc) <;> try (exfalso; omega))
| ((with_reducible apply opsF.und); case hg => rfl)
| ((with_reducible first | apply retF.r | apply retF.nn); case hv => exact tRS))
    all_goals exact ⟨rfl, .refl _⟩
theorem rsplit_call (s : List UInt8) (h : AH) (hl : s.length ≤ 1000000000000000) : Call P w0 ref01_Split [.v (.string (bs s))] h (fun v h' => v = splitV s ∧ Ext h h') := by
  have hfind := fun h => rfind_call (w0 := w0) s 64 h (by omega)
  rcases cutB_cases 64 s with ⟨h1, h2⟩ | ⟨a, r, rfl, h1, h2⟩
  · have hsv : splitV s = .tup [.v (.string (bs [])), .v (.string (bs [])), .v (.bool false)] := by simp [splitV, splitO, h2]
    rw [hsv]
    rw [idx_miss h1] at hfind
    refine Call.bodyF b_ref01_Split rfl rfl ?_
    unfold c_ref01_Split
    repeat' (first
| ((with_reducible apply opsF.op rfl); case hs => first | exact tHT | exact tHS)
| (with_reducible first | apply opsF.nil | apply seqF.nn | apply vcF.seq | apply vcF.region | apply vcF.skip | apply vcF.ret | apply seqF.r)
| ((with_reducible apply opsF.call); case hx => exact tAG)
| ((with_reducible apply opsF.want); (case hg => exact tEV); case hb => exact tNB)
| ((with_reducible apply opsF.skip); (case hg => exact tEV); case hb => exact tNB)
| (first | ((with_reducible apply opsF.case); case hg => exact tEV) | ((with_reducible apply vcF.cond); case hx => exact tEV)) <;> ((intro hc; try simp only [Int.reduceLT, Int.reduceLE, Int.reduceEq, Int.reduceNe, Int.cast_ofNat_Int, Int.reduceNeg, reduceCtorEq, ne_eq, ge_iff_le, gt_iff_lt, beq_iff_eq, beq_eq_false_iff_ne, bne_iff_ne, bne_eq_false_iff_eq, nrm, *] at hc) <;> try (exfalso; omega))
| ((with_reducible apply opsF.und); case hg => rfl)
| ((with_reducible first | apply retF.r | apply retF.nn); case hv => exact tRS)
| ((refine (hfind _).mono fun v h2 hp => ?_); obtain ⟨rfl, rfl⟩ := hp))
    all_goals exact ⟨rfl, .refl _⟩
  · have hsv : splitV (a ++ 64 :: r) = if localS a = true ∧ domainS r = true then .tup [.v (.string (bs a)), .v (.string (bs r)), .v (.bool true)] else .tup [.v (.string (bs [])), .v (.string (bs [])), .v (.bool false)] := by
      simp only [splitV, splitO, h2, true_and]
      by_cases hc : localS a = true ∧ domainS r = true
      · rw [if_pos hc, if_pos hc]
      · rw [if_neg hc, if_neg hc]
    rw [hsv]
    clear hsv h2
    rw [idx_hit h1] at hfind
    have hlen : (a ++ 64 :: r).length = a.length + (r.length + 1) := by simp
    have hlo := fun h => rlocal_call (w0 := w0) a h (by omega)
    have hdo := fun h => rdomain_call (w0 := w0) r h (by omega)
    have ht : (a ++ 64 :: r).take a.length = a := by simp
    have hd : (a ++ 64 :: r).drop (a.length + 1) = r := by
      rw [← List.drop_drop]; simp
    have hd2 : ((a ++ 64 :: r).take (a.length + (r.length + 1))).drop (a.length + 1) = r := by
      rw [← hlen, List.take_length]; exact hd
    have ht1 : ((a.length : Int) + 1).toNat = a.length + 1 := by omega
    generalize a ++ 64 :: r = s at *
    refine Call.bodyF b_ref01_Split rfl rfl ?_
    unfold c_ref01_Split
    cases hA : localS a <;> cases hD : domainS r
    all_goals rw [hA] at hlo
    all_goals rw [hD] at hdo
    all_goals simp only [Bool.false_eq_true, false_and, and_false, if_false, and_self, if_true]
    all_goals repeat' (first
| ((with_reducible apply opsF.op rfl); case hs => first | exact tHT | exact tHS)
| (with_reducible first | apply opsF.nil | apply seqF.nn | apply vcF.seq | apply vcF.region | apply vcF.skip | apply vcF.ret | apply seqF.r)
| ((with_reducible apply opsF.call); case hx => exact tAG)
| ((with_reducible apply opsF.want); (case hg => exact tEV); case hb => exact tNB)
| ((with_reducible apply opsF.skip); (case hg => exact tEV); case hb => exact tNB)
| (first | ((with_reducible apply opsF.case); case hg => exact tEV) | ((with_reducible apply vcF.cond); case hx => exact tEV)) <;> ((intro hc; try simp only [Int.reduceLT, Int.reduceLE, Int.reduceEq, Int.reduceNe, Int.cast_ofNat_Int, Int.reduceNeg, reduceCtorEq, ne_eq, ge_iff_le, gt_iff_lt, beq_iff_eq, beq_eq_false_iff_ne, bne_iff_ne, bne_eq_false_iff_eq, nrm, *] at hc) <;> try (exfalso; omega))
| ((with_reducible apply opsF.und); case hg => rfl)
| ((with_reducible first | apply retF.r | apply retF.nn); case hv => exact tRS)
| ((refine (hfind _).mono fun v h2 hp => ?_); obtain ⟨rfl, rfl⟩ := hp)
| ((refine (hlo _).mono fun v h2 hp => ?_); obtain ⟨rfl, he⟩ := hp; have hN := he.n; have hO := he.objs; (try simp only [alloc_n, set_n, newTok_n, bump_n] at hN hO))
| ((refine (hdo _).mono fun v h3 hp => ?_); obtain ⟨rfl, he2⟩ := hp; have hN := he2.n; have hO := he2.objs; (try simp only [alloc_n, set_n, newTok_n, bump_n] at hN hO)))
    all_goals first
      | exact ⟨rfl, .refl _⟩
      | exact ⟨rfl, he.trans he2⟩
      | exact ⟨rfl, he⟩
theorem rcanon_call (s : List UInt8) (h : AH) (hl : s.length ≤ 1000000000000000) : Call P w0 ref01_Canon [.v (.string (bs s))] h (fun v h' => v = optV (canonO s) ∧ Ext h h') := by
  have hsp := fun h => rsplit_call (w0 := w0) s h hl
  rw [canonV_eq]
  unfold splitV at hsp
  refine Call.bodyF b_ref01_Canon rfl rfl ?_
  unfold c_ref01_Canon
  cases hx : splitO s with
  | none =>
    rw [hx] at hsp
    repeat' (first
| ((with_reducible apply opsF.op rfl); case hs => first | exact tHT | exact tHS)
| (with_reducible first | apply opsF.nil | apply seqF.nn | apply vcF.seq | apply vcF.region | apply vcF.skip | apply vcF.ret | apply seqF.r)
| ((with_reducible apply opsF.call); case hx => exact tAG)
| ((with_reducible apply vcF.cond); case hx => exact tEV) <;> ((intro hc; try simp only [Int.reduceLT, Int.reduceLE, Int.reduceEq, Int.reduceNe, Int.cast_ofNat_Int, Int.reduceNeg, reduceCtorEq, ne_eq, ge_iff_le, gt_iff_lt, beq_iff_eq, beq_eq_false_iff_ne, bne_iff_ne, bne_eq_false_iff_eq, nrm, *] at hc) <;> try (exfalso; omega))
| ((with_reducible first | apply retF.r | apply retF.nn); case hv => exact tRS)
| ((refine (hsp _).mono fun v h2 hp => ?_); obtain ⟨rfl, he⟩ := hp; have hN := he.n; have hO := he.objs; (try simp only [alloc_n, set_n, newTok_n, bump_n] at hN hO)))
    all_goals exact ⟨rfl, he⟩
  | some x =>
    obtain ⟨a, b⟩ := x
    obtain ⟨g1, g2⟩ := splitO_len hx
    rw [hx] at hsp
    simp only [] at g1 g2 hsp ⊢
    have hlw := fun h => rlower_call (w0 := w0) b h (by omega)
    have hll := lowerS_len b
    repeat' (first
| ((with_reducible apply opsF.op rfl); case hs => first | exact tHT | exact tHS)
| (with_reducible first | apply opsF.nil | apply seqF.nn | apply vcF.seq | apply vcF.region | apply vcF.skip | apply vcF.ret | apply seqF.r)
| ((with_reducible apply opsF.call); case hx => exact tAG)
| ((with_reducible apply vcF.cond); case hx => exact tEV) <;> ((intro hc; try simp only [Int.reduceLT, Int.reduceLE, Int.reduceEq, Int.reduceNe, Int.cast_ofNat_Int, Int.reduceNeg, reduceCtorEq, ne_eq, ge_iff_le, gt_iff_lt, beq_iff_eq, beq_eq_false_iff_ne, bne_iff_ne, bne_eq_false_iff_eq, nrm, *] at hc) <;> try (exfalso; omega))
| ((with_reducible first | apply retF.r | apply retF.nn); case hv => exact tRS)
| ((refine (hsp _).mono fun v h2 hp => ?_); obtain ⟨rfl, he⟩ := hp; have hN := he.n; have hO := he.objs; (try simp only [alloc_n, set_n, newTok_n, bump_n] at hN hO))
| ((refine (hlw _).mono fun v h3 hp => ?_); obtain ⟨rfl, he2⟩ := hp; have hN := he2.n; have hO := he2.objs; (try simp only [alloc_n, set_n, newTok_n, bump_n] at hN hO)))
    all_goals exact ⟨by simp, he.trans he2⟩
end Go.Abs.F
/- Layer 1: paths: the program's and the reference's. -/
namespace Go.Abs.F
open Go Go.Abs
set_option maxRecDepth 10000
set_option maxHeartbeats 20000000
set_option linter.unusedSimpArgs false
set_option linter.unusedVariables false
variable {w0 : World}
def midS (s : List UInt8) : List UInt8 := (s.take (s.length - 1)).drop 1
theorem midS_eq (s : List UInt8) : midS s = s.tail.dropLast := by
  rw [midS, List.drop_take, List.dropLast_eq_take, List.length_tail, List.drop_one]
theorem midS_len (s : List UInt8) : (midS s).length ≤ s.length := by simp [midS]; omega
theorem pathO_in {s : List UInt8} {x z : UInt8} (hs : ¬ s = [60, 62]) (h2 : 2 ≤ s.length) (h0 : s[0]? = some x) (hz : s[s.length - 1]? = some z) :
    pathO s = if (x.toNat : Int) = 60 ∧ (z.toNat : Int) = 62 then (routeO (midS s)).bind canonO else none := by
  have hhd : s.head? = some x := by rw [List.head?_eq_getElem?]; exact h0
  have hlt : s.getLast? = some z := by rw [List.getLast?_eq_getElem?]; exact hz
  rw [pathO, if_neg hs, hhd, hlt, midS_eq]
  have e1 : (2 ≤ s.length ∧ some x = some (60 : UInt8) ∧ some z = some (62 : UInt8)) ↔ ((x.toNat : Int) = 60 ∧ (z.toNat : Int) = 62) := by
    constructor
    · rintro ⟨_, e1, e2⟩
      injection e1 with e1
      injection e2 with e2
      rw [e1, e2]
      exact ⟨rfl, rfl⟩
    · rintro ⟨e1, e2⟩
      refine ⟨h2, congrArg some (UInt8.toNat_inj.1 ?_), congrArg some (UInt8.toNat_inj.1 ?_)⟩
      · rw [show (60 : UInt8).toNat = 60 from rfl]; omega
      · rw [show (62 : UInt8).toNat = 62 from rfl]; omega
  by_cases hc : ((x.toNat : Int) = 60 ∧ (z.toNat : Int) = 62)
  · rw [if_pos hc, if_pos (e1.2 hc)]
  · rw [if_neg hc, if_neg (fun e => hc (e1.1 e))]
theorem pathO_short {s : List UInt8} (hs : ¬ s = [60, 62]) (h2 : ¬ 2 ≤ s.length) : pathO s = none := by
  rw [pathO, if_neg hs, if_neg (fun e => h2 e.1)]
theorem cutB_bd (c : UInt8) {s t : List UInt8} {n : Nat} (hl : s.length ≤ n) (h : routeO s = some t) : t.length ≤ n := by
  unfold routeO at h
  split at h
  · split at h
    · injection h with h
      subst h
      exact Nat.le_trans (cutB_le 58 s).2 hl
    · cases h
  · injection h with h
    rw [← h]; exact hl
theorem path_call (s : List UInt8) (h : AH) (hl : s.length ≤ 1000000000) : Call P w0 addr_Path [.v (.string (bs s))] h (fun v h' => v = optV (pathO s) ∧ Ext h h') := by
  refine Call.bodyF b_addr_Path rfl rfl ?_
  unfold c_addr_Path
  by_cases hs : s = [60, 62]
  · have : optV (pathO s) = .tup [.v (.string (bs [])), .v (.bool true)] := by rw [hs]; rfl
    rw [this]
    repeat' (first
| ((with_reducible apply opsF.op rfl); case hs => first | exact tHT | exact tHS)
| (with_reducible first | apply opsF.nil | apply seqF.nn | apply vcF.seq | apply vcF.region | apply vcF.skip | apply vcF.ret | apply seqF.r)
| ((with_reducible apply opsF.call); case hx => exact tAG)
| ((with_reducible apply opsF.want); (case hg => exact tEV); case hb => exact tNB)
| ((with_reducible apply opsF.skip); (case hg => exact tEV); case hb => exact tNB)
| (first | ((with_reducible apply opsF.case); case hg => exact tEV) | ((with_reducible apply vcF.cond); case hx => exact tEV)) <;> ((intro hc; try simp only [Int.reduceLT, Int.reduceLE, Int.reduceEq, Int.reduceNe, Int.cast_ofNat_Int, Int.reduceNeg, reduceCtorEq, ne_eq, ge_iff_le, gt_iff_lt, beq_iff_eq, beq_eq_false_iff_ne, bne_iff_ne, bne_eq_false_iff_eq, nrm, *] at hc) <;> try (exfalso; omega))
| ((with_reducible apply opsF.und); case hg => rfl)
| ((with_reducible first | apply retF.r | apply retF.nn); case hv => exact tRS))
    all_goals exact ⟨rfl, .refl _⟩
  · by_cases h2 : 2 ≤ s.length
    · obtain ⟨x, h0⟩ : ∃ x, s[0]? = some x := ⟨_, List.getElem?_eq_getElem (by omega)⟩
      obtain ⟨z, hz⟩ : ∃ z, s[s.length - 1]? = some z := ⟨_, List.getElem?_eq_getElem (by omega)⟩
      have hi1 : ((s.length : Int) - 1).toNat = s.length - 1 := by omega
      have hp := pathO_in hs h2 h0 hz
      by_cases hx : (x.toNat : Int) = 60
      · by_cases hzz : (z.toNat : Int) = 62
        · rw [if_pos ⟨hx, hzz⟩] at hp
          rw [hp]
          have hro := fun h => route_call (w0 := w0) (midS s) h (by have := midS_len s; omega)
          have hbd := fun t => cutB_bd (s := midS s) (t := t) 0 (Nat.le_trans (midS_len s) hl)
          have hmid : (s.take (s.length - 1)).drop 1 = midS s := rfl
          clear hp
          unfold RouteP at hro
          generalize midS s = m at *
          cases hq : routeO m with
          | none =>
            rw [hq] at hro
            simp only [Option.bind_none, optV]
            simp only [] at hro
            repeat' (first
| ((with_reducible apply opsF.op rfl); case hs => first | exact tHT | exact tHS)
| (with_reducible first | apply opsF.nil | apply seqF.nn | apply vcF.seq | apply vcF.region | apply vcF.skip | apply vcF.ret | apply seqF.r)
| ((with_reducible apply opsF.call); case hx => exact tAG)
| ((with_reducible apply opsF.want); (case hg => exact tEV); case hb => exact tNB)
| ((with_reducible apply opsF.skip); (case hg => exact tEV); case hb => exact tNB)
| (first | ((with_reducible apply opsF.case); case hg => exact tEV) | ((with_reducible apply vcF.cond); case hx => exact tEV)) <;> ((intro hc; try simp only [Int.reduceLT, Int.reduceLE, Int.reduceEq, Int.reduceNe, Int.cast_ofNat_Int, Int.reduceNeg, reduceCtorEq, ne_eq, ge_iff_le, gt_iff_lt, beq_iff_eq, beq_eq_false_iff_ne, bne_iff_ne, bne_eq_false_iff_eq, nrm, *] at hc) <;> try (exfalso; omega))
| ((with_reducible apply opsF.und); case hg => rfl)
| ((with_reducible first | apply retF.r | apply retF.nn); case hv => exact tRS)
| ((refine (hro _).mono fun v h3 hp => ?_); obtain ⟨⟨t, rfl⟩, he⟩ := hp; have hN := he.n; have hO := he.objs; (try simp only [alloc_n, set_n, newTok_n, bump_n] at hN hO)))
            all_goals exact ⟨rfl, he⟩
          | some t =>
            rw [hq] at hro
            simp only [] at hro
            have hca := fun h => canon_call (w0 := w0) t h (hbd t hq)
            simp only [Option.bind_some]
            clear hbd hq
            generalize canonO t = q at *
            cases q with
            | none =>
              simp only [optV] at *
              repeat' (first
| ((with_reducible apply opsF.op rfl); case hs => first | exact tHT | exact tHS)
| (with_reducible first | apply opsF.nil | apply seqF.nn | apply vcF.seq | apply vcF.region | apply vcF.skip | apply vcF.ret | apply seqF.r)
| ((with_reducible apply opsF.call); case hx => exact tAG)
| ((with_reducible apply opsF.want); (case hg => exact tEV); case hb => exact tNB)
| ((with_reducible apply opsF.skip); (case hg => exact tEV); case hb => exact tNB)
| (first | ((with_reducible apply opsF.case); case hg => exact tEV) | ((with_reducible apply vcF.cond); case hx => exact tEV)) <;> ((intro hc; try simp only [Int.reduceLT, Int.reduceLE, Int.reduceEq, Int.reduceNe, Int.cast_ofNat_Int, Int.reduceNeg, reduceCtorEq, ne_eq, ge_iff_le, gt_iff_lt, beq_iff_eq, beq_eq_false_iff_ne, bne_iff_ne, bne_eq_false_iff_eq, nrm, *] at hc) <;> try (exfalso; omega))
| ((with_reducible apply opsF.und); case hg => rfl)
| ((with_reducible first | apply retF.r | apply retF.nn); case hv => exact tRS)
| ((refine (hro _).mono fun v h3 hp => ?_); obtain ⟨rfl, he⟩ := hp; have hN := he.n; have hO := he.objs; (try simp only [alloc_n, set_n, newTok_n, bump_n] at hN hO))
| ((refine (hca _).mono fun v h4 hp => ?_); obtain ⟨rfl, he2⟩ := hp; have hN := he2.n; have hO := he2.objs; (try simp only [alloc_n, set_n, newTok_n, bump_n] at hN hO)))
              all_goals exact ⟨rfl, he.trans he2⟩
            | some u =>
              simp only [optV] at *
              repeat' (first
| ((with_reducible apply opsF.op rfl); case hs => first | exact tHT | exact tHS)
| (with_reducible first | apply opsF.nil | apply seqF.nn | apply vcF.seq | apply vcF.region | apply vcF.skip | apply vcF.ret | apply seqF.r)
| ((with_reducible apply opsF.call); case hx => exact tAG)
| ((with_reducible apply opsF.want); (case hg => exact tEV); case hb => exact tNB)
| ((with_reducible apply opsF.skip); (case hg => exact tEV); case hb => exact tNB)
| (first | ((with_reducible apply opsF.case); case hg => exact tEV) | ((with_reducible apply vcF.cond); case hx => exact tEV)) <;> ((intro hc; try simp only [Int.reduceLT, Int.reduceLE, Int.reduceEq, Int.reduceNe, Int.cast_ofNat_Int, Int.reduceNeg, reduceCtorEq, ne_eq, ge_iff_le, gt_iff_lt, beq_iff_eq, beq_eq_false_iff_ne, bne_iff_ne, bne_eq_false_iff_eq, nrm, *] at hc) <;> try (exfalso; omega))
| ((with_reducible apply opsF.und); case hg => rfl)
| ((with_reducible first | apply retF.r | apply retF.nn); case hv => exact tRS)
| ((refine (hro _).mono fun v h3 hp => ?_); obtain ⟨rfl, he⟩ := hp; have hN := he.n; have hO := he.objs; (try simp only [alloc_n, set_n, newTok_n, bump_n] at hN hO))
| ((refine (hca _).mono fun v h4 hp => ?_); obtain ⟨rfl, he2⟩ := hp; have hN := he2.n; have hO := he2.objs; (try simp only [alloc_n, set_n, newTok_n, bump_n] at hN hO)))
              all_goals exact ⟨rfl, he.trans he2⟩
        · rw [hp, if_neg (fun e => hzz e.2)]
          clear hp
          simp only [optV]
          repeat' (first
| ((with_reducible apply opsF.op rfl); case hs => first | exact tHT | exact tHS)
| (with_reducible first | apply opsF.nil | apply seqF.nn | apply vcF.seq | apply vcF.region | apply vcF.skip | apply vcF.ret | apply seqF.r)
| ((with_reducible apply opsF.call); case hx => exact tAG)
| ((with_reducible apply opsF.want); (case hg => exact tEV); case hb => exact tNB)
| ((with_reducible apply opsF.skip); (case hg => exact tEV); case hb => exact tNB)
| (first | ((with_reducible apply opsF.case); case hg => exact tEV) | ((with_reducible apply vcF.cond); case hx => exact tEV)) <;> ((intro hc; try simp only [Int.reduceLT, Int.reduceLE, Int.reduceEq, Int.reduceNe, Int.cast_ofNat_Int, Int.reduceNeg, reduceCtorEq, ne_eq, ge_iff_le, gt_iff_lt, beq_iff_eq, beq_eq_false_iff_ne, bne_iff_ne, bne_eq_false_iff_eq, nrm, *] at hc) <;> try (exfalso; omega))
| ((with_reducible apply opsF.und); case hg => rfl)
| ((with_reducible first | apply retF.r | apply retF.nn); case hv => exact tRS))
          all_goals exact ⟨rfl, .refl _⟩
      · rw [hp, if_neg (fun e => hx e.1)]
        clear hp
        simp only [optV]
        repeat' (first
| ((with_reducible apply opsF.op rfl); case hs => first | exact tHT | exact tHS)
| (with_reducible first | apply opsF.nil | apply seqF.nn | apply vcF.seq | apply vcF.region | apply vcF.skip | apply vcF.ret | apply seqF.r)
| ((with_reducible apply opsF.call); case hx => exact tAG)
| ((with_reducible apply opsF.want); (case hg => exact tEV); case hb => exact tNB)
| ((with_reducible apply opsF.skip); (case hg => exact tEV); case hb => exact tNB)
| (first | ((with_reducible apply opsF.case); case hg => exact tEV) | ((with_reducible apply vcF.cond); case hx => exact tEV)) <;> ((intro hc; try simp only [Int.reduceLT, Int.reduceLE, Int.reduceEq, Int.reduceNe, Int.cast_ofNat_Int, Int.reduceNeg, reduceCtorEq, ne_eq, ge_iff_le, gt_iff_lt, beq_iff_eq, beq_eq_false_iff_ne, bne_iff_ne, bne_eq_false_iff_eq, nrm, *] at hc) <;> try (exfalso; omega))
| ((with_reducible apply opsF.und); case hg => rfl)
| ((with_reducible first | apply retF.r | apply retF.nn); case hv => exact tRS))
        all_goals exact ⟨rfl, .refl _⟩
    · rw [pathO_short hs h2]
      simp only [optV]
      repeat' (first
| ((with_reducible apply opsF.op rfl); case hs => first | exact tHT | exact tHS)
| (with_reducible first | apply opsF.nil | apply seqF.nn | apply vcF.seq | apply vcF.region | apply vcF.skip | apply vcF.ret | apply seqF.r)
| ((with_reducible apply opsF.call); case hx => exact tAG)
| ((with_reducible apply opsF.want); (case hg => exact tEV); case hb => exact tNB)
| ((with_reducible apply opsF.skip); (case hg => exact tEV); case hb => exact tNB)
| (first | ((with_reducible apply opsF.case); case hg => exact tEV) | ((with_reducible apply vcF.cond); case hx => exact tEV)) <;> ((intro hc; try simp only [Int.reduceLT, Int.reduceLE, Int.reduceEq, Int.reduceNe, Int.cast_ofNat_Int, Int.reduceNeg, reduceCtorEq, ne_eq, ge_iff_le, gt_iff_lt, beq_iff_eq, beq_eq_false_iff_ne, bne_iff_ne, bne_eq_false_iff_eq, nrm, *] at hc) <;> try (exfalso; omega))
| ((with_reducible apply opsF.und); case hg => rfl)
| ((with_reducible first | apply retF.r | apply retF.nn); case hv => exact tRS))
      all_goals exact ⟨rfl, .refl _⟩
theorem rpath_call (s : List UInt8) (h : AH) (hl : s.length ≤ 1000000000) : Call P w0 ref01_Path [.v (.string (bs s))] h (fun v h' => v = optV (pathO s) ∧ Ext h h') := by
  have xl := srows_len
  have xg := srows_get
  refine Call.bodyF b_ref01_Path rfl rfl ?_
  unfold c_ref01_Path
  by_cases hs : s = [60, 62]
  · have : optV (pathO s) = .tup [.v (.string (bs [])), .v (.bool true)] := by rw [hs]; rfl
    rw [this]
    repeat' (first
| ((with_reducible apply opsF.op rfl); case hs => first | exact tHT | exact tHS)
| (with_reducible first | apply opsF.nil | apply seqF.nn | apply vcF.seq | apply vcF.region | apply vcF.skip | apply vcF.block | apply vcF.exit | apply vcF.ret | apply vcF.loop | apply seqF.e | apply seqF.r | apply blkF.nn | apply blkF.e | apply blkF.r | apply blkF.o rfl)
| ((with_reducible apply opsF.call); case hx => exact tAG)
| ((with_reducible apply opsF.want); (case hg => exact tEV); case hb => exact tNB)
| ((with_reducible apply opsF.skip); (case hg => exact tEV); case hb => exact tNB)
| (first | ((with_reducible apply opsF.case); case hg => exact tEV) | ((with_reducible apply vcF.cond); case hx => exact tEV)) <;> ((intro hc; try simp only [Int.reduceLT, Int.reduceLE, Int.reduceEq, Int.reduceNe, Int.cast_ofNat_Int, Int.reduceNeg, reduceCtorEq, ne_eq, ge_iff_le, gt_iff_lt, beq_iff_eq, beq_eq_false_iff_ne, bne_iff_ne, bne_eq_false_iff_eq, nrm, *] at hc) <;> try (exfalso; omega))
| ((with_reducible apply opsF.und); case hg => rfl)
| ((with_reducible first | apply retF.r | apply retF.nn); case hv => exact tRS))
    all_goals exact ⟨rfl, .refl _⟩
  · by_cases h2 : 2 ≤ s.length
    · obtain ⟨x, h0⟩ : ∃ x, s[0]? = some x := ⟨_, List.getElem?_eq_getElem (by omega)⟩
      obtain ⟨z, hz⟩ : ∃ z, s[s.length - 1]? = some z := ⟨_, List.getElem?_eq_getElem (by omega)⟩
      have hi1 : ((s.length : Int) - 1).toNat = s.length - 1 := by omega
      have hp := pathO_in hs h2 h0 hz
      by_cases hx : (x.toNat : Int) = 60
      · by_cases hzz : (z.toNat : Int) = 62
        · rw [if_pos ⟨hx, hzz⟩] at hp
          rw [hp]
          have hmid : (s.take (s.length - 1)).drop 1 = midS s := rfl
          have hml := midS_len s
          clear hp
          have hpt : ∀ t : List UInt8, t = t.take t.length := fun t => by rw [List.take_length]
          generalize midS s = m at *
          cases m with
          | nil =>
            have hq : (routeO []).bind canonO = canonO [] := rfl
            rw [hq]
            have hca := fun h => rcanon_call (w0 := w0) [] h (by simp)
            clear hpt
            generalize canonO [] = q at *
            cases q
            all_goals simp only [optV] at *
            all_goals repeat' (first
| ((with_reducible apply opsF.op rfl); case hs => first | exact tHT | exact tHS)
| (with_reducible first | apply opsF.nil | apply seqF.nn | apply vcF.seq | apply vcF.region | apply vcF.skip | apply vcF.block | apply vcF.exit | apply vcF.ret | apply vcF.loop | apply seqF.e | apply seqF.r | apply blkF.nn | apply blkF.e | apply blkF.r | apply blkF.o rfl)
| ((with_reducible apply opsF.call); case hx => exact tAG)
| ((with_reducible apply opsF.want); (case hg => exact tEV); case hb => exact tNB)
| ((with_reducible apply opsF.skip); (case hg => exact tEV); case hb => exact tNB)
| (first | ((with_reducible apply opsF.case); case hg => exact tEV) | ((with_reducible apply vcF.cond); case hx => exact tEV)) <;> ((intro hc; try simp only [Int.reduceLT, Int.reduceLE, Int.reduceEq, Int.reduceNe, Int.cast_ofNat_Int, Int.reduceNeg, reduceCtorEq, ne_eq, ge_iff_le, gt_iff_lt, beq_iff_eq, beq_eq_false_iff_ne, bne_iff_ne, bne_eq_false_iff_eq, nrm, *] at hc) <;> try (exfalso; omega))
| ((with_reducible apply opsF.und); case hg => rfl)
| ((with_reducible first | apply retF.r | apply retF.nn); case hv => exact tRS)
| ((refine (hca _).mono fun v h4 hp => ?_); obtain ⟨rfl, he2⟩ := hp; have hN := he2.n; have hO := he2.objs; (try simp only [alloc_n, set_n, newTok_n, bump_n] at hN hO)))
            all_goals exact ⟨rfl, he2⟩
          | cons y m2 =>
            have h0m : (y :: m2)[0]? = some y := rfl
            have hyn : ¬ (y :: m2) = [] := by simp
            have hpm : 0 < (y :: m2).length := by simp
            by_cases hy : (y.toNat : Int) = 64
            · have hy2 : y = 64 := UInt8.toNat_inj.1 (by rw [show (64 : UInt8).toNat = 64 from rfl]; omega)
              have hro : routeO (y :: m2) = if (cutB 58 (y :: m2)).2.2 = true ∧ (splB 44 (cutB 58 (y :: m2)).1).all atS = true then some (cutB 58 (y :: m2)).2.1 else none := by
                rw [routeO, hy2]; rfl
              clear hy2
              generalize y :: m2 = m at *
              have hfind := fun h => rfind_call (w0 := w0) m 58 h (by omega)
              rcases cutB_cases 58 m with ⟨k1, k2⟩ | ⟨a, r, rfl, k1, k2⟩
              · rw [k2] at hro
                rw [if_neg (by simp)] at hro
                rw [hro]
                rw [idx_miss k1] at hfind
                clear hro k2 hpt
                simp only [Option.bind_none, optV]
                repeat' (first
| ((with_reducible apply opsF.op rfl); case hs => first | exact tHT | exact tHS)
| (with_reducible first | apply opsF.nil | apply seqF.nn | apply vcF.seq | apply vcF.region | apply vcF.skip | apply vcF.block | apply vcF.exit | apply vcF.ret | apply vcF.loop | apply seqF.e | apply seqF.r | apply blkF.nn | apply blkF.e | apply blkF.r | apply blkF.o rfl)
| ((with_reducible apply opsF.call); case hx => exact tAG)
| ((with_reducible apply opsF.want); (case hg => exact tEV); case hb => exact tNB)
| ((with_reducible apply opsF.skip); (case hg => exact tEV); case hb => exact tNB)
| (first | ((with_reducible apply opsF.case); case hg => exact tEV) | ((with_reducible apply vcF.cond); case hx => exact tEV)) <;> ((intro hc; try simp only [Int.reduceLT, Int.reduceLE, Int.reduceEq, Int.reduceNe, Int.cast_ofNat_Int, Int.reduceNeg, reduceCtorEq, ne_eq, ge_iff_le, gt_iff_lt, beq_iff_eq, beq_eq_false_iff_ne, bne_iff_ne, bne_eq_false_iff_eq, nrm, *] at hc) <;> try (exfalso; omega))
| ((with_reducible apply opsF.und); case hg => rfl)
| ((with_reducible first | apply retF.r | apply retF.nn); case hv => exact tRS)
| ((refine (hfind _).mono fun v h2 hp => ?_); obtain ⟨rfl, rfl⟩ := hp))
                all_goals exact ⟨rfl, .refl _⟩
              · rw [k2] at hro
                simp only [true_and] at hro
                have hbi : (if (splB 44 a).all atS = true then some r else none).bind canonO = if (splB 44 a).all atS = true then canonO r else none := by split <;> rfl
                rw [hro, hbi]
                clear hbi
                rw [idx_hit k1] at hfind
                clear hro k2
                have hlen : (a ++ 58 :: r).length = a.length + (r.length + 1) := by simp
                have ht : (a ++ 58 :: r).take a.length = a := by simp
                have hd : (a ++ 58 :: r).drop (a.length + 1) = r := by
                  rw [← List.drop_drop]; simp
                have hd2 : ((a ++ 58 :: r).take (a.length + (r.length + 1))).drop (a.length + 1) = r := by
                  rw [← hlen, List.take_length]; exact hd
                have ht1 : ((a.length : Int) + 1).toNat = a.length + 1 := by omega
                generalize a ++ 58 :: r = m at *
                have hcut := fun h => rcut_call (w0 := w0) a 44 h (by omega)
                have hsl := splB_len (c := 44) a.length (Nat.le_refl _)
                have hwm : ∀ w ∈ splB 44 a, w.length ≤ 1000000000 := fun w hw => by
                  have := splB_mem a.length (Nat.le_refl _) hw
                  omega
                have hca := fun h => rcanon_call (w0 := w0) r h (by omega)
                generalize canonO r = q at *
                generalize splB 44 a = ws at *
                clear hpt
                repeat' (first
| ((with_reducible apply opsF.op rfl); case hs => first | exact tHT | exact tHS)
| (with_reducible first | apply opsF.nil | apply seqF.nn | apply vcF.seq | apply vcF.region | apply vcF.skip | apply vcF.block | apply vcF.exit | apply vcF.ret | apply vcF.loop | apply seqF.e | apply seqF.r | apply blkF.nn | apply blkF.e | apply blkF.r | apply blkF.o rfl)
| ((with_reducible apply opsF.call); case hx => exact tAG)
| ((with_reducible apply opsF.want); (case hg => exact tEV); case hb => exact tNB)
| ((with_reducible apply opsF.skip); (case hg => exact tEV); case hb => exact tNB)
| (first | ((with_reducible apply opsF.case); case hg => exact tEV) | ((with_reducible apply vcF.cond); case hx => exact tEV)) <;> ((intro hc; try simp only [Int.reduceLT, Int.reduceLE, Int.reduceEq, Int.reduceNe, Int.cast_ofNat_Int, Int.reduceNeg, reduceCtorEq, ne_eq, ge_iff_le, gt_iff_lt, beq_iff_eq, beq_eq_false_iff_ne, bne_iff_ne, bne_eq_false_iff_eq, nrm, *] at hc) <;> try (exfalso; omega))
| ((with_reducible apply opsF.und); case hg => rfl)
| ((with_reducible first | apply retF.r | apply retF.nn); case hv => exact tRS)
| ((refine (hfind _).mono fun v h2 hp => ?_); obtain ⟨rfl, rfl⟩ := hp)
| ((refine (hcut _).mono fun v h2 hp => ?_); obtain ⟨rfl, rfl⟩ := hp))
                refine LpF.ind rfl (fun i : Nat => ws.length - i) (fun i σ hh => Ext h2 hh ∧ σ 4 = .v (.string (bs m)) ∧ σ 5 = .v (.int .i64 (a.length : Nat)) ∧ σ 6 = .list 1 (srows ws) .no ∧ σ 7 = .v (.int .i64 (i : Nat)) ∧ i ≤ ws.length ∧ (ws.take i).all atS = true) ?_ (i := 0) ⟨.refl _, rfl, rfl, rfl, rfl, Nat.zero_le _, rfl⟩
                rintro i σ hh ⟨hE, g4, g5, g6, g7, hi, hal⟩
                rcases Nat.lt_or_ge i ws.length with hlt | hge
                · obtain ⟨w, hw⟩ : ∃ x, ws[i]? = some x := ⟨_, List.getElem?_eq_getElem hlt⟩
                  have hwl := hwm w (List.mem_of_getElem? hw)
                  rcases w with _ | ⟨e, w2⟩
                  · rw [if_neg (by rw [all_bad hw (p := atS) rfl]; simp)]
                    simp only [optV]
                    repeat' (first
| ((with_reducible apply opsF.op rfl); case hs => first | exact tHT | exact tHS)
| (with_reducible first | apply opsF.nil | apply seqF.nn | apply vcF.seq | apply vcF.region | apply vcF.skip | apply vcF.block | apply vcF.exit | apply vcF.ret | apply vcF.loop | apply seqF.e | apply seqF.r | apply blkF.nn | apply blkF.e | apply blkF.r | apply blkF.o rfl)
| ((with_reducible apply opsF.call); case hx => exact tAG)
| ((with_reducible apply opsF.want); (case hg => exact tEV); case hb => exact tNB)
| ((with_reducible apply opsF.skip); (case hg => exact tEV); case hb => exact tNB)
| (first | ((with_reducible apply opsF.case); case hg => exact tEV) | ((with_reducible apply vcF.cond); case hx => exact tEV)) <;> ((intro hc; try simp only [Int.reduceLT, Int.reduceLE, Int.reduceEq, Int.reduceNe, Int.cast_ofNat_Int, Int.reduceNeg, reduceCtorEq, ne_eq, ge_iff_le, gt_iff_lt, beq_iff_eq, beq_eq_false_iff_ne, bne_iff_ne, bne_eq_false_iff_eq, nrm, *] at hc) <;> try (exfalso; omega))
| ((with_reducible apply opsF.und); case hg => rfl)
| ((with_reducible first | apply retF.r | apply retF.nn); case hv => exact tRS))
                    all_goals exact ⟨rfl, hE⟩
                  · have h0w : (e :: w2)[0]? = some e := rfl
                    have hwn : ¬ (e :: w2) = [] := by simp
                    have hsl2 : (e :: w2).length = w2.length + 1 := rfl
                    have hdr : ((e :: w2).take (w2.length + 1)).drop 1 = w2 := by rw [← hsl2, List.take_length]; rfl
                    by_cases he64 : (e.toNat : Int) = 64
                    · have hat : atS (e :: w2) = domainS w2 := by
                        have : e = 64 := UInt8.toNat_inj.1 (by rw [show (64 : UInt8).toNat = 64 from rfl]; omega)
                        simp [atS, this]
                      have hdo := fun h => rdomain_call (w0 := w0) w2 h (by omega)
                      generalize e :: w2 = w at *
                      cases hD : domainS w2
                      · rw [hD] at hdo hat
                        rw [if_neg (by rw [all_bad hw (p := atS) hat]; simp)]
                        simp only [optV]
                        repeat' (first
| ((with_reducible apply opsF.op rfl); case hs => first | exact tHT | exact tHS)
| (with_reducible first | apply opsF.nil | apply seqF.nn | apply vcF.seq | apply vcF.region | apply vcF.skip | apply vcF.block | apply vcF.exit | apply vcF.ret | apply vcF.loop | apply seqF.e | apply seqF.r | apply blkF.nn | apply blkF.e | apply blkF.r | apply blkF.o rfl)
| ((with_reducible apply opsF.call); case hx => exact tAG)
| ((with_reducible apply opsF.want); (case hg => exact tEV); case hb => exact tNB)
| ((with_reducible apply opsF.skip); (case hg => exact tEV); case hb => exact tNB)
| (first | ((with_reducible apply opsF.case); case hg => exact tEV) | ((with_reducible apply vcF.cond); case hx => exact tEV)) <;> ((intro hc; try simp only [Int.reduceLT, Int.reduceLE, Int.reduceEq, Int.reduceNe, Int.cast_ofNat_Int, Int.reduceNeg, reduceCtorEq, ne_eq, ge_iff_le, gt_iff_lt, beq_iff_eq, beq_eq_false_iff_ne, bne_iff_ne, bne_eq_false_iff_eq, nrm, *] at hc) <;> try (exfalso; omega))
| ((with_reducible apply opsF.und); case hg => rfl)
| ((with_reducible first | apply retF.r | apply retF.nn); case hv => exact tRS)
| ((refine (hdo _).mono fun v h3 hp => ?_); obtain ⟨rfl, he⟩ := hp; have hN := he.n; have hO := he.objs; (try simp only [alloc_n, set_n, newTok_n, bump_n] at hN hO)))
                        all_goals exact ⟨rfl, hE.trans he⟩
                      · rw [hD] at hdo hat
                        repeat' (first
| ((with_reducible apply opsF.op rfl); case hs => first | exact tHT | exact tHS)
| (with_reducible first | apply opsF.nil | apply seqF.nn | apply vcF.seq | apply vcF.region | apply vcF.skip | apply vcF.block | apply vcF.exit | apply vcF.ret | apply vcF.loop | apply seqF.e | apply seqF.r | apply blkF.nn | apply blkF.e | apply blkF.r | apply blkF.o rfl)
| ((with_reducible apply opsF.call); case hx => exact tAG)
| ((with_reducible apply opsF.want); (case hg => exact tEV); case hb => exact tNB)
| ((with_reducible apply opsF.skip); (case hg => exact tEV); case hb => exact tNB)
| (first | ((with_reducible apply opsF.case); case hg => exact tEV) | ((with_reducible apply vcF.cond); case hx => exact tEV)) <;> ((intro hc; try simp only [Int.reduceLT, Int.reduceLE, Int.reduceEq, Int.reduceNe, Int.cast_ofNat_Int, Int.reduceNeg, reduceCtorEq, ne_eq, ge_iff_le, gt_iff_lt, beq_iff_eq, beq_eq_false_iff_ne, bne_iff_ne, bne_eq_false_iff_eq, nrm, *] at hc) <;> try (exfalso; omega))
| ((with_reducible apply opsF.und); case hg => rfl)
| ((with_reducible first | apply retF.r | apply retF.nn); case hv => exact tRS)
| ((refine (hdo _).mono fun v h3 hp => ?_); obtain ⟨rfl, he⟩ := hp; have hN := he.n; have hO := he.objs; (try simp only [alloc_n, set_n, newTok_n, bump_n] at hN hO)))
                        refine ⟨i + 1, by omega, hE.trans he, g4, g5, g6, rfl, by omega, ?_⟩
                        rw [List.take_add_one, hw, List.all_append, hal]
                        simp [hat]
                    · have hat : atS (e :: w2) = false := by
                        have : e ≠ 64 := fun e' => he64 (by rw [e']; rfl)
                        simp [atS, this]
                      rw [if_neg (by rw [all_bad hw (p := atS) hat]; simp)]
                      generalize e :: w2 = w at *
                      simp only [optV]
                      repeat' (first
| ((with_reducible apply opsF.op rfl); case hs => first | exact tHT | exact tHS)
| (with_reducible first | apply opsF.nil | apply seqF.nn | apply vcF.seq | apply vcF.region | apply vcF.skip | apply vcF.block | apply vcF.exit | apply vcF.ret | apply vcF.loop | apply seqF.e | apply seqF.r | apply blkF.nn | apply blkF.e | apply blkF.r | apply blkF.o rfl)
| ((with_reducible apply opsF.call); case hx => exact tAG)
| ((with_reducible apply opsF.want); (case hg => exact tEV); case hb => exact tNB)
| ((with_reducible apply opsF.skip); (case hg => exact tEV); case hb => exact tNB)
| (first | ((with_reducible apply opsF.case); case hg => exact tEV) | ((with_reducible apply vcF.cond); case hx => exact tEV)) <;> ((intro hc; try simp only [Int.reduceLT, Int.reduceLE, Int.reduceEq, Int.reduceNe, Int.cast_ofNat_Int, Int.reduceNeg, reduceCtorEq, ne_eq, ge_iff_le, gt_iff_lt, beq_iff_eq, beq_eq_false_iff_ne, bne_iff_ne, bne_eq_false_iff_eq, nrm, *] at hc) <;> try (exfalso; omega))
| ((with_reducible apply opsF.und); case hg => rfl)
| ((with_reducible first | apply retF.r | apply retF.nn); case hv => exact tRS))
                      all_goals exact ⟨rfl, hE⟩
                · obtain rfl : i = ws.length := by omega
                  rw [List.take_length] at hal
                  rw [if_pos hal]
                  cases q
                  all_goals simp only [optV] at *
                  all_goals repeat' (first
| ((with_reducible apply opsF.op rfl); case hs => first | exact tHT | exact tHS)
| (with_reducible first | apply opsF.nil | apply seqF.nn | apply vcF.seq | apply vcF.region | apply vcF.skip | apply vcF.block | apply vcF.exit | apply vcF.ret | apply vcF.loop | apply seqF.e | apply seqF.r | apply blkF.nn | apply blkF.e | apply blkF.r | apply blkF.o rfl)
| ((with_reducible apply opsF.call); case hx => exact tAG)
| ((with_reducible apply opsF.want); (case hg => exact tEV); case hb => exact tNB)
| ((with_reducible apply opsF.skip); (case hg => exact tEV); case hb => exact tNB)
| (first | ((with_reducible apply opsF.case); case hg => exact tEV) | ((with_reducible apply vcF.cond); case hx => exact tEV)) <;> ((intro hc; try simp only [Int.reduceLT, Int.reduceLE, Int.reduceEq, Int.reduceNe, Int.cast_ofNat_Int, Int.reduceNeg, reduceCtorEq, ne_eq, ge_iff_le, gt_iff_lt, beq_iff_eq, beq_eq_false_iff_ne, bne_iff_ne, bne_eq_false_iff_eq, nrm, *] at hc) <;> try (exfalso; omega))
| ((with_reducible apply opsF.und); case hg => rfl)
| ((with_reducible first | apply retF.r | apply retF.nn); case hv => exact tRS)
| ((refine (hca _).mono fun v h4 hp => ?_); obtain ⟨rfl, he2⟩ := hp; have hN := he2.n; have hO := he2.objs; (try simp only [alloc_n, set_n, newTok_n, bump_n] at hN hO)))
                  all_goals exact ⟨rfl, hE.trans he2⟩
            · have hro : routeO (y :: m2) = some (y :: m2) := by
                rw [routeO, if_neg]
                intro e
                injection e with e
                exact hy (by rw [e]; rfl)
              rw [hro, Option.bind_some]
              clear hro hpt
              generalize y :: m2 = m at *
              have hca := fun h => rcanon_call (w0 := w0) m h (by omega)
              generalize canonO m = q at *
              cases q
              all_goals simp only [optV] at *
              all_goals repeat' (first
| ((with_reducible apply opsF.op rfl); case hs => first | exact tHT | exact tHS)
| (with_reducible first | apply opsF.nil | apply seqF.nn | apply vcF.seq | apply vcF.region | apply vcF.skip | apply vcF.block | apply vcF.exit | apply vcF.ret | apply vcF.loop | apply seqF.e | apply seqF.r | apply blkF.nn | apply blkF.e | apply blkF.r | apply blkF.o rfl)
| ((with_reducible apply opsF.call); case hx => exact tAG)
| ((with_reducible apply opsF.want); (case hg => exact tEV); case hb => exact tNB)
| ((with_reducible apply opsF.skip); (case hg => exact tEV); case hb => exact tNB)
| (first | ((with_reducible apply opsF.case); case hg => exact tEV) | ((with_reducible apply vcF.cond); case hx => exact tEV)) <;> ((intro hc; try simp only [Int.reduceLT, Int.reduceLE, Int.reduceEq, Int.reduceNe, Int.cast_ofNat_Int, Int.reduceNeg, reduceCtorEq, ne_eq, ge_iff_le, gt_iff_lt, beq_iff_eq, beq_eq_false_iff_ne, bne_iff_ne, bne_eq_false_iff_eq, nrm, *] at hc) <;> try (exfalso; omega))
| ((with_reducible apply opsF.und); case hg => rfl)
| ((with_reducible first | apply retF.r | apply retF.nn); case hv => exact tRS)
| ((refine (hca _).mono fun v h4 hp => ?_); obtain ⟨rfl, he2⟩ := hp; have hN := he2.n; have hO := he2.objs; (try simp only [alloc_n, set_n, newTok_n, bump_n] at hN hO)))
              all_goals exact ⟨rfl, he2⟩
        · rw [hp, if_neg (fun e => hzz e.2)]
          clear hp
          simp only [optV]
          repeat' (first
| ((with_reducible apply opsF.op rfl); case hs => first | exact tHT | exact tHS)
| (with_reducible first | apply opsF.nil | apply seqF.nn | apply vcF.seq | apply vcF.region | apply vcF.skip | apply vcF.block | apply vcF.exit | apply vcF.ret | apply vcF.loop | apply seqF.e | apply seqF.r | apply blkF.nn | apply blkF.e | apply blkF.r | apply blkF.o rfl)
| ((with_reducible apply opsF.call); case hx => exact tAG)
| ((with_reducible apply opsF.want); (case hg => exact tEV); case hb => exact tNB)
| ((with_reducible apply opsF.skip); (case hg => exact tEV); case hb => exact tNB)
| (first | ((with_reducible apply opsF.case); case hg => exact tEV) | ((with_reducible apply vcF.cond); case hx => exact tEV)) <;> ((intro hc; try simp only [Int.reduceLT, Int.reduceLE, Int.reduceEq, Int.reduceNe, Int.cast_ofNat_Int, Int.reduceNeg, reduceCtorEq, ne_eq, ge_iff_le, gt_iff_lt, beq_iff_eq, beq_eq_false_iff_ne, bne_iff_ne, bne_eq_false_iff_eq, nrm, *] at hc) <;> try (exfalso; omega))
| ((with_reducible apply opsF.und); case hg => rfl)
| ((with_reducible first | apply retF.r | apply retF.nn); case hv => exact tRS))
          all_goals exact ⟨rfl, .refl _⟩
      · rw [hp, if_neg (fun e => hx e.1)]
        clear hp
        simp only [optV]
        repeat' (first
| ((with_reducible apply opsF.op rfl); case hs => first | exact tHT | exact tHS)
| (with_reducible first | apply opsF.nil | apply seqF.nn | apply vcF.seq | apply vcF.region | apply vcF.skip | apply vcF.block | apply vcF.exit | apply vcF.ret | apply vcF.loop | apply seqF.e | apply seqF.r | apply blkF.nn | apply blkF.e | apply blkF.r | apply blkF.o rfl)
| ((with_reducible apply opsF.call); case hx => exact tAG)
| ((with_reducible apply opsF.want); (case hg => exact tEV); case hb => exact tNB)
| ((with_reducible apply opsF.skip); (case hg => exact tEV); case hb => exact tNB)
| (first | ((with_reducible apply opsF.case); case hg => exact tEV) | ((with_reducible apply vcF.cond); case hx => exact tEV)) <;> ((intro hc; try simp only [Int.reduceLT, Int.reduceLE, Int.reduceEq, Int.reduceNe, Int.cast_ofNat_Int, Int.reduceNeg, reduceCtorEq, ne_eq, ge_iff_le, gt_iff_lt, beq_iff_eq, beq_eq_false_iff_ne, bne_iff_ne, bne_eq_false_iff_eq, nrm, *] at hc) <;> try (exfalso; omega))
| ((with_reducible apply opsF.und); case hg => rfl)
| ((with_reducible first | apply retF.r | apply retF.nn); case hv => exact tRS))
        all_goals exact ⟨rfl, .refl _⟩
    · rw [pathO_short hs h2]
      simp only [optV]
      repeat' (first
| ((with_reducible apply opsF.op rfl); case hs => first | exact tHT | exact tHS)
| (with_reducible first | apply opsF.nil | apply seqF.nn | apply vcF.seq | apply vcF.region | apply vcF.skip | apply vcF.block | apply vcF.exit | apply vcF.ret | apply vcF.loop | apply seqF.e | apply seqF.r | apply blkF.nn | apply blkF.e | apply blkF.r | apply blkF.o rfl)
| ((with_reducible apply opsF.call); case hx => exact tAG)
| ((with_reducible apply opsF.want); (case hg => exact tEV); case hb => exact tNB)
| ((with_reducible apply opsF.skip); (case hg => exact tEV); case hb => exact tNB)
| (first | ((with_reducible apply opsF.case); case hg => exact tEV) | ((with_reducible apply vcF.cond); case hx => exact tEV)) <;> ((intro hc; try simp only [Int.reduceLT, Int.reduceLE, Int.reduceEq, Int.reduceNe, Int.cast_ofNat_Int, Int.reduceNeg, reduceCtorEq, ne_eq, ge_iff_le, gt_iff_lt, beq_iff_eq, beq_eq_false_iff_ne, bne_iff_ne, bne_eq_false_iff_eq, nrm, *] at hc) <;> try (exfalso; omega))
| ((with_reducible apply opsF.und); case hg => rfl)
| ((with_reducible first | apply retF.r | apply retF.nn); case hv => exact tRS))
      all_goals exact ⟨rfl, .refl _⟩
end Go.Abs.F
/- For a seat that has the texts of addresses: what Smb holds elsewhere stands there; built under Smb's name. -/
/- Replies' lines, read by the program and by the document. -/
namespace Go.Abs.F
open Go Go.Abs
set_option maxRecDepth 10000
set_option maxHeartbeats 20000000
set_option linter.unusedSimpArgs false
set_option linter.unusedVariables false
variable {w0 : World}
theorem code_call (n : Int) (h : AH) : Call P w0 reply_code [.v (.int .i64 n)] h (fun v h' => v = .v (.bool (decide (200 ≤ n ∧ n ≤ 599))) ∧ h' = h) := by
  refine Call.bodyF b_reply_code rfl rfl ?_
  unfold c_reply_code
  repeat' (first
| ((with_reducible apply opsF.op rfl); case hs => first | exact tHT | exact tHS)
| (with_reducible first | apply opsF.nil | apply seqF.nn | apply vcF.seq | apply vcF.region | apply vcF.skip | apply vcF.ret | apply seqF.r)
| ((with_reducible apply opsF.call); case hx => exact tAG)
| ((with_reducible apply opsF.want); (case hg => exact tEV); case hb => exact tNB)
| ((with_reducible apply opsF.skip); (case hg => exact tEV); case hb => exact tNB)
| (first | ((with_reducible apply opsF.case); case hg => exact tEV) | ((with_reducible apply vcF.cond); case hx => exact tEV)) <;> ((intro hc; try simp only [Int.reduceLT, Int.reduceLE, Int.reduceEq, Int.reduceNe, Int.cast_ofNat_Int, Int.reduceNeg, reduceCtorEq, ne_eq, ge_iff_le, gt_iff_lt, beq_iff_eq, beq_eq_false_iff_ne, bne_iff_ne, bne_eq_false_iff_eq, nrm, *] at hc) <;> try (exfalso; omega))
| ((with_reducible apply opsF.und); case hg => rfl)
| ((with_reducible first | apply retF.r | apply retF.nn); case hv => exact tRS))
  · simp [*]
  · have : ¬ 200 ≤ n := by omega
    simp [this]
theorem u8_is {x y : UInt8} (h : (x.toNat : Int) = (y.toNat : Int)) : x = y := UInt8.toNat_inj.1 (by omega)
/-- A line, without its end. -/
def lineS (most : Int) (b : List UInt8) : Int × List UInt8 :=
  if most < (b.length : Int) + 2 then (2, []) else if b.any (fun x => x = 0 || x = 10 || x = 13) then (3, []) else (1, b)
end Go.Abs.F
/- Layer 5: bodies. -/
namespace Go.Abs.F
open Go Go.Abs
set_option maxRecDepth 10000
set_option maxHeartbeats 20000000
set_option linter.unusedSimpArgs false
set_option linter.unusedVariables false
variable {w0 : World}
abbrev L8 := List UInt8
def lineOkS (s : L8) : Bool := !s.contains 0 && !s.contains 10 && !s.contains 13 && decide (s.length ≤ 997)
def bsizeS : List L8 → Nat
  | [] => 0
  | s :: l => s.length + 2 + bsizeS l
def bodyS (l : List L8) : Bool := l.all lineOkS && decide (bsizeS l ≤ 65536)
theorem bsize_app (l m : List L8) : bsizeS (l ++ m) = bsizeS l + bsizeS m := by
  induction l with
  | nil => simp [bsizeS]
  | cons x l ih => simp only [List.cons_append, bsizeS, ih]; omega
theorem bsize_take {l : List L8} {i : Nat} {x : L8} (hx : l[i]? = some x) : bsizeS (l.take (i + 1)) = bsizeS (l.take i) + x.length + 2 := by
  rw [List.take_add_one, hx, Option.toList_some, bsize_app]
  simp only [bsizeS]
  omega
theorem bsize_bd {l : List L8} {K : Nat} (h : ∀ s ∈ l, s.length ≤ K) : bsizeS l ≤ l.length * (K + 2) := by
  induction l with
  | nil => simp [bsizeS]
  | cons x l ih =>
    have h1 := h x (by simp)
    have h2 := ih fun s hs => h s (by simp [hs])
    simp only [bsizeS, List.length_cons, Nat.add_mul]
    omega
theorem bsize_bt {l : List L8} {K : Nat} (h : ∀ s ∈ l, s.length ≤ K) (i : Nat) : bsizeS (l.take i) ≤ l.length * (K + 2) := by
  have h1 := bsize_bd (l := l.take i) fun s hs => h s (List.mem_of_mem_take hs)
  have h2 : (l.take i).length ≤ l.length := by rw [List.length_take]; omega
  exact Nat.le_trans h1 (Nat.mul_le_mul_right _ h2)
theorem dsize_call (l : List L8) (tok : Tok) (h : AH) (hl : l.length ≤ 140737488351232) (hs : ∀ s ∈ l, s.length ≤ 1000) : Call P w0 dots_Size [.list 1 (srows l) tok] h (fun v h' => v = .v (.int .i64 (bsizeS l : Nat)) ∧ h' = h) := by
  have xl := srows_len
  have xg := srows_get
  have m1 := srows_len l
  refine Call.bodyF b_dots_Size rfl rfl ?_
  unfold c_dots_Size
  repeat' (first
| ((with_reducible apply opsF.op rfl); case hs => first | exact tHT | exact tHS)
| (with_reducible first | apply opsF.nil | apply seqF.nn | apply vcF.seq | apply vcF.region | apply vcF.skip | apply vcF.block | apply vcF.exit | apply vcF.ret | apply vcF.loop | apply seqF.e | apply seqF.r | apply blkF.nn | apply blkF.e | apply blkF.r | apply blkF.o rfl)
| ((with_reducible apply opsF.call); case hx => exact tAG)
| ((with_reducible apply vcF.cond); case hx => exact tEV) <;> ((intro hc; try simp only [Int.reduceLT, Int.reduceLE, Int.reduceEq, Int.reduceNe, Int.cast_ofNat_Int, Int.reduceNeg, reduceCtorEq, ne_eq, ge_iff_le, gt_iff_lt, beq_iff_eq, beq_eq_false_iff_ne, bne_iff_ne, bne_eq_false_iff_eq, nrm, *] at hc) <;> try (exfalso; omega))
| ((with_reducible first | apply retF.r | apply retF.nn); case hv => exact tRS))
  refine LpF.ind rfl (fun i : Nat => l.length - i) (fun i σ h' => h' = h ∧ σ 6 = .list 1 (srows l) tok ∧ σ 7 = .v (.int .i64 (l.length : Nat)) ∧ σ 8 = .v (.int .i64 (i : Nat)) ∧ σ 3 = .v (.int .i64 (bsizeS (l.take i) : Nat)) ∧ i ≤ l.length) ?_ (i := 0) ⟨rfl, rfl, by first | rfl | (rw [← m1]; rfl), rfl, rfl, Nat.zero_le _⟩
  rintro i σ h' ⟨rfl, h0, h1, h7, h8, hi⟩
  have hbt : bsizeS (l.take i) ≤ 141018963327934464 := by
    have h1 := bsize_bt hs i
    have h2 : l.length * (1000 + 2) ≤ 140737488351232 * (1000 + 2) := Nat.mul_le_mul_right _ hl
    omega
  rcases Nat.lt_or_ge i l.length with hlt | hge
  · obtain ⟨x, hx⟩ : ∃ x, l[i]? = some x := ⟨_, List.getElem?_eq_getElem hlt⟩
    have hxl := hs x (List.mem_of_getElem? hx)
    have htk := bsize_take hx
    generalize bsizeS (l.take i) = m at *
    repeat' (first
| ((with_reducible apply opsF.op rfl); case hs => first | exact tHT | exact tHS)
| (with_reducible first | apply opsF.nil | apply seqF.nn | apply vcF.seq | apply vcF.region | apply vcF.skip | apply vcF.block | apply vcF.exit | apply vcF.ret | apply vcF.loop | apply seqF.e | apply seqF.r | apply blkF.nn | apply blkF.e | apply blkF.r | apply blkF.o rfl)
| ((with_reducible apply opsF.call); case hx => exact tAG)
| ((with_reducible apply vcF.cond); case hx => exact tEV) <;> ((intro hc; try simp only [Int.reduceLT, Int.reduceLE, Int.reduceEq, Int.reduceNe, Int.cast_ofNat_Int, Int.reduceNeg, reduceCtorEq, ne_eq, ge_iff_le, gt_iff_lt, beq_iff_eq, beq_eq_false_iff_ne, bne_iff_ne, bne_eq_false_iff_eq, nrm, *] at hc) <;> try (exfalso; omega))
| ((with_reducible first | apply retF.r | apply retF.nn); case hv => exact tRS))
    refine ⟨i + 1, by omega, rfl, h0, h1, rfl, ?_, by omega⟩
    conv => lhs; whnf
    rw [htk]
    simp
    omega
  · obtain rfl : i = l.length := by omega
    rw [List.take_length] at h8
    repeat' (first
| ((with_reducible apply opsF.op rfl); case hs => first | exact tHT | exact tHS)
| (with_reducible first | apply opsF.nil | apply seqF.nn | apply vcF.seq | apply vcF.region | apply vcF.skip | apply vcF.block | apply vcF.exit | apply vcF.ret | apply vcF.loop | apply seqF.e | apply seqF.r | apply blkF.nn | apply blkF.e | apply blkF.r | apply blkF.o rfl)
| ((with_reducible apply opsF.call); case hx => exact tAG)
| ((with_reducible apply vcF.cond); case hx => exact tEV) <;> ((intro hc; try simp only [Int.reduceLT, Int.reduceLE, Int.reduceEq, Int.reduceNe, Int.cast_ofNat_Int, Int.reduceNeg, reduceCtorEq, ne_eq, ge_iff_le, gt_iff_lt, beq_iff_eq, beq_eq_false_iff_ne, bne_iff_ne, bne_eq_false_iff_eq, nrm, *] at hc) <;> try (exfalso; omega))
| ((with_reducible first | apply retF.r | apply retF.nn); case hv => exact tRS))
    all_goals exact ⟨rfl, rfl⟩
theorem rsize_call (l : List L8) (tok : Tok) (h : AH) (hl : l.length ≤ 140737488351232) (hs : ∀ s ∈ l, s.length ≤ 1000) : Call P w0 ref01_Size [.list 1 (srows l) tok] h (fun v h' => v = .v (.int .i64 (bsizeS l : Nat)) ∧ h' = h) := by
  have xl := srows_len
  have xg := srows_get
  have m1 := srows_len l
  refine Call.bodyF b_ref01_Size rfl rfl ?_
  unfold c_ref01_Size
  repeat' (first
| ((with_reducible apply opsF.op rfl); case hs => first | exact tHT | exact tHS)
| (with_reducible first | apply opsF.nil | apply seqF.nn | apply vcF.seq | apply vcF.region | apply vcF.skip | apply vcF.block | apply vcF.exit | apply vcF.ret | apply vcF.loop | apply seqF.e | apply seqF.r | apply blkF.nn | apply blkF.e | apply blkF.r | apply blkF.o rfl)
| ((with_reducible apply opsF.call); case hx => exact tAG)
| ((with_reducible apply vcF.cond); case hx => exact tEV) <;> ((intro hc; try simp only [Int.reduceLT, Int.reduceLE, Int.reduceEq, Int.reduceNe, Int.cast_ofNat_Int, Int.reduceNeg, reduceCtorEq, ne_eq, ge_iff_le, gt_iff_lt, beq_iff_eq, beq_eq_false_iff_ne, bne_iff_ne, bne_eq_false_iff_eq, nrm, *] at hc) <;> try (exfalso; omega))
| ((with_reducible first | apply retF.r | apply retF.nn); case hv => exact tRS))
  refine LpF.ind rfl (fun i : Nat => l.length - i) (fun i σ h' => h' = h ∧ σ 0 = .list 1 (srows l) tok ∧ σ 4 = .v (.int .i64 (i : Nat)) ∧ σ 3 = .v (.int .i64 (bsizeS (l.take i) : Nat)) ∧ i ≤ l.length) ?_ (i := 0) ⟨rfl, rfl, rfl, rfl, Nat.zero_le _⟩
  rintro i σ h' ⟨rfl, h0, h7, h8, hi⟩
  have hbt : bsizeS (l.take i) ≤ 141018963327934464 := by
    have h1 := bsize_bt hs i
    have h2 : l.length * (1000 + 2) ≤ 140737488351232 * (1000 + 2) := Nat.mul_le_mul_right _ hl
    omega
  rcases Nat.lt_or_ge i l.length with hlt | hge
  · obtain ⟨x, hx⟩ : ∃ x, l[i]? = some x := ⟨_, List.getElem?_eq_getElem hlt⟩
    have hxl := hs x (List.mem_of_getElem? hx)
    have htk := bsize_take hx
    generalize bsizeS (l.take i) = m at *
    repeat' (first
| ((with_reducible apply opsF.op rfl); case hs => first | exact tHT | exact tHS)
| (with_reducible first | apply opsF.nil | apply seqF.nn | apply vcF.seq | apply vcF.region | apply vcF.skip | apply vcF.block | apply vcF.exit | apply vcF.ret | apply vcF.loop | apply seqF.e | apply seqF.r | apply blkF.nn | apply blkF.e | apply blkF.r | apply blkF.o rfl)
| ((with_reducible apply opsF.call); case hx => exact tAG)
| ((with_reducible apply vcF.cond); case hx => exact tEV) <;> ((intro hc; try simp only [Int.reduceLT, Int.reduceLE, Int.reduceEq, Int.reduceNe, Int.cast_ofNat_Int, Int.reduceNeg, reduceCtorEq, ne_eq, ge_iff_le, gt_iff_lt, beq_iff_eq, beq_eq_false_iff_ne, bne_iff_ne, bne_eq_false_iff_eq, nrm, *] at hc) <;> try (exfalso; omega))
| ((with_reducible first | apply retF.r | apply retF.nn); case hv => exact tRS))
    refine ⟨i + 1, by omega, rfl, h0, rfl, ?_, by omega⟩
    conv => lhs; whnf
    rw [htk]
    simp
  · obtain rfl : i = l.length := by omega
    rw [List.take_length] at h8
    repeat' (first
| ((with_reducible apply opsF.op rfl); case hs => first | exact tHT | exact tHS)
| (with_reducible first | apply opsF.nil | apply seqF.nn | apply vcF.seq | apply vcF.region | apply vcF.skip | apply vcF.block | apply vcF.exit | apply vcF.ret | apply vcF.loop | apply seqF.e | apply seqF.r | apply blkF.nn | apply blkF.e | apply blkF.r | apply blkF.o rfl)
| ((with_reducible apply opsF.call); case hx => exact tAG)
| ((with_reducible apply vcF.cond); case hx => exact tEV) <;> ((intro hc; try simp only [Int.reduceLT, Int.reduceLE, Int.reduceEq, Int.reduceNe, Int.cast_ofNat_Int, Int.reduceNeg, reduceCtorEq, ne_eq, ge_iff_le, gt_iff_lt, beq_iff_eq, beq_eq_false_iff_ne, bne_iff_ne, bne_eq_false_iff_eq, nrm, *] at hc) <;> try (exfalso; omega))
| ((with_reducible first | apply retF.r | apply retF.nn); case hv => exact tRS))
    all_goals exact ⟨rfl, rfl⟩
theorem ok_len {l : List L8} (h : l.all lineOkS = true) : ∀ s ∈ l, s.length ≤ 1000 := fun s hs => by
  have := List.all_eq_true.1 h s hs
  simp only [lineOkS, Bool.and_eq_true, decide_eq_true_eq] at this
  omega
theorem dgood_call (l : List L8) (tok : Tok) (h : AH) (hl : l.length ≤ 140737488351232) (hs : ∀ s ∈ l, s.length ≤ 140737488351232) : Call P w0 dots_Good [.list 1 (srows l) tok] h (fun v h' => v = .v (.bool (bodyS l)) ∧ h' = h) := by
  have xl := srows_len
  have xg := srows_get
  have m1 := srows_len l
  refine Call.bodyF b_dots_Good rfl rfl ?_
  unfold c_dots_Good
  repeat' (first
| ((with_reducible apply opsF.op rfl); case hs => first | exact tHT | exact tHS)
| (with_reducible first | apply opsF.nil | apply seqF.nn | apply vcF.seq | apply vcF.region | apply vcF.skip | apply vcF.block | apply vcF.exit | apply vcF.ret | apply vcF.loop | apply seqF.e | apply seqF.r | apply blkF.nn | apply blkF.e | apply blkF.r | apply blkF.o rfl)
| ((with_reducible apply opsF.call); case hx => exact tAG)
| ((with_reducible apply opsF.want); (case hg => exact tEV); case hb => exact tNB)
| ((with_reducible apply opsF.skip); (case hg => exact tEV); case hb => exact tNB)
| (first | ((with_reducible apply opsF.case); case hg => exact tEV) | ((with_reducible apply vcF.cond); case hx => exact tEV)) <;> ((intro hc; try simp only [Int.reduceLT, Int.reduceLE, Int.reduceEq, Int.reduceNe, Int.cast_ofNat_Int, Int.reduceNeg, reduceCtorEq, ne_eq, ge_iff_le, gt_iff_lt, beq_iff_eq, beq_eq_false_iff_ne, bne_iff_ne, bne_eq_false_iff_eq, nrm, *] at hc) <;> try (exfalso; omega))
| ((with_reducible apply opsF.und); case hg => rfl)
| ((with_reducible first | apply retF.r | apply retF.nn); case hv => exact tRS))
  refine LpF.ind rfl (fun i : Nat => l.length - i) (fun i σ h' => h' = h ∧ σ 0 = .list 1 (srows l) tok ∧ σ 5 = .list 1 (srows l) tok ∧ σ 6 = .v (.int .i64 (l.length : Nat)) ∧ σ 7 = .v (.int .i64 (i : Nat)) ∧ i ≤ l.length ∧ (l.take i).all lineOkS = true) ?_ (i := 0) ⟨rfl, rfl, rfl, by first | rfl | (rw [← m1]; rfl), rfl, Nat.zero_le _, rfl⟩
  rintro i σ h' ⟨rfl, h0, h5, h6, h7, hi, ha⟩
  rcases Nat.lt_or_ge i l.length with hlt | hge
  · obtain ⟨x, hx⟩ : ∃ x, l[i]? = some x := ⟨_, List.getElem?_eq_getElem hlt⟩
    have hxl := hs x (List.mem_of_getElem? hx)
    have h1 := fun h => idxB_call (w0 := w0) x 0 h
    have h2 := fun h => idxB_call (w0 := w0) x 10 h
    have h3 := fun h => idxB_call (w0 := w0) x 13 h
    have c1 := idx_ge (c := 0) (s := x)
    have c2 := idx_ge (c := 10) (s := x)
    have c3 := idx_ge (c := 13) (s := x)
    generalize Lib.indexByte x 0 = n1 at *
    generalize Lib.indexByte x 10 = n2 at *
    generalize Lib.indexByte x 13 = n3 at *
    have hno : lineOkS x = false → bodyS l = false := fun e => by
      rw [bodyS, all_bad hx e]; rfl
    have hok : lineOkS x = (!(decide (0 ≤ n1)) && !(decide (0 ≤ n2)) && !(decide (0 ≤ n3)) && decide (x.length ≤ 997)) := by rw [lineOkS, c1, c2, c3]
    clear c1 c2 c3
    cases hb : lineOkS x with
    | false =>
      rw [hno hb]
      rw [hb] at hok
      clear hno ha hs
      have hok2 : 0 ≤ n1 ∨ 0 ≤ n2 ∨ 0 ≤ n3 ∨ 997 < x.length := by
        have := hok.symm
        simp at this
        omega
      clear hok hb
      repeat' (first
| ((with_reducible apply opsF.op rfl); case hs => first | exact tHT | exact tHS)
| (with_reducible first | apply opsF.nil | apply seqF.nn | apply vcF.seq | apply vcF.region | apply vcF.skip | apply vcF.block | apply vcF.exit | apply vcF.ret | apply vcF.loop | apply seqF.e | apply seqF.r | apply blkF.nn | apply blkF.e | apply blkF.r | apply blkF.o rfl)
| ((with_reducible apply opsF.call); case hx => exact tAG)
| ((with_reducible apply opsF.want); (case hg => exact tEV); case hb => exact tNB)
| ((with_reducible apply opsF.skip); (case hg => exact tEV); case hb => exact tNB)
| (first | ((with_reducible apply opsF.case); case hg => exact tEV) | ((with_reducible apply vcF.cond); case hx => exact tEV)) <;> ((intro hc; try simp only [Int.reduceLT, Int.reduceLE, Int.reduceEq, Int.reduceNe, Int.cast_ofNat_Int, Int.reduceNeg, reduceCtorEq, ne_eq, ge_iff_le, gt_iff_lt, beq_iff_eq, beq_eq_false_iff_ne, bne_iff_ne, bne_eq_false_iff_eq, nrm, *] at hc) <;> try (exfalso; omega))
| ((with_reducible apply opsF.und); case hg => rfl)
| ((with_reducible first | apply retF.r | apply retF.nn); case hv => exact tRS)
| ((refine Call.use (h1 _) ?_))
| ((refine Call.use (h2 _) ?_))
| ((refine Call.use (h3 _) ?_)))
      all_goals first | exact ⟨rfl, rfl⟩ | (exfalso; omega)
    | true =>
      rw [hb] at hok
      have hok2 : ¬ 0 ≤ n1 ∧ ¬ 0 ≤ n2 ∧ ¬ 0 ≤ n3 ∧ x.length ≤ 997 := by
        have := hok.symm
        simp at this
        omega
      have hnx : (l.take (i + 1)).all lineOkS = true := by rw [List.take_add_one, hx, List.all_append, ha]; simp [hb]
      obtain ⟨q1, q2, q3, q4⟩ := hok2
      clear hok hno hs ha hb
      repeat' (first
| ((with_reducible apply opsF.op rfl); case hs => first | exact tHT | exact tHS)
| (with_reducible first | apply opsF.nil | apply seqF.nn | apply vcF.seq | apply vcF.region | apply vcF.skip | apply vcF.block | apply vcF.exit | apply vcF.ret | apply vcF.loop | apply seqF.e | apply seqF.r | apply blkF.nn | apply blkF.e | apply blkF.r | apply blkF.o rfl)
| ((with_reducible apply opsF.call); case hx => exact tAG)
| ((with_reducible apply opsF.want); (case hg => exact tEV); case hb => exact tNB)
| ((with_reducible apply opsF.skip); (case hg => exact tEV); case hb => exact tNB)
| (first | ((with_reducible apply opsF.case); case hg => exact tEV) | ((with_reducible apply vcF.cond); case hx => exact tEV)) <;> ((intro hc; try simp only [Int.reduceLT, Int.reduceLE, Int.reduceEq, Int.reduceNe, Int.cast_ofNat_Int, Int.reduceNeg, reduceCtorEq, ne_eq, ge_iff_le, gt_iff_lt, beq_iff_eq, beq_eq_false_iff_ne, bne_iff_ne, bne_eq_false_iff_eq, nrm, *] at hc) <;> try (exfalso; omega))
| ((with_reducible apply opsF.und); case hg => rfl)
| ((with_reducible first | apply retF.r | apply retF.nn); case hv => exact tRS)
| ((refine Call.use (h1 _) ?_))
| ((refine Call.use (h2 _) ?_))
| ((refine Call.use (h3 _) ?_)))
      all_goals exact ⟨i + 1, by omega, rfl, h0, h5, h6, rfl, by omega, hnx⟩
  · obtain rfl : i = l.length := by omega
    rw [List.take_length] at ha
    have hsz := fun h => dsize_call (w0 := w0) l tok h hl (ok_len ha)
    rw [bodyS, ha]
    clear ha hs
    generalize bsizeS l = q at *
    repeat' (first
| ((with_reducible apply opsF.op rfl); case hs => first | exact tHT | exact tHS)
| (with_reducible first | apply opsF.nil | apply seqF.nn | apply vcF.seq | apply vcF.region | apply vcF.skip | apply vcF.block | apply vcF.exit | apply vcF.ret | apply vcF.loop | apply seqF.e | apply seqF.r | apply blkF.nn | apply blkF.e | apply blkF.r | apply blkF.o rfl)
| ((with_reducible apply opsF.call); case hx => exact tAG)
| ((with_reducible apply opsF.want); (case hg => exact tEV); case hb => exact tNB)
| ((with_reducible apply opsF.skip); (case hg => exact tEV); case hb => exact tNB)
| (first | ((with_reducible apply opsF.case); case hg => exact tEV) | ((with_reducible apply vcF.cond); case hx => exact tEV)) <;> ((intro hc; try simp only [Int.reduceLT, Int.reduceLE, Int.reduceEq, Int.reduceNe, Int.cast_ofNat_Int, Int.reduceNeg, reduceCtorEq, ne_eq, ge_iff_le, gt_iff_lt, beq_iff_eq, beq_eq_false_iff_ne, bne_iff_ne, bne_eq_false_iff_eq, nrm, *] at hc) <;> try (exfalso; omega))
| ((with_reducible apply opsF.und); case hg => rfl)
| ((with_reducible first | apply retF.r | apply retF.nn); case hv => exact tRS)
| ((refine Call.use (hsz _) ?_)))
    all_goals (refine ⟨?_, rfl⟩; simp; try omega)
theorem rgood_call (l : List L8) (tok : Tok) (h : AH) (hl : l.length ≤ 140737488351232) (hs : ∀ s ∈ l, s.length ≤ 140737488351232) : Call P w0 ref01_Good [.list 1 (srows l) tok] h (fun v h' => v = .v (.bool (bodyS l)) ∧ h' = h) := by
  have xl := srows_len
  have xg := srows_get
  have m1 := srows_len l
  refine Call.bodyF b_ref01_Good rfl rfl ?_
  unfold c_ref01_Good
  repeat' (first
| ((with_reducible apply opsF.op rfl); case hs => first | exact tHT | exact tHS)
| (with_reducible first | apply opsF.nil | apply seqF.nn | apply vcF.seq | apply vcF.region | apply vcF.skip | apply vcF.block | apply vcF.exit | apply vcF.ret | apply vcF.loop | apply seqF.e | apply seqF.r | apply blkF.nn | apply blkF.e | apply blkF.r | apply blkF.o rfl)
| ((with_reducible apply opsF.call); case hx => exact tAG)
| ((with_reducible apply opsF.want); (case hg => exact tEV); case hb => exact tNB)
| ((with_reducible apply opsF.skip); (case hg => exact tEV); case hb => exact tNB)
| (first | ((with_reducible apply opsF.case); case hg => exact tEV) | ((with_reducible apply vcF.cond); case hx => exact tEV)) <;> ((intro hc; try simp only [Int.reduceLT, Int.reduceLE, Int.reduceEq, Int.reduceNe, Int.cast_ofNat_Int, Int.reduceNeg, reduceCtorEq, ne_eq, ge_iff_le, gt_iff_lt, beq_iff_eq, beq_eq_false_iff_ne, bne_iff_ne, bne_eq_false_iff_eq, nrm, *] at hc) <;> try (exfalso; omega))
| ((with_reducible apply opsF.und); case hg => rfl)
| ((with_reducible first | apply retF.r | apply retF.nn); case hv => exact tRS))
  refine LpF.ind rfl (fun i : Nat => l.length - i) (fun i σ h' => h' = h ∧ σ 0 = .list 1 (srows l) tok ∧ σ 3 = .v (.int .i64 (i : Nat)) ∧ i ≤ l.length ∧ (l.take i).all lineOkS = true) ?_ (i := 0) ⟨rfl, rfl, rfl, Nat.zero_le _, rfl⟩
  rintro i σ h' ⟨rfl, h0, h7, hi, ha⟩
  rcases Nat.lt_or_ge i l.length with hlt | hge
  · obtain ⟨x, hx⟩ : ∃ x, l[i]? = some x := ⟨_, List.getElem?_eq_getElem hlt⟩
    have hxl := hs x (List.mem_of_getElem? hx)
    have h1 := fun h => rin_call (w0 := w0) x 0 h (by omega)
    have h2 := fun h => rin_call (w0 := w0) x 10 h (by omega)
    have h3 := fun h => rin_call (w0 := w0) x 13 h (by omega)
    have hno : lineOkS x = false → bodyS l = false := fun e => by
      rw [bodyS, all_bad hx e]; rfl
    have hok : lineOkS x = (!x.contains 0 && !x.contains 10 && !x.contains 13 && decide (x.length ≤ 997)) := rfl
    generalize x.contains 0 = n1 at *
    generalize x.contains 10 = n2 at *
    generalize x.contains 13 = n3 at *
    cases hb : lineOkS x with
    | false =>
      rw [hno hb]
      rw [hb] at hok
      clear hno ha hs hb
      have hok2 : n1 = true ∨ n2 = true ∨ n3 = true ∨ 997 < x.length := by
        cases n1 <;> cases n2 <;> cases n3 <;> simp at hok ⊢
        omega
      clear hok
      rcases Nat.lt_or_ge 997 x.length with hg | hg
      · repeat' (first
| ((with_reducible apply opsF.op rfl); case hs => first | exact tHT | exact tHS)
| (with_reducible first | apply opsF.nil | apply seqF.nn | apply vcF.seq | apply vcF.region | apply vcF.skip | apply vcF.block | apply vcF.exit | apply vcF.ret | apply vcF.loop | apply seqF.e | apply seqF.r | apply blkF.nn | apply blkF.e | apply blkF.r | apply blkF.o rfl)
| ((with_reducible apply opsF.call); case hx => exact tAG)
| ((with_reducible apply opsF.want); (case hg => exact tEV); case hb => exact tNB)
| ((with_reducible apply opsF.skip); (case hg => exact tEV); case hb => exact tNB)
| (first | ((with_reducible apply opsF.case); case hg => exact tEV) | ((with_reducible apply vcF.cond); case hx => exact tEV)) <;> ((intro hc; try simp only [Int.reduceLT, Int.reduceLE, Int.reduceEq, Int.reduceNe, Int.cast_ofNat_Int, Int.reduceNeg, reduceCtorEq, ne_eq, ge_iff_le, gt_iff_lt, beq_iff_eq, beq_eq_false_iff_ne, bne_iff_ne, bne_eq_false_iff_eq, nrm, *] at hc) <;> try (exfalso; omega))
| ((with_reducible apply opsF.und); case hg => rfl)
| ((with_reducible first | apply retF.r | apply retF.nn); case hv => exact tRS)
| ((refine Call.use (h1 _) ?_))
| ((refine Call.use (h2 _) ?_))
| ((refine Call.use (h3 _) ?_)))
        all_goals exact ⟨rfl, rfl⟩
      · cases n1 <;> cases n2 <;> cases n3 <;> first
          | (exfalso; simp at hok2; omega)
          | (repeat' (first
| ((with_reducible apply opsF.op rfl); case hs => first | exact tHT | exact tHS)
| (with_reducible first | apply opsF.nil | apply seqF.nn | apply vcF.seq | apply vcF.region | apply vcF.skip | apply vcF.block | apply vcF.exit | apply vcF.ret | apply vcF.loop | apply seqF.e | apply seqF.r | apply blkF.nn | apply blkF.e | apply blkF.r | apply blkF.o rfl)
| ((with_reducible apply opsF.call); case hx => exact tAG)
| ((with_reducible apply opsF.want); (case hg => exact tEV); case hb => exact tNB)
| ((with_reducible apply opsF.skip); (case hg => exact tEV); case hb => exact tNB)
| (first | ((with_reducible apply opsF.case); case hg => exact tEV) | ((with_reducible apply vcF.cond); case hx => exact tEV)) <;> ((intro hc; try simp only [Int.reduceLT, Int.reduceLE, Int.reduceEq, Int.reduceNe, Int.cast_ofNat_Int, Int.reduceNeg, reduceCtorEq, ne_eq, ge_iff_le, gt_iff_lt, beq_iff_eq, beq_eq_false_iff_ne, bne_iff_ne, bne_eq_false_iff_eq, nrm, *] at hc) <;> try (exfalso; omega))
| ((with_reducible apply opsF.und); case hg => rfl)
| ((with_reducible first | apply retF.r | apply retF.nn); case hv => exact tRS)
| ((refine Call.use (h1 _) ?_))
| ((refine Call.use (h2 _) ?_))
| ((refine Call.use (h3 _) ?_)))
             all_goals exact ⟨rfl, rfl⟩)
    | true =>
      rw [hb] at hok
      have hok2 : n1 = false ∧ n2 = false ∧ n3 = false ∧ x.length ≤ 997 := by
        cases n1 <;> cases n2 <;> cases n3 <;> simp at hok ⊢
        exact hok
      have hnx : (l.take (i + 1)).all lineOkS = true := by rw [List.take_add_one, hx, List.all_append, ha]; simp [hb]
      obtain ⟨rfl, rfl, rfl, q4⟩ := hok2
      clear hok hno hs ha hb
      repeat' (first
| ((with_reducible apply opsF.op rfl); case hs => first | exact tHT | exact tHS)
| (with_reducible first | apply opsF.nil | apply seqF.nn | apply vcF.seq | apply vcF.region | apply vcF.skip | apply vcF.block | apply vcF.exit | apply vcF.ret | apply vcF.loop | apply seqF.e | apply seqF.r | apply blkF.nn | apply blkF.e | apply blkF.r | apply blkF.o rfl)
| ((with_reducible apply opsF.call); case hx => exact tAG)
| ((with_reducible apply opsF.want); (case hg => exact tEV); case hb => exact tNB)
| ((with_reducible apply opsF.skip); (case hg => exact tEV); case hb => exact tNB)
| (first | ((with_reducible apply opsF.case); case hg => exact tEV) | ((with_reducible apply vcF.cond); case hx => exact tEV)) <;> ((intro hc; try simp only [Int.reduceLT, Int.reduceLE, Int.reduceEq, Int.reduceNe, Int.cast_ofNat_Int, Int.reduceNeg, reduceCtorEq, ne_eq, ge_iff_le, gt_iff_lt, beq_iff_eq, beq_eq_false_iff_ne, bne_iff_ne, bne_eq_false_iff_eq, nrm, *] at hc) <;> try (exfalso; omega))
| ((with_reducible apply opsF.und); case hg => rfl)
| ((with_reducible first | apply retF.r | apply retF.nn); case hv => exact tRS)
| ((refine Call.use (h1 _) ?_))
| ((refine Call.use (h2 _) ?_))
| ((refine Call.use (h3 _) ?_)))
      all_goals exact ⟨i + 1, by omega, rfl, h0, rfl, by omega, hnx⟩
  · obtain rfl : i = l.length := by omega
    rw [List.take_length] at ha
    have hsz := fun h => rsize_call (w0 := w0) l tok h hl (ok_len ha)
    rw [bodyS, ha]
    clear ha hs
    generalize bsizeS l = q at *
    repeat' (first
| ((with_reducible apply opsF.op rfl); case hs => first | exact tHT | exact tHS)
| (with_reducible first | apply opsF.nil | apply seqF.nn | apply vcF.seq | apply vcF.region | apply vcF.skip | apply vcF.block | apply vcF.exit | apply vcF.ret | apply vcF.loop | apply seqF.e | apply seqF.r | apply blkF.nn | apply blkF.e | apply blkF.r | apply blkF.o rfl)
| ((with_reducible apply opsF.call); case hx => exact tAG)
| ((with_reducible apply opsF.want); (case hg => exact tEV); case hb => exact tNB)
| ((with_reducible apply opsF.skip); (case hg => exact tEV); case hb => exact tNB)
| (first | ((with_reducible apply opsF.case); case hg => exact tEV) | ((with_reducible apply vcF.cond); case hx => exact tEV)) <;> ((intro hc; try simp only [Int.reduceLT, Int.reduceLE, Int.reduceEq, Int.reduceNe, Int.cast_ofNat_Int, Int.reduceNeg, reduceCtorEq, ne_eq, ge_iff_le, gt_iff_lt, beq_iff_eq, beq_eq_false_iff_ne, bne_iff_ne, bne_eq_false_iff_eq, nrm, *] at hc) <;> try (exfalso; omega))
| ((with_reducible apply opsF.und); case hg => rfl)
| ((with_reducible first | apply retF.r | apply retF.nn); case hv => exact tRS)
| ((refine Call.use (hsz _) ?_)))
    all_goals (refine ⟨?_, rfl⟩; simp; try omega)
/-! messages as values -/
end Go.Abs.F
/- Layer 7: a session with the next hop: the plain side. -/
namespace Go.Abs.F
open Go Go.Abs
set_option maxRecDepth 10000
set_option maxHeartbeats 20000000
set_option linter.unusedSimpArgs false
set_option linter.unusedVariables false
variable {w0 : World}
/-- A body as it goes. -/
def stuffGo : List L8 → L8
  | [] => [46, 13, 10]
  | s :: l => (if s.head? = some 46 then [46] else []) ++ (s ++ ([13, 10] ++ stuffGo l))
/-! what stays -/
/-! the first end of a line -/
/-- What is ahead of the first end of a line, and what is behind it. -/
def cutL : L8 → Option (L8 × L8)
  | [] => none
  | [_] => none
  | x :: y :: r => if x = 13 ∧ y = 10 then some ([], r) else (cutL (y :: r)).map fun p => (x :: p.1, p.2)
theorem cutL_some : ∀ {w a r : L8}, cutL w = some (a, r) → w = a ++ 13 :: 10 :: r
  | [], a, r, h => by cases h
  | [x], a, r, h => by cases h
  | x :: y :: t, a, r, h => by
    rw [cutL] at h
    split at h
    · rename_i hh
      obtain ⟨rfl, rfl⟩ := hh
      cases h
      rfl
    · cases hq : cutL (y :: t) with
      | none => rw [hq] at h; cases h
      | some p =>
        rw [hq] at h
        cases h
        have := cutL_some (w := y :: t) (a := p.1) (r := p.2) (by rw [hq])
        rw [this]
        rfl
theorem cutL_len {w a r : L8} (h : cutL w = some (a, r)) : r.length + 2 + a.length = w.length := by
  rw [cutL_some h]
  simp
  omega
end Go.Abs.F
