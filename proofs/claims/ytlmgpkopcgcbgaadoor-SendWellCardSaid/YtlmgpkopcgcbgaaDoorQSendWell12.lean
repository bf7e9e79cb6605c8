/- What the proof needs, part 12: Small things of bytes: what a library's contract gives; the first place of a byte; Replies' lines, read by the program and by the document; Layer 5: bodies; Layer 7: a session with the next hop: the plain side; A reader of replies. -/
import Derived.Test.YtlmgpkopcgcbgaaDoorQSendWell10
import Derived.Test.YtlmgpkopcgcbgaaDoorShelf
import Derived.Test.YtlmgpkopcgcbgaaDoorQSendWell11
import Derived.Lib.IndexLaws
/- Small things of bytes: what a library's contract gives; the first place of a byte. -/
namespace Go.Abs
open Go Go.RowKit
set_option linter.unusedVariables false
theorem WR.grown {w0 : World} {Γ : Con} {h : AH} {w w' : World} (H : WR w0 Γ h w) (hb : Below w.heap.size w w') : WR w0 Γ h w' where
  below := ⟨hb.os.trans H.below.os, hb.tape.trans H.below.tape, hb.output.trans H.below.output, Nat.le_trans H.below.size hb.size, fun k hk => (hb.block k (Nat.lt_of_lt_of_le hk H.below.size)).trans (H.below.block k hk)⟩
  fcell := fun hx => (World.cell?_of_block (hb.block _ (H.flt hx))).trans (H.fcell hx)
  obj := fun ho => by
    obtain ⟨b, h1, h2, h3, h4⟩ := H.obj ho
    exact ⟨b, h1, h2, h3.at_ (hb.block _ h3.lt), h4⟩
  inj := H.inj
  rlt := fun hi => ⟨(H.rlt hi).1, Nat.lt_of_lt_of_le (H.rlt hi).2 hb.size⟩
  tok := fun ht => by
    obtain ⟨h1, ⟨h2, vs, e, fr, h3, h4, h5⟩, h6⟩ := H.tok ht
    exact ⟨h1, ⟨h2, vs, e, fr, (hb.block _ (size_pos_of h3)).trans h3, h4, h5⟩, h6⟩
  tinj := H.tinj
  tnew := H.tnew
theorem Call.plain {P : Program} {w0 : World} {f : FuncId} {args : List AV} {h : AH} {x : Value} {vs : List Value} (hcall : callable P f) (ha : args = vs.map AV.v) (hc : ∀ (Γ : Con) (w : World), WR w0 Γ h w → Calls P f vs.toArray w fun e w' => e = .returned x ∧ Below w.heap.size w w') : Call P w0 f args h (fun v h' => v = .v x ∧ h' = h) := by
  refine ⟨hcall, fun Γ w us H hv => ?_⟩
  have hu : us = vs := by
    subst ha
    have hl := hv.len
    simp only [List.length_map] at hl
    refine List.ext_getElem hl fun i h1 h2 => ?_
    have := hv.at_ i (by simpa using h2) h1
    simp only [List.getElem_map] at this
    exact this.inv_v
  subst hu
  refine (hc Γ w H).mono fun e w' hh => ?_
  obtain ⟨rfl, hb⟩ := hh
  exact ⟨_, Γ, _, h, rfl, .refl Γ, .v _, H.grown hb, rfl, rfl⟩
end Go.Abs
namespace Go.Abs.F
open Go Go.Abs
set_option maxRecDepth 10000
set_option maxHeartbeats 20000000
set_option linter.unusedSimpArgs false
set_option linter.unusedVariables false
variable {w0 : World}
def cutB (c : UInt8) : List UInt8 → List UInt8 × List UInt8 × Bool
  | [] => ([], [], false)
  | x :: r => if x = c then ([], r, true) else (x :: (cutB c r).1, (cutB c r).2.1, (cutB c r).2.2)
theorem cutB_hit {c : UInt8} {r : List UInt8} : ∀ {a : List UInt8}, c ∉ a → cutB c (a ++ c :: r) = (a, r, true)
  | [], _ => by simp [cutB]
  | x :: a, h => by
    simp only [List.mem_cons, not_or] at h
    simp only [List.cons_append, cutB, if_neg (fun e => h.1 (Eq.symm e)), cutB_hit h.2]
theorem cutB_miss {c : UInt8} : ∀ {a : List UInt8}, c ∉ a → cutB c a = (a, [], false)
  | [], _ => rfl
  | x :: a, h => by
    simp only [List.mem_cons, not_or] at h
    simp only [cutB, if_neg (fun e => h.1 (Eq.symm e)), cutB_miss h.2]
theorem cutB_cases (c : UInt8) : ∀ s : List UInt8, (c ∉ s ∧ cutB c s = (s, [], false)) ∨ ∃ a r, s = a ++ c :: r ∧ c ∉ a ∧ cutB c s = (a, r, true)
  | [] => .inl ⟨by simp, rfl⟩
  | x :: s => by
    by_cases hx : x = c
    · subst hx
      exact .inr ⟨[], s, rfl, by simp, by simp [cutB]⟩
    · rcases cutB_cases c s with ⟨h1, h2⟩ | ⟨a, r, h1, h2, h3⟩
      · have : c ∉ x :: s := by simp only [List.mem_cons, not_or]; exact ⟨fun e => hx e.symm, h1⟩
        exact .inl ⟨this, cutB_miss this⟩
      · have : c ∉ x :: a := by simp only [List.mem_cons, not_or]; exact ⟨fun e => hx e.symm, h2⟩
        refine .inr ⟨x :: a, r, by rw [h1]; rfl, this, ?_⟩
        rw [h1, ← List.cons_append]
        exact cutB_hit this
theorem bs_list (s : List UInt8) : (bs s).data.toList = s := by simp [bs]
theorem idx_miss {c : UInt8} : ∀ {s : List UInt8}, c ∉ s → Lib.indexByte s c = -1
  | [], _ => rfl
  | x :: s, h => by
    simp only [List.mem_cons, not_or] at h
    have hx : (x == c) = false := by simpa using fun e => h.1 (Eq.symm e)
    rw [Lib.indexByte, hx, idx_miss h.2]
    rfl
theorem idx_hit {c : UInt8} {r : List UInt8} : ∀ {a : List UInt8}, c ∉ a → Lib.indexByte (a ++ c :: r) c = (a.length : Int)
  | [], _ => by simp [Lib.indexByte]
  | x :: a, h => by
    simp only [List.mem_cons, not_or] at h
    have hx : (x == c) = false := by simpa using fun e => h.1 (Eq.symm e)
    rw [List.cons_append, Lib.indexByte, hx, idx_hit h.2]
    have : ((a.length : Int) == -1) = false := by simp
    rw [this]
    simp
theorem drop_step {α : Type} {l : List α} {i : Nat} {x : α} (hx : l[i]? = some x) : l.drop i = x :: l.drop (i + 1) := by
  obtain ⟨h, rfl⟩ := List.getElem?_eq_some_iff.1 hx
  exact List.drop_eq_getElem_cons h
theorem idxB_call (s : List UInt8) (c : UInt8) (h : AH) : Call P w0 strings_IndexByte [.v (.string (bs s)), .v (.int .u8 (c.toNat : Int))] h (fun v h' => v = .v (.int .i64 (Lib.indexByte s c)) ∧ h' = h) := by
  refine Call.plain (vs := [.string (bs s), .int .u8 (c.toNat : Int)]) ⟨_, Go.Proofs.Tryd.func51, by kernel_rfl, by kernel_rfl⟩ rfl fun Γ w H => ?_
  refine (Go.Proofs.Tryd.strings_IndexByte (bs s) (c.toNat : Int) w).mono fun e w' hh => ?_
  obtain ⟨rfl, rfl⟩ := hh
  refine ⟨?_, .refl _ _⟩
  rw [bs_list, show ((c.toNat : Int)).toNat.toUInt8 = c from u8_of c]
theorem idx_ge {c : UInt8} {s : List UInt8} : decide (0 ≤ Lib.indexByte s c) = s.contains c := by
  rcases cutB_cases c s with ⟨h1, _⟩ | ⟨a, r, rfl, h2, _⟩
  · rw [idx_miss h1]
    simp [h1]
  · rw [idx_hit h2]
    simp
theorem u8_iff {x c : UInt8} : ((x.toNat : Int) = (c.toNat : Int)) ↔ x = c := ⟨fun e => UInt8.toNat_inj.1 (by omega), fun e => by rw [e]⟩
theorem rin_call (s : List UInt8) (c : UInt8) (h : AH) (hl : s.length ≤ 140737488351232) : Call P w0 ref01_in [.v (.string (bs s)), .v (.int .u8 (c.toNat : Int))] h (fun v h' => v = .v (.bool (s.contains c)) ∧ h' = h) := by
  refine Call.bodyF b_ref01_in rfl rfl ?_
  unfold c_ref01_in
  repeat' (first
| ((with_reducible apply opsF.op rfl); case hs => first | exact tHT | exact tHS)
| (with_reducible first | apply opsF.nil | apply seqF.nn | apply vcF.seq | apply vcF.region | apply vcF.skip | apply vcF.block | apply vcF.exit | apply vcF.ret | apply vcF.loop | apply seqF.e | apply seqF.r | apply blkF.nn | apply blkF.e | apply blkF.r | apply blkF.o rfl)
| ((with_reducible apply opsF.call); case hx => exact tAG)
| ((with_reducible apply vcF.cond); case hx => exact tEV) <;> ((intro hc; try simp only [Int.reduceLT, Int.reduceLE, Int.reduceEq, Int.reduceNe, Int.cast_ofNat_Int, Int.reduceNeg, reduceCtorEq, ne_eq, ge_iff_le, gt_iff_lt, beq_iff_eq, beq_eq_false_iff_ne, bne_iff_ne, bne_eq_false_iff_eq, nrm, *] at hc) <;> try (exfalso; omega))
| ((with_reducible first | apply retF.r | apply retF.nn); case hv => exact tRS))
  refine LpF.ind rfl (fun i : Nat => s.length - i) (fun i σ h' => h' = h ∧ σ 0 = .v (.string (bs s)) ∧ σ 1 = .v (.int .u8 (c.toNat : Int)) ∧ σ 5 = .v (.int .i64 (i : Nat)) ∧ i ≤ s.length ∧ c ∉ s.take i) ?_ (i := 0) ⟨rfl, rfl, rfl, rfl, Nat.zero_le _, by simp⟩
  rintro i σ h' ⟨rfl, g0, g1, g5, hi, hn⟩
  rcases Nat.lt_or_ge i s.length with hlt | hge
  · obtain ⟨x, hx⟩ : ∃ x, s[i]? = some x := ⟨_, List.getElem?_eq_getElem hlt⟩
    by_cases hxc : (x.toNat : Int) = (c.toNat : Int)
    · have hc : s.contains c = true := by
        rw [List.contains_iff_mem, ← u8_iff.1 hxc]
        exact List.mem_of_getElem? hx
      rw [hc]
      repeat' (first
| ((with_reducible apply opsF.op rfl); case hs => first | exact tHT | exact tHS)
| (with_reducible first | apply opsF.nil | apply seqF.nn | apply vcF.seq | apply vcF.region | apply vcF.skip | apply vcF.block | apply vcF.exit | apply vcF.ret | apply vcF.loop | apply seqF.e | apply seqF.r | apply blkF.nn | apply blkF.e | apply blkF.r | apply blkF.o rfl)
| ((with_reducible apply opsF.call); case hx => exact tAG)
| ((with_reducible apply vcF.cond); case hx => exact tEV) <;> ((intro hc; try simp only [Int.reduceLT, Int.reduceLE, Int.reduceEq, Int.reduceNe, Int.cast_ofNat_Int, Int.reduceNeg, reduceCtorEq, ne_eq, ge_iff_le, gt_iff_lt, beq_iff_eq, beq_eq_false_iff_ne, bne_iff_ne, bne_eq_false_iff_eq, nrm, *] at hc) <;> try (exfalso; omega))
| ((with_reducible first | apply retF.r | apply retF.nn); case hv => exact tRS))
      all_goals exact ⟨rfl, rfl⟩
    · repeat' (first
| ((with_reducible apply opsF.op rfl); case hs => first | exact tHT | exact tHS)
| (with_reducible first | apply opsF.nil | apply seqF.nn | apply vcF.seq | apply vcF.region | apply vcF.skip | apply vcF.block | apply vcF.exit | apply vcF.ret | apply vcF.loop | apply seqF.e | apply seqF.r | apply blkF.nn | apply blkF.e | apply blkF.r | apply blkF.o rfl)
| ((with_reducible apply opsF.call); case hx => exact tAG)
| ((with_reducible apply vcF.cond); case hx => exact tEV) <;> ((intro hc; try simp only [Int.reduceLT, Int.reduceLE, Int.reduceEq, Int.reduceNe, Int.cast_ofNat_Int, Int.reduceNeg, reduceCtorEq, ne_eq, ge_iff_le, gt_iff_lt, beq_iff_eq, beq_eq_false_iff_ne, bne_iff_ne, bne_eq_false_iff_eq, nrm, *] at hc) <;> try (exfalso; omega))
| ((with_reducible first | apply retF.r | apply retF.nn); case hv => exact tRS))
      refine ⟨i + 1, by omega, rfl, g0, g1, rfl, by omega, ?_⟩
      rw [List.take_add_one, hx, Option.toList_some, List.mem_append, List.mem_singleton]
      rintro (e | e)
      · exact hn e
      · exact hxc (u8_iff.2 e.symm)
  · obtain rfl : i = s.length := by omega
    rw [List.take_length] at hn
    have hc : s.contains c = false := by
      rw [Bool.eq_false_iff]
      intro e
      exact hn (List.contains_iff_mem.1 e)
    rw [hc]
    repeat' (first
| ((with_reducible apply opsF.op rfl); case hs => first | exact tHT | exact tHS)
| (with_reducible first | apply opsF.nil | apply seqF.nn | apply vcF.seq | apply vcF.region | apply vcF.skip | apply vcF.block | apply vcF.exit | apply vcF.ret | apply vcF.loop | apply seqF.e | apply seqF.r | apply blkF.nn | apply blkF.e | apply blkF.r | apply blkF.o rfl)
| ((with_reducible apply opsF.call); case hx => exact tAG)
| ((with_reducible apply vcF.cond); case hx => exact tEV) <;> ((intro hc; try simp only [Int.reduceLT, Int.reduceLE, Int.reduceEq, Int.reduceNe, Int.cast_ofNat_Int, Int.reduceNeg, reduceCtorEq, ne_eq, ge_iff_le, gt_iff_lt, beq_iff_eq, beq_eq_false_iff_ne, bne_iff_ne, bne_eq_false_iff_eq, nrm, *] at hc) <;> try (exfalso; omega))
| ((with_reducible first | apply retF.r | apply retF.nn); case hv => exact tRS))
    all_goals exact ⟨rfl, rfl⟩
theorem all_bad {α : Type} {p : α → Bool} {l : List α} {i : Nat} {x : α} (hx : l[i]? = some x) (h : p x = false) : l.all p = false := by
  rw [List.all_eq_false]
  exact ⟨x, List.mem_of_getElem? hx, by simp [h]⟩
end Go.Abs.F
/- Replies' lines, read by the program and by the document. -/
namespace Go.Abs.F
open Go Go.Abs
set_option maxRecDepth 10000
set_option maxHeartbeats 20000000
set_option linter.unusedSimpArgs false
set_option linter.unusedVariables false
variable {w0 : World}
theorem code_call (n : Int) (h : AH) : Call P w0 reply_code [.v (.int .i64 n)] h (fun v h' => v = .v (.bool (decide (200 ≤ n ∧ n ≤ 599))) ∧ h' = h) := by
  refine Call.bodyF b_reply_code rfl rfl ?_
  unfold c_reply_code
  repeat' (first
| ((with_reducible apply opsF.op rfl); case hs => first | exact tHT | exact tHS)
| (with_reducible first | apply opsF.nil | apply seqF.nn | apply vcF.seq | apply vcF.region | apply vcF.skip | apply vcF.ret | apply seqF.r)
| ((with_reducible apply opsF.call); case hx => exact tAG)
| ((with_reducible apply opsF.want); (case hg => exact tEV); case hb => exact tNB)
| ((with_reducible apply opsF.skip); (case hg => exact tEV); case hb => exact tNB)
| (first | ((with_reducible apply opsF.case); case hg => exact tEV) | ((with_reducible apply vcF.cond); case hx => exact tEV)) <;> ((intro hc; try simp only [Int.reduceLT, Int.reduceLE, Int.reduceEq, Int.reduceNe, Int.cast_ofNat_Int, Int.reduceNeg, reduceCtorEq, ne_eq, ge_iff_le, gt_iff_lt, beq_iff_eq, beq_eq_false_iff_ne, bne_iff_ne, bne_eq_false_iff_eq, nrm, *] at hc) <;> try (exfalso; omega))
| ((with_reducible apply opsF.und); case hg => rfl)
| ((with_reducible first | apply retF.r | apply retF.nn); case hv => exact tRS))
  · simp [*]
  · have : ¬ 200 ≤ n := by omega
    simp [this]
theorem iatoi_call (a b c : UInt8) (ha : 48 ≤ (a.toNat : Int)) (ha' : (a.toNat : Int) ≤ 57) (hb : 48 ≤ (b.toNat : Int)) (hb' : (b.toNat : Int) ≤ 57) (hc : 48 ≤ (c.toNat : Int)) (hc' : (c.toNat : Int) ≤ 57) (h : AH) :
    Call P w0 i_strconv_Atoi [.v (.string (bs [a, b, c]))] h (fun v h' => v = .tup [.v (.int .i64 ((((a.toNat : Int) - 48) * 10 + ((b.toNat : Int) - 48)) * 10 + ((c.toNat : Int) - 48))), .v .nilIface] ∧ h' = h) := by
  refine Call.bodyF b_i_strconv_Atoi rfl rfl ?_
  unfold c_i_strconv_Atoi
  repeat' (first
| ((with_reducible apply opsF.op rfl); case hs => first | exact tHT | exact tHS)
| (with_reducible first | apply opsF.nil | apply seqF.nn | apply vcF.seq | apply vcF.region | apply vcF.skip | apply vcF.block | apply vcF.exit | apply vcF.ret | apply vcF.loop | apply seqF.e | apply seqF.r | apply blkF.nn | apply blkF.e | apply blkF.r | apply blkF.o rfl)
| ((with_reducible apply opsF.call); case hx => exact tAG)
| ((with_reducible apply opsF.want); (case hg => exact tEV); case hb => exact tNB)
| ((with_reducible apply opsF.skip); (case hg => exact tEV); case hb => exact tNB)
| (first | ((with_reducible apply opsF.case); case hg => exact tEV) | ((with_reducible apply vcF.cond); case hx => exact tEV)) <;> ((intro hc; try simp only [Int.reduceLT, Int.reduceLE, Int.reduceEq, Int.reduceNe, Int.cast_ofNat_Int, Int.reduceNeg, reduceCtorEq, ne_eq, ge_iff_le, gt_iff_lt, beq_iff_eq, beq_eq_false_iff_ne, bne_iff_ne, bne_eq_false_iff_eq, nrm, *] at hc) <;> try (exfalso; omega))
| ((with_reducible apply opsF.und); case hg => rfl)
| ((with_reducible first | apply retF.r | apply retF.nn); case hv => exact tRS)
| with_reducible apply LpF.unfold rfl)
  all_goals exact ⟨rfl, rfl⟩
theorem atoi_call (a b c : UInt8) (ha : 48 ≤ (a.toNat : Int)) (ha' : (a.toNat : Int) ≤ 57) (hb : 48 ≤ (b.toNat : Int)) (hb' : (b.toNat : Int) ≤ 57) (hc : 48 ≤ (c.toNat : Int)) (hc' : (c.toNat : Int) ≤ 57) (h : AH) :
    Call P w0 strconv_Atoi [.v (.string (bs [a, b, c]))] h (fun v h' => v = .tup [.v (.int .i64 ((((a.toNat : Int) - 48) * 10 + ((b.toNat : Int) - 48)) * 10 + ((c.toNat : Int) - 48))), .v .nilIface] ∧ h' = h) := by
  refine Call.bodyF b_strconv_Atoi rfl rfl ?_
  unfold c_strconv_Atoi
  repeat' (first
| ((with_reducible apply opsF.op rfl); case hs => first | exact tHT | exact tHS)
| (with_reducible first | apply opsF.nil | apply seqF.nn | apply vcF.seq | apply vcF.region | apply vcF.skip | apply vcF.ret | apply seqF.r)
| ((with_reducible apply opsF.call); case hx => exact tAG)
| ((with_reducible apply vcF.cond); case hx => exact tEV) <;> ((intro hc; try simp only [Int.reduceLT, Int.reduceLE, Int.reduceEq, Int.reduceNe, Int.cast_ofNat_Int, Int.reduceNeg, reduceCtorEq, ne_eq, ge_iff_le, gt_iff_lt, beq_iff_eq, beq_eq_false_iff_ne, bne_iff_ne, bne_eq_false_iff_eq, nrm, *] at hc) <;> try (exfalso; omega))
| ((with_reducible first | apply retF.r | apply retF.nn); case hv => exact tRS))
  refine (iatoi_call a b c ha ha' hb hb' hc hc' h).mono fun v h' hp => ?_
  obtain ⟨rfl, rfl⟩ := hp
  repeat' (first
| ((with_reducible apply opsF.op rfl); case hs => first | exact tHT | exact tHS)
| (with_reducible first | apply opsF.nil | apply seqF.nn | apply vcF.seq | apply vcF.region | apply vcF.skip | apply vcF.ret | apply seqF.r)
| ((with_reducible apply opsF.call); case hx => exact tAG)
| ((with_reducible apply vcF.cond); case hx => exact tEV) <;> ((intro hc; try simp only [Int.reduceLT, Int.reduceLE, Int.reduceEq, Int.reduceNe, Int.cast_ofNat_Int, Int.reduceNeg, reduceCtorEq, ne_eq, ge_iff_le, gt_iff_lt, beq_iff_eq, beq_eq_false_iff_ne, bne_iff_ne, bne_eq_false_iff_eq, nrm, *] at hc) <;> try (exfalso; omega))
| ((with_reducible first | apply retF.r | apply retF.nn); case hv => exact tRS))
  all_goals exact ⟨rfl, rfl⟩
def dig (b : UInt8) : Bool := decide (48 ≤ (b.toNat : Int)) && decide ((b.toNat : Int) ≤ 57)
def num3 (a b c : UInt8) : Int := (((a.toNat : Int) - 48) * 10 + ((b.toNat : Int) - 48)) * 10 + ((c.toNat : Int) - 48)
def oneS (k : Int) : List UInt8 → Option (Int × Bool × List UInt8)
  | a :: b :: c :: r => if k = 1 ∧ dig a ∧ dig b ∧ dig c ∧ 200 ≤ num3 a b c ∧ num3 a b c ≤ 599 then
      match r with
      | [] => some (num3 a b c, false, [])
      | x :: t => if (x.toNat : Int) = 32 then some (num3 a b c, false, t) else if (x.toNat : Int) = 45 then some (num3 a b c, true, t) else none
    else none
  | _ => none
theorem oneS_short {k : Int} {s : List UInt8} (h : (s.length : Int) < 3) : oneS k s = none := by
  match s, h with
  | [], _ | [_], _ | [_, _], _ => rfl
  | a :: b :: c :: r, h => simp at h; omega
theorem oneS_kind {k : Int} {s : List UInt8} (h : ¬ k = 1) : oneS k s = none := by
  match s with
  | [] | [_] | [_, _] => rfl
  | a :: b :: c :: r => simp [oneS, h]
def SplitP (k : Int) (s : List UInt8) (v : AV) : Prop := match oneS k s with
  | some (n, m, t) => v = .tup [.v (.int .i64 n), .v (.bool m), .v (.string (bs t)), .v (.bool true)]
  | none => ∃ n m t, v = .tup [.v (.int .i64 n), .v (.bool m), .v (.string (bs t)), .v (.bool false)]
theorem SplitP_bad {k : Int} {s : List UInt8} (h : oneS k s = none) {n : Int} {m : Bool} {t : List UInt8} : SplitP k s (.tup [.v (.int .i64 n), .v (.bool m), .v (.string (bs t)), .v (.bool false)]) := by
  simp only [SplitP, h]; exact ⟨_, _, _, rfl⟩
theorem SplitP_ok {k : Int} {s : List UInt8} {n : Int} {m : Bool} {t : List UInt8} (h : oneS k s = some (n, m, t)) : SplitP k s (.tup [.v (.int .i64 n), .v (.bool m), .v (.string (bs t)), .v (.bool true)]) := by
  simp only [SplitP, h]
theorem rpsplit_call (k : Int) (s : List UInt8) (h : AH) (hlen : s.length ≤ 9000000000000000000) : Call P w0 reply_split [.agg [.v (.int .i64 k), .v (.string (bs s))]] h (fun v h' => SplitP k s v ∧ Ext h h') := by
  by_cases hk : k = 1 ∧ 3 ≤ s.length
  · obtain ⟨rfl, hl⟩ := hk
    match s, hl with
    | [a, b, c], _ =>
      clear hl
      refine Call.bodyF b_reply_split rfl rfl ?_
      unfold c_reply_split
      repeat' (first
| ((with_reducible apply opsF.op rfl); case hs => first | exact tHT | exact tHS)
| (with_reducible first | apply opsF.nil | apply seqF.nn | apply vcF.seq | apply vcF.region | apply vcF.skip | apply vcF.block | apply vcF.exit | apply vcF.ret | apply vcF.loop | apply seqF.e | apply seqF.r | apply blkF.nn | apply blkF.e | apply blkF.r | apply blkF.o rfl)
| ((with_reducible apply opsF.call); case hx => exact tAG)
| ((with_reducible apply opsF.want); (case hg => exact tEV); case hb => exact tNB)
| ((with_reducible apply opsF.skip); (case hg => exact tEV); case hb => exact tNB)
| (first | ((with_reducible apply opsF.case); case hg => exact tEV) | ((with_reducible apply vcF.cond); case hx => exact tEV)) <;> ((intro hc; try simp only [Int.reduceLT, Int.reduceLE, Int.reduceEq, Int.reduceNe, Int.cast_ofNat_Int, Int.reduceNeg, reduceCtorEq, ne_eq, ge_iff_le, gt_iff_lt, beq_iff_eq, beq_eq_false_iff_ne, bne_iff_ne, bne_eq_false_iff_eq, nrm, *] at hc) <;> try (exfalso; omega))
| ((with_reducible apply opsF.und); case hg => rfl)
| ((with_reducible first | apply retF.r | apply retF.nn); case hv => exact tRS)
| with_reducible apply LpF.unfold rfl
| (refine (atoi_call a b c (by assumption) (by assumption) (by assumption) (by assumption) (by assumption) (by assumption) _).mono fun v h' hp => ?_; obtain ⟨rfl, rfl⟩ := hp)
| (refine (code_call _ _).mono fun v h' hp => ?_; obtain ⟨rfl, rfl⟩ := hp))
      all_goals refine ⟨?_, by exact Ext.alloc _ _⟩
      all_goals first
        | exact SplitP_bad (by simp (disch := omega) only [oneS, dig, num3, Bool.and_eq_true, decide_eq_true_eq, eq_self, true_and, if_pos, if_neg])
        | (by_cases hq : 200 ≤ (((a.toNat : Int) - 48) * 10 + ((b.toNat : Int) - 48)) * 10 + ((c.toNat : Int) - 48) ∧ (((a.toNat : Int) - 48) * 10 + ((b.toNat : Int) - 48)) * 10 + ((c.toNat : Int) - 48) ≤ 599
           · rw [decide_eq_true hq]
             exact SplitP_ok (by simp (disch := omega) only [oneS, dig, num3, Bool.and_eq_true, decide_eq_true_eq, eq_self, true_and, if_pos, if_neg])
           · rw [decide_eq_false hq]
             exact SplitP_bad (by simp (disch := omega) only [oneS, dig, num3, Bool.and_eq_true, decide_eq_true_eq, eq_self, true_and, if_pos, if_neg]))
    | a :: b :: c :: x :: r, _ =>
      clear hl
      refine Call.bodyF b_reply_split rfl rfl ?_
      unfold c_reply_split
      repeat' (first
| ((with_reducible apply opsF.op rfl); case hs => first | exact tHT | exact tHS)
| (with_reducible first | apply opsF.nil | apply seqF.nn | apply vcF.seq | apply vcF.region | apply vcF.skip | apply vcF.block | apply vcF.exit | apply vcF.ret | apply vcF.loop | apply seqF.e | apply seqF.r | apply blkF.nn | apply blkF.e | apply blkF.r | apply blkF.o rfl)
| ((with_reducible apply opsF.call); case hx => exact tAG)
| ((with_reducible apply opsF.want); (case hg => exact tEV); case hb => exact tNB)
| ((with_reducible apply opsF.skip); (case hg => exact tEV); case hb => exact tNB)
| (first | ((with_reducible apply opsF.case); case hg => exact tEV) | ((with_reducible apply vcF.cond); case hx => exact tEV)) <;> ((intro hc; try simp only [Int.reduceLT, Int.reduceLE, Int.reduceEq, Int.reduceNe, Int.cast_ofNat_Int, Int.reduceNeg, reduceCtorEq, ne_eq, ge_iff_le, gt_iff_lt, beq_iff_eq, beq_eq_false_iff_ne, bne_iff_ne, bne_eq_false_iff_eq, nrm, *] at hc) <;> try (exfalso; omega))
| ((with_reducible apply opsF.und); case hg => rfl)
| ((with_reducible first | apply retF.r | apply retF.nn); case hv => exact tRS)
| with_reducible apply LpF.unfold rfl
| (refine (atoi_call a b c (by assumption) (by assumption) (by assumption) (by assumption) (by assumption) (by assumption) _).mono fun v h' hp => ?_; obtain ⟨rfl, rfl⟩ := hp)
| (refine (code_call _ _).mono fun v h' hp => ?_; obtain ⟨rfl, rfl⟩ := hp))
      all_goals refine ⟨?_, by exact Ext.alloc _ _⟩
      all_goals try simp only [List.take_succ_cons, List.drop_succ_cons, List.drop_zero, List.take_length]
      all_goals first
        | exact SplitP_bad (by simp (disch := omega) only [oneS, dig, num3, Bool.and_eq_true, decide_eq_true_eq, eq_self, true_and, if_pos, if_neg, Int.reduceEq, decide_false, decide_true])
        | (by_cases hx : (x.toNat : Int) = 45
           · first
               | (exfalso; omega)
               | ((try simp only [hx, decide_true])
                  exact SplitP_ok (by simp (disch := omega) only [oneS, dig, num3, Bool.and_eq_true, decide_eq_true_eq, eq_self, true_and, if_pos, if_neg, Int.reduceEq, decide_false, decide_true]))
           · try simp only [hx, decide_false]
             first
               | exact SplitP_bad (by simp (disch := omega) only [oneS, dig, num3, Bool.and_eq_true, decide_eq_true_eq, eq_self, true_and, if_pos, if_neg, Int.reduceEq, decide_false, decide_true])
               | exact SplitP_ok (by simp (disch := omega) only [oneS, dig, num3, Bool.and_eq_true, decide_eq_true_eq, eq_self, true_and, if_pos, if_neg, Int.reduceEq, decide_false, decide_true]))
  · have hn : oneS k s = none := by
      by_cases h1 : k = 1
      · exact oneS_short (by omega)
      · exact oneS_kind h1
    refine Call.bodyF b_reply_split rfl rfl ?_
    unfold c_reply_split
    repeat' (first
| ((with_reducible apply opsF.op rfl); case hs => first | exact tHT | exact tHS)
| (with_reducible first | apply opsF.nil | apply seqF.nn | apply vcF.seq | apply vcF.region | apply vcF.skip | apply vcF.block | apply vcF.exit | apply vcF.ret | apply vcF.loop | apply seqF.e | apply seqF.r | apply blkF.nn | apply blkF.e | apply blkF.r | apply blkF.o rfl)
| ((with_reducible apply opsF.call); case hx => exact tAG)
| ((with_reducible apply opsF.want); (case hg => exact tEV); case hb => exact tNB)
| ((with_reducible apply opsF.skip); (case hg => exact tEV); case hb => exact tNB)
| (first | ((with_reducible apply opsF.case); case hg => exact tEV) | ((with_reducible apply vcF.cond); case hx => exact tEV)) <;> ((intro hc; try simp only [Int.reduceLT, Int.reduceLE, Int.reduceEq, Int.reduceNe, Int.cast_ofNat_Int, Int.reduceNeg, reduceCtorEq, ne_eq, ge_iff_le, gt_iff_lt, beq_iff_eq, beq_eq_false_iff_ne, bne_iff_ne, bne_eq_false_iff_eq, nrm, *] at hc) <;> try (exfalso; omega))
| ((with_reducible apply opsF.und); case hg => rfl)
| ((with_reducible first | apply retF.r | apply retF.nn); case hv => exact tRS))
    all_goals refine ⟨?_, by exact Ext.alloc _ _⟩
    all_goals (simp only [SplitP, hn]; exact ⟨_, _, _, rfl⟩)
theorem u8_is {x y : UInt8} (h : (x.toNat : Int) = (y.toNat : Int)) : x = y := UInt8.toNat_inj.1 (by omega)
/-- A line, without its end. -/
def lineS (most : Int) (b : List UInt8) : Int × List UInt8 :=
  if most < (b.length : Int) + 2 then (2, []) else if b.any (fun x => x = 0 || x = 10 || x = 13) then (3, []) else (1, b)
/-- The lines of bytes, and what waits behind them. -/
def crlfS (most : Int) : List UInt8 → List UInt8 → List (Int × List UInt8) × List UInt8
  | cur, [] => ([], cur)
  | cur, [x] => ([], cur ++ [x])
  | cur, x :: y :: r => if x = 13 ∧ y = 10 then (lineS most cur :: (crlfS most [] r).1, (crlfS most [] r).2) else crlfS most (cur ++ [x]) (y :: r)
theorem crlfS_skip {most : Int} {cur r : List UInt8} {x y : UInt8} (h : ¬ (x = 13 ∧ y = 10)) : crlfS most cur (x :: y :: r) = crlfS most (cur ++ [x]) (y :: r) := by rw [crlfS, if_neg h]
theorem crlfS_hit {most : Int} {cur r : List UInt8} : crlfS most cur (13 :: 10 :: r) = (lineS most cur :: (crlfS most [] r).1, (crlfS most [] r).2) := by rw [crlfS, if_pos ⟨rfl, rfl⟩]
end Go.Abs.F
/- Layer 5: bodies. -/
namespace Go.Abs.F
open Go Go.Abs
set_option maxRecDepth 10000
set_option maxHeartbeats 20000000
set_option linter.unusedSimpArgs false
set_option linter.unusedVariables false
variable {w0 : World}
abbrev L8 := List UInt8
def lineOkS (s : L8) : Bool := !s.contains 0 && !s.contains 10 && !s.contains 13 && decide (s.length ≤ 997)
def bsizeS : List L8 → Nat
  | [] => 0
  | s :: l => s.length + 2 + bsizeS l
def bodyS (l : List L8) : Bool := l.all lineOkS && decide (bsizeS l ≤ 65536)
theorem bsize_app (l m : List L8) : bsizeS (l ++ m) = bsizeS l + bsizeS m := by
  induction l with
  | nil => simp [bsizeS]
  | cons x l ih => simp only [List.cons_append, bsizeS, ih]; omega
theorem bsize_take {l : List L8} {i : Nat} {x : L8} (hx : l[i]? = some x) : bsizeS (l.take (i + 1)) = bsizeS (l.take i) + x.length + 2 := by
  rw [List.take_add_one, hx, Option.toList_some, bsize_app]
  simp only [bsizeS]
  omega
theorem bsize_bd {l : List L8} {K : Nat} (h : ∀ s ∈ l, s.length ≤ K) : bsizeS l ≤ l.length * (K + 2) := by
  induction l with
  | nil => simp [bsizeS]
  | cons x l ih =>
    have h1 := h x (by simp)
    have h2 := ih fun s hs => h s (by simp [hs])
    simp only [bsizeS, List.length_cons, Nat.add_mul]
    omega
theorem bsize_bt {l : List L8} {K : Nat} (h : ∀ s ∈ l, s.length ≤ K) (i : Nat) : bsizeS (l.take i) ≤ l.length * (K + 2) := by
  have h1 := bsize_bd (l := l.take i) fun s hs => h s (List.mem_of_mem_take hs)
  have h2 : (l.take i).length ≤ l.length := by rw [List.length_take]; omega
  exact Nat.le_trans h1 (Nat.mul_le_mul_right _ h2)
theorem dsize_call (l : List L8) (tok : Tok) (h : AH) (hl : l.length ≤ 140737488351232) (hs : ∀ s ∈ l, s.length ≤ 1000) : Call P w0 dots_Size [.list 1 (srows l) tok] h (fun v h' => v = .v (.int .i64 (bsizeS l : Nat)) ∧ h' = h) := by
  have xl := srows_len
  have xg := srows_get
  have m1 := srows_len l
  refine Call.bodyF b_dots_Size rfl rfl ?_
  unfold c_dots_Size
  repeat' (first
| ((with_reducible apply opsF.op rfl); case hs => first | exact tHT | exact tHS)
| (with_reducible first | apply opsF.nil | apply seqF.nn | apply vcF.seq | apply vcF.region | apply vcF.skip | apply vcF.block | apply vcF.exit | apply vcF.ret | apply vcF.loop | apply seqF.e | apply seqF.r | apply blkF.nn | apply blkF.e | apply blkF.r | apply blkF.o rfl)
| ((with_reducible apply opsF.call); case hx => exact tAG)
| ((with_reducible apply vcF.cond); case hx => exact tEV) <;> ((intro hc; try simp only [Int.reduceLT, Int.reduceLE, Int.reduceEq, Int.reduceNe, Int.cast_ofNat_Int, Int.reduceNeg, reduceCtorEq, ne_eq, ge_iff_le, gt_iff_lt, beq_iff_eq, beq_eq_false_iff_ne, bne_iff_ne, bne_eq_false_iff_eq, nrm, *] at hc) <;> try (exfalso; omega))
| ((with_reducible first | apply retF.r | apply retF.nn); case hv => exact tRS))
  refine LpF.ind rfl (fun i : Nat => l.length - i) (fun i σ h' => h' = h ∧ σ 6 = .list 1 (srows l) tok ∧ σ 7 = .v (.int .i64 (l.length : Nat)) ∧ σ 8 = .v (.int .i64 (i : Nat)) ∧ σ 3 = .v (.int .i64 (bsizeS (l.take i) : Nat)) ∧ i ≤ l.length) ?_ (i := 0) ⟨rfl, rfl, by first | rfl | (rw [← m1]; rfl), rfl, rfl, Nat.zero_le _⟩
  rintro i σ h' ⟨rfl, h0, h1, h7, h8, hi⟩
  have hbt : bsizeS (l.take i) ≤ 141018963327934464 := by
    have h1 := bsize_bt hs i
    have h2 : l.length * (1000 + 2) ≤ 140737488351232 * (1000 + 2) := Nat.mul_le_mul_right _ hl
    omega
  rcases Nat.lt_or_ge i l.length with hlt | hge
  · obtain ⟨x, hx⟩ : ∃ x, l[i]? = some x := ⟨_, List.getElem?_eq_getElem hlt⟩
    have hxl := hs x (List.mem_of_getElem? hx)
    have htk := bsize_take hx
    generalize bsizeS (l.take i) = m at *
    repeat' (first
| ((with_reducible apply opsF.op rfl); case hs => first | exact tHT | exact tHS)
| (with_reducible first | apply opsF.nil | apply seqF.nn | apply vcF.seq | apply vcF.region | apply vcF.skip | apply vcF.block | apply vcF.exit | apply vcF.ret | apply vcF.loop | apply seqF.e | apply seqF.r | apply blkF.nn | apply blkF.e | apply blkF.r | apply blkF.o rfl)
| ((with_reducible apply opsF.call); case hx => exact tAG)
| ((with_reducible apply vcF.cond); case hx => exact tEV) <;> ((intro hc; try simp only [Int.reduceLT, Int.reduceLE, Int.reduceEq, Int.reduceNe, Int.cast_ofNat_Int, Int.reduceNeg, reduceCtorEq, ne_eq, ge_iff_le, gt_iff_lt, beq_iff_eq, beq_eq_false_iff_ne, bne_iff_ne, bne_eq_false_iff_eq, nrm, *] at hc) <;> try (exfalso; omega))
| ((with_reducible first | apply retF.r | apply retF.nn); case hv => exact tRS))
    refine ⟨i + 1, by omega, rfl, h0, h1, rfl, ?_, by omega⟩
    conv => lhs; whnf
    rw [htk]
    simp
    omega
  · obtain rfl : i = l.length := by omega
    rw [List.take_length] at h8
    repeat' (first
| ((with_reducible apply opsF.op rfl); case hs => first | exact tHT | exact tHS)
| (with_reducible first | apply opsF.nil | apply seqF.nn | apply vcF.seq | apply vcF.region | apply vcF.skip | apply vcF.block | apply vcF.exit | apply vcF.ret | apply vcF.loop | apply seqF.e | apply seqF.r | apply blkF.nn | apply blkF.e | apply blkF.r | apply blkF.o rfl)
| ((with_reducible apply opsF.call); case hx => exact tAG)
| ((with_reducible apply vcF.cond); case hx => exact tEV) <;> ((intro hc; try simp only [Int.reduceLT, Int.reduceLE, Int.reduceEq, Int.reduceNe, Int.cast_ofNat_Int, Int.reduceNeg, reduceCtorEq, ne_eq, ge_iff_le, gt_iff_lt, beq_iff_eq, beq_eq_false_iff_ne, bne_iff_ne, bne_eq_false_iff_eq, nrm, *] at hc) <;> try (exfalso; omega))
| ((with_reducible first | apply retF.r | apply retF.nn); case hv => exact tRS))
    all_goals exact ⟨rfl, rfl⟩
theorem rsize_call (l : List L8) (tok : Tok) (h : AH) (hl : l.length ≤ 140737488351232) (hs : ∀ s ∈ l, s.length ≤ 1000) : Call P w0 ref01_Size [.list 1 (srows l) tok] h (fun v h' => v = .v (.int .i64 (bsizeS l : Nat)) ∧ h' = h) := by
  have xl := srows_len
  have xg := srows_get
  have m1 := srows_len l
  refine Call.bodyF b_ref01_Size rfl rfl ?_
  unfold c_ref01_Size
  repeat' (first
| ((with_reducible apply opsF.op rfl); case hs => first | exact tHT | exact tHS)
| (with_reducible first | apply opsF.nil | apply seqF.nn | apply vcF.seq | apply vcF.region | apply vcF.skip | apply vcF.block | apply vcF.exit | apply vcF.ret | apply vcF.loop | apply seqF.e | apply seqF.r | apply blkF.nn | apply blkF.e | apply blkF.r | apply blkF.o rfl)
| ((with_reducible apply opsF.call); case hx => exact tAG)
| ((with_reducible apply vcF.cond); case hx => exact tEV) <;> ((intro hc; try simp only [Int.reduceLT, Int.reduceLE, Int.reduceEq, Int.reduceNe, Int.cast_ofNat_Int, Int.reduceNeg, reduceCtorEq, ne_eq, ge_iff_le, gt_iff_lt, beq_iff_eq, beq_eq_false_iff_ne, bne_iff_ne, bne_eq_false_iff_eq, nrm, *] at hc) <;> try (exfalso; omega))
| ((with_reducible first | apply retF.r | apply retF.nn); case hv => exact tRS))
  refine LpF.ind rfl (fun i : Nat => l.length - i) (fun i σ h' => h' = h ∧ σ 0 = .list 1 (srows l) tok ∧ σ 4 = .v (.int .i64 (i : Nat)) ∧ σ 3 = .v (.int .i64 (bsizeS (l.take i) : Nat)) ∧ i ≤ l.length) ?_ (i := 0) ⟨rfl, rfl, rfl, rfl, Nat.zero_le _⟩
  rintro i σ h' ⟨rfl, h0, h7, h8, hi⟩
  have hbt : bsizeS (l.take i) ≤ 141018963327934464 := by
    have h1 := bsize_bt hs i
    have h2 : l.length * (1000 + 2) ≤ 140737488351232 * (1000 + 2) := Nat.mul_le_mul_right _ hl
    omega
  rcases Nat.lt_or_ge i l.length with hlt | hge
  · obtain ⟨x, hx⟩ : ∃ x, l[i]? = some x := ⟨_, List.getElem?_eq_getElem hlt⟩
    have hxl := hs x (List.mem_of_getElem? hx)
    have htk := bsize_take hx
    generalize bsizeS (l.take i) = m at *
    repeat' (first
| ((with_reducible apply opsF.op rfl); case hs => first | exact tHT | exact tHS)
| (with_reducible first | apply opsF.nil | apply seqF.nn | apply vcF.seq | apply vcF.region | apply vcF.skip | apply vcF.block | apply vcF.exit | apply vcF.ret | apply vcF.loop | apply seqF.e | apply seqF.r | apply blkF.nn | apply blkF.e | apply blkF.r | apply blkF.o rfl)
| ((with_reducible apply opsF.call); case hx => exact tAG)
| ((with_reducible apply vcF.cond); case hx => exact tEV) <;> ((intro hc; try simp only [Int.reduceLT, Int.reduceLE, Int.reduceEq, Int.reduceNe, Int.cast_ofNat_Int, Int.reduceNeg, reduceCtorEq, ne_eq, ge_iff_le, gt_iff_lt, beq_iff_eq, beq_eq_false_iff_ne, bne_iff_ne, bne_eq_false_iff_eq, nrm, *] at hc) <;> try (exfalso; omega))
| ((with_reducible first | apply retF.r | apply retF.nn); case hv => exact tRS))
    refine ⟨i + 1, by omega, rfl, h0, rfl, ?_, by omega⟩
    conv => lhs; whnf
    rw [htk]
    simp
  · obtain rfl : i = l.length := by omega
    rw [List.take_length] at h8
    repeat' (first
| ((with_reducible apply opsF.op rfl); case hs => first | exact tHT | exact tHS)
| (with_reducible first | apply opsF.nil | apply seqF.nn | apply vcF.seq | apply vcF.region | apply vcF.skip | apply vcF.block | apply vcF.exit | apply vcF.ret | apply vcF.loop | apply seqF.e | apply seqF.r | apply blkF.nn | apply blkF.e | apply blkF.r | apply blkF.o rfl)
| ((with_reducible apply opsF.call); case hx => exact tAG)
| ((with_reducible apply vcF.cond); case hx => exact tEV) <;> ((intro hc; try simp only [Int.reduceLT, Int.reduceLE, Int.reduceEq, Int.reduceNe, Int.cast_ofNat_Int, Int.reduceNeg, reduceCtorEq, ne_eq, ge_iff_le, gt_iff_lt, beq_iff_eq, beq_eq_false_iff_ne, bne_iff_ne, bne_eq_false_iff_eq, nrm, *] at hc) <;> try (exfalso; omega))
| ((with_reducible first | apply retF.r | apply retF.nn); case hv => exact tRS))
    all_goals exact ⟨rfl, rfl⟩
theorem ok_len {l : List L8} (h : l.all lineOkS = true) : ∀ s ∈ l, s.length ≤ 1000 := fun s hs => by
  have := List.all_eq_true.1 h s hs
  simp only [lineOkS, Bool.and_eq_true, decide_eq_true_eq] at this
  omega
theorem dgood_call (l : List L8) (tok : Tok) (h : AH) (hl : l.length ≤ 140737488351232) (hs : ∀ s ∈ l, s.length ≤ 140737488351232) : Call P w0 dots_Good [.list 1 (srows l) tok] h (fun v h' => v = .v (.bool (bodyS l)) ∧ h' = h) := by
  have xl := srows_len
  have xg := srows_get
  have m1 := srows_len l
  refine Call.bodyF b_dots_Good rfl rfl ?_
  unfold c_dots_Good
  repeat' (first
| ((with_reducible apply opsF.op rfl); case hs => first | exact tHT | exact tHS)
| (with_reducible first | apply opsF.nil | apply seqF.nn | apply vcF.seq | apply vcF.region | apply vcF.skip | apply vcF.block | apply vcF.exit | apply vcF.ret | apply vcF.loop | apply seqF.e | apply seqF.r | apply blkF.nn | apply blkF.e | apply blkF.r | apply blkF.o rfl)
| ((with_reducible apply opsF.call); case hx => exact tAG)
| ((with_reducible apply opsF.want); (case hg => exact tEV); case hb => exact tNB)
| ((with_reducible apply opsF.skip); (case hg => exact tEV); case hb => exact tNB)
| (first | ((with_reducible apply opsF.case); case hg => exact tEV) | ((with_reducible apply vcF.cond); case hx => exact tEV)) <;> ((intro hc; try simp only [Int.reduceLT, Int.reduceLE, Int.reduceEq, Int.reduceNe, Int.cast_ofNat_Int, Int.reduceNeg, reduceCtorEq, ne_eq, ge_iff_le, gt_iff_lt, beq_iff_eq, beq_eq_false_iff_ne, bne_iff_ne, bne_eq_false_iff_eq, nrm, *] at hc) <;> try (exfalso; omega))
| ((with_reducible apply opsF.und); case hg => rfl)
| ((with_reducible first | apply retF.r | apply retF.nn); case hv => exact tRS))
  refine LpF.ind rfl (fun i : Nat => l.length - i) (fun i σ h' => h' = h ∧ σ 0 = .list 1 (srows l) tok ∧ σ 5 = .list 1 (srows l) tok ∧ σ 6 = .v (.int .i64 (l.length : Nat)) ∧ σ 7 = .v (.int .i64 (i : Nat)) ∧ i ≤ l.length ∧ (l.take i).all lineOkS = true) ?_ (i := 0) ⟨rfl, rfl, rfl, by first | rfl | (rw [← m1]; rfl), rfl, Nat.zero_le _, rfl⟩
  rintro i σ h' ⟨rfl, h0, h5, h6, h7, hi, ha⟩
  rcases Nat.lt_or_ge i l.length with hlt | hge
  · obtain ⟨x, hx⟩ : ∃ x, l[i]? = some x := ⟨_, List.getElem?_eq_getElem hlt⟩
    have hxl := hs x (List.mem_of_getElem? hx)
    have h1 := fun h => idxB_call (w0 := w0) x 0 h
    have h2 := fun h => idxB_call (w0 := w0) x 10 h
    have h3 := fun h => idxB_call (w0 := w0) x 13 h
    have c1 := idx_ge (c := 0) (s := x)
    have c2 := idx_ge (c := 10) (s := x)
    have c3 := idx_ge (c := 13) (s := x)
    generalize Lib.indexByte x 0 = n1 at *
    generalize Lib.indexByte x 10 = n2 at *
    generalize Lib.indexByte x 13 = n3 at *
    have hno : lineOkS x = false → bodyS l = false := fun e => by
      rw [bodyS, all_bad hx e]; rfl
    have hok : lineOkS x = (!(decide (0 ≤ n1)) && !(decide (0 ≤ n2)) && !(decide (0 ≤ n3)) && decide (x.length ≤ 997)) := by rw [lineOkS, c1, c2, c3]
    clear c1 c2 c3
    cases hb : lineOkS x with
    | false =>
      rw [hno hb]
      rw [hb] at hok
      clear hno ha hs
      have hok2 : 0 ≤ n1 ∨ 0 ≤ n2 ∨ 0 ≤ n3 ∨ 997 < x.length := by
        have := hok.symm
        simp at this
        omega
      clear hok hb
      repeat' (first
| ((with_reducible apply opsF.op rfl); case hs => first | exact tHT | exact tHS)
| (with_reducible first | apply opsF.nil | apply seqF.nn | apply vcF.seq | apply vcF.region | apply vcF.skip | apply vcF.block | apply vcF.exit | apply vcF.ret | apply vcF.loop | apply seqF.e | apply seqF.r | apply blkF.nn | apply blkF.e | apply blkF.r | apply blkF.o rfl)
| ((with_reducible apply opsF.call); case hx => exact tAG)
| ((with_reducible apply opsF.want); (case hg => exact tEV); case hb => exact tNB)
| ((with_reducible apply opsF.skip); (case hg => exact tEV); case hb => exact tNB)
| (first | ((with_reducible apply opsF.case); case hg => exact tEV) | ((with_reducible apply vcF.cond); case hx => exact tEV)) <;> ((intro hc; try simp only [Int.reduceLT, Int.reduceLE, Int.reduceEq, Int.reduceNe, Int.cast_ofNat_Int, Int.reduceNeg, reduceCtorEq, ne_eq, ge_iff_le, gt_iff_lt, beq_iff_eq, beq_eq_false_iff_ne, bne_iff_ne, bne_eq_false_iff_eq, nrm, *] at hc) <;> try (exfalso; omega))
| ((with_reducible apply opsF.und); case hg => rfl)
| ((with_reducible first | apply retF.r | apply retF.nn); case hv => exact tRS)
| ((refine Call.use (h1 _) ?_))
| ((refine Call.use (h2 _) ?_))
| ((refine Call.use (h3 _) ?_)))
      all_goals first | exact ⟨rfl, rfl⟩ | (exfalso; omega)
    | true =>
      rw [hb] at hok
      have hok2 : ¬ 0 ≤ n1 ∧ ¬ 0 ≤ n2 ∧ ¬ 0 ≤ n3 ∧ x.length ≤ 997 := by
        have := hok.symm
        simp at this
        omega
      have hnx : (l.take (i + 1)).all lineOkS = true := by rw [List.take_add_one, hx, List.all_append, ha]; simp [hb]
      obtain ⟨q1, q2, q3, q4⟩ := hok2
      clear hok hno hs ha hb
      repeat' (first
| ((with_reducible apply opsF.op rfl); case hs => first | exact tHT | exact tHS)
| (with_reducible first | apply opsF.nil | apply seqF.nn | apply vcF.seq | apply vcF.region | apply vcF.skip | apply vcF.block | apply vcF.exit | apply vcF.ret | apply vcF.loop | apply seqF.e | apply seqF.r | apply blkF.nn | apply blkF.e | apply blkF.r | apply blkF.o rfl)
| ((with_reducible apply opsF.call); case hx => exact tAG)
| ((with_reducible apply opsF.want); (case hg => exact tEV); case hb => exact tNB)
| ((with_reducible apply opsF.skip); (case hg => exact tEV); case hb => exact tNB)
| (first | ((with_reducible apply opsF.case); case hg => exact tEV) | ((with_reducible apply vcF.cond); case hx => exact tEV)) <;> ((intro hc; try simp only [Int.reduceLT, Int.reduceLE, Int.reduceEq, Int.reduceNe, Int.cast_ofNat_Int, Int.reduceNeg, reduceCtorEq, ne_eq, ge_iff_le, gt_iff_lt, beq_iff_eq, beq_eq_false_iff_ne, bne_iff_ne, bne_eq_false_iff_eq, nrm, *] at hc) <;> try (exfalso; omega))
| ((with_reducible apply opsF.und); case hg => rfl)
| ((with_reducible first | apply retF.r | apply retF.nn); case hv => exact tRS)
| ((refine Call.use (h1 _) ?_))
| ((refine Call.use (h2 _) ?_))
| ((refine Call.use (h3 _) ?_)))
      all_goals exact ⟨i + 1, by omega, rfl, h0, h5, h6, rfl, by omega, hnx⟩
  · obtain rfl : i = l.length := by omega
    rw [List.take_length] at ha
    have hsz := fun h => dsize_call (w0 := w0) l tok h hl (ok_len ha)
    rw [bodyS, ha]
    clear ha hs
    generalize bsizeS l = q at *
    repeat' (first
| ((with_reducible apply opsF.op rfl); case hs => first | exact tHT | exact tHS)
| (with_reducible first | apply opsF.nil | apply seqF.nn | apply vcF.seq | apply vcF.region | apply vcF.skip | apply vcF.block | apply vcF.exit | apply vcF.ret | apply vcF.loop | apply seqF.e | apply seqF.r | apply blkF.nn | apply blkF.e | apply blkF.r | apply blkF.o rfl)
| ((with_reducible apply opsF.call); case hx => exact tAG)
| ((with_reducible apply opsF.want); (case hg => exact tEV); case hb => exact tNB)
| ((with_reducible apply opsF.skip); (case hg => exact tEV); case hb => exact tNB)
| (first | ((with_reducible apply opsF.case); case hg => exact tEV) | ((with_reducible apply vcF.cond); case hx => exact tEV)) <;> ((intro hc; try simp only [Int.reduceLT, Int.reduceLE, Int.reduceEq, Int.reduceNe, Int.cast_ofNat_Int, Int.reduceNeg, reduceCtorEq, ne_eq, ge_iff_le, gt_iff_lt, beq_iff_eq, beq_eq_false_iff_ne, bne_iff_ne, bne_eq_false_iff_eq, nrm, *] at hc) <;> try (exfalso; omega))
| ((with_reducible apply opsF.und); case hg => rfl)
| ((with_reducible first | apply retF.r | apply retF.nn); case hv => exact tRS)
| ((refine Call.use (hsz _) ?_)))
    all_goals (refine ⟨?_, rfl⟩; simp; try omega)
theorem rgood_call (l : List L8) (tok : Tok) (h : AH) (hl : l.length ≤ 140737488351232) (hs : ∀ s ∈ l, s.length ≤ 140737488351232) : Call P w0 ref01_Good [.list 1 (srows l) tok] h (fun v h' => v = .v (.bool (bodyS l)) ∧ h' = h) := by
  have xl := srows_len
  have xg := srows_get
  have m1 := srows_len l
  refine Call.bodyF b_ref01_Good rfl rfl ?_
  unfold c_ref01_Good
  repeat' (first
| ((with_reducible apply opsF.op rfl); case hs => first | exact tHT | exact tHS)
| (with_reducible first | apply opsF.nil | apply seqF.nn | apply vcF.seq | apply vcF.region | apply vcF.skip | apply vcF.block | apply vcF.exit | apply vcF.ret | apply vcF.loop | apply seqF.e | apply seqF.r | apply blkF.nn | apply blkF.e | apply blkF.r | apply blkF.o rfl)
| ((with_reducible apply opsF.call); case hx => exact tAG)
| ((with_reducible apply opsF.want); (case hg => exact tEV); case hb => exact tNB)
| ((with_reducible apply opsF.skip); (case hg => exact tEV); case hb => exact tNB)
| (first | ((with_reducible apply opsF.case); case hg => exact tEV) | ((with_reducible apply vcF.cond); case hx => exact tEV)) <;> ((intro hc; try simp only [Int.reduceLT, Int.reduceLE, Int.reduceEq, Int.reduceNe, Int.cast_ofNat_Int, Int.reduceNeg, reduceCtorEq, ne_eq, ge_iff_le, gt_iff_lt, beq_iff_eq, beq_eq_false_iff_ne, bne_iff_ne, bne_eq_false_iff_eq, nrm, *] at hc) <;> try (exfalso; omega))
| ((with_reducible apply opsF.und); case hg => rfl)
| ((with_reducible first | apply retF.r | apply retF.nn); case hv => exact tRS))
  refine LpF.ind rfl (fun i : Nat => l.length - i) (fun i σ h' => h' = h ∧ σ 0 = .list 1 (srows l) tok ∧ σ 3 = .v (.int .i64 (i : Nat)) ∧ i ≤ l.length ∧ (l.take i).all lineOkS = true) ?_ (i := 0) ⟨rfl, rfl, rfl, Nat.zero_le _, rfl⟩
  rintro i σ h' ⟨rfl, h0, h7, hi, ha⟩
  rcases Nat.lt_or_ge i l.length with hlt | hge
  · obtain ⟨x, hx⟩ : ∃ x, l[i]? = some x := ⟨_, List.getElem?_eq_getElem hlt⟩
    have hxl := hs x (List.mem_of_getElem? hx)
    have h1 := fun h => rin_call (w0 := w0) x 0 h (by omega)
    have h2 := fun h => rin_call (w0 := w0) x 10 h (by omega)
    have h3 := fun h => rin_call (w0 := w0) x 13 h (by omega)
    have hno : lineOkS x = false → bodyS l = false := fun e => by
      rw [bodyS, all_bad hx e]; rfl
    have hok : lineOkS x = (!x.contains 0 && !x.contains 10 && !x.contains 13 && decide (x.length ≤ 997)) := rfl
    generalize x.contains 0 = n1 at *
    generalize x.contains 10 = n2 at *
    generalize x.contains 13 = n3 at *
    cases hb : lineOkS x with
    | false =>
      rw [hno hb]
      rw [hb] at hok
      clear hno ha hs hb
      have hok2 : n1 = true ∨ n2 = true ∨ n3 = true ∨ 997 < x.length := by
        cases n1 <;> cases n2 <;> cases n3 <;> simp at hok ⊢
        omega
      clear hok
      rcases Nat.lt_or_ge 997 x.length with hg | hg
      · repeat' (first
| ((with_reducible apply opsF.op rfl); case hs => first | exact tHT | exact tHS)
| (with_reducible first | apply opsF.nil | apply seqF.nn | apply vcF.seq | apply vcF.region | apply vcF.skip | apply vcF.block | apply vcF.exit | apply vcF.ret | apply vcF.loop | apply seqF.e | apply seqF.r | apply blkF.nn | apply blkF.e | apply blkF.r | apply blkF.o rfl)
| ((with_reducible apply opsF.call); case hx => exact tAG)
| ((with_reducible apply opsF.want); (case hg => exact tEV); case hb => exact tNB)
| ((with_reducible apply opsF.skip); (case hg => exact tEV); case hb => exact tNB)
| (first | ((with_reducible apply opsF.case); case hg => exact tEV) | ((with_reducible apply vcF.cond); case hx => exact tEV)) <;> ((intro hc; try simp only [Int.reduceLT, Int.reduceLE, Int.reduceEq, Int.reduceNe, Int.cast_ofNat_Int, Int.reduceNeg, reduceCtorEq, ne_eq, ge_iff_le, gt_iff_lt, beq_iff_eq, beq_eq_false_iff_ne, bne_iff_ne, bne_eq_false_iff_eq, nrm, *] at hc) <;> try (exfalso; omega))
| ((with_reducible apply opsF.und); case hg => rfl)
| ((with_reducible first | apply retF.r | apply retF.nn); case hv => exact tRS)
| ((refine Call.use (h1 _) ?_))
| ((refine Call.use (h2 _) ?_))
| ((refine Call.use (h3 _) ?_)))
        all_goals exact ⟨rfl, rfl⟩
      · cases n1 <;> cases n2 <;> cases n3 <;> first
          | (exfalso; simp at hok2; omega)
          | (repeat' (first
| ((with_reducible apply opsF.op rfl); case hs => first | exact tHT | exact tHS)
| (with_reducible first | apply opsF.nil | apply seqF.nn | apply vcF.seq | apply vcF.region | apply vcF.skip | apply vcF.block | apply vcF.exit | apply vcF.ret | apply vcF.loop | apply seqF.e | apply seqF.r | apply blkF.nn | apply blkF.e | apply blkF.r | apply blkF.o rfl)
| ((with_reducible apply opsF.call); case hx => exact tAG)
| ((with_reducible apply opsF.want); (case hg => exact tEV); case hb => exact tNB)
| ((with_reducible apply opsF.skip); (case hg => exact tEV); case hb => exact tNB)
| (first | ((with_reducible apply opsF.case); case hg => exact tEV) | ((with_reducible apply vcF.cond); case hx => exact tEV)) <;> ((intro hc; try simp only [Int.reduceLT, Int.reduceLE, Int.reduceEq, Int.reduceNe, Int.cast_ofNat_Int, Int.reduceNeg, reduceCtorEq, ne_eq, ge_iff_le, gt_iff_lt, beq_iff_eq, beq_eq_false_iff_ne, bne_iff_ne, bne_eq_false_iff_eq, nrm, *] at hc) <;> try (exfalso; omega))
| ((with_reducible apply opsF.und); case hg => rfl)
| ((with_reducible first | apply retF.r | apply retF.nn); case hv => exact tRS)
| ((refine Call.use (h1 _) ?_))
| ((refine Call.use (h2 _) ?_))
| ((refine Call.use (h3 _) ?_)))
             all_goals exact ⟨rfl, rfl⟩)
    | true =>
      rw [hb] at hok
      have hok2 : n1 = false ∧ n2 = false ∧ n3 = false ∧ x.length ≤ 997 := by
        cases n1 <;> cases n2 <;> cases n3 <;> simp at hok ⊢
        exact hok
      have hnx : (l.take (i + 1)).all lineOkS = true := by rw [List.take_add_one, hx, List.all_append, ha]; simp [hb]
      obtain ⟨rfl, rfl, rfl, q4⟩ := hok2
      clear hok hno hs ha hb
      repeat' (first
| ((with_reducible apply opsF.op rfl); case hs => first | exact tHT | exact tHS)
| (with_reducible first | apply opsF.nil | apply seqF.nn | apply vcF.seq | apply vcF.region | apply vcF.skip | apply vcF.block | apply vcF.exit | apply vcF.ret | apply vcF.loop | apply seqF.e | apply seqF.r | apply blkF.nn | apply blkF.e | apply blkF.r | apply blkF.o rfl)
| ((with_reducible apply opsF.call); case hx => exact tAG)
| ((with_reducible apply opsF.want); (case hg => exact tEV); case hb => exact tNB)
| ((with_reducible apply opsF.skip); (case hg => exact tEV); case hb => exact tNB)
| (first | ((with_reducible apply opsF.case); case hg => exact tEV) | ((with_reducible apply vcF.cond); case hx => exact tEV)) <;> ((intro hc; try simp only [Int.reduceLT, Int.reduceLE, Int.reduceEq, Int.reduceNe, Int.cast_ofNat_Int, Int.reduceNeg, reduceCtorEq, ne_eq, ge_iff_le, gt_iff_lt, beq_iff_eq, beq_eq_false_iff_ne, bne_iff_ne, bne_eq_false_iff_eq, nrm, *] at hc) <;> try (exfalso; omega))
| ((with_reducible apply opsF.und); case hg => rfl)
| ((with_reducible first | apply retF.r | apply retF.nn); case hv => exact tRS)
| ((refine Call.use (h1 _) ?_))
| ((refine Call.use (h2 _) ?_))
| ((refine Call.use (h3 _) ?_)))
      all_goals exact ⟨i + 1, by omega, rfl, h0, rfl, by omega, hnx⟩
  · obtain rfl : i = l.length := by omega
    rw [List.take_length] at ha
    have hsz := fun h => rsize_call (w0 := w0) l tok h hl (ok_len ha)
    rw [bodyS, ha]
    clear ha hs
    generalize bsizeS l = q at *
    repeat' (first
| ((with_reducible apply opsF.op rfl); case hs => first | exact tHT | exact tHS)
| (with_reducible first | apply opsF.nil | apply seqF.nn | apply vcF.seq | apply vcF.region | apply vcF.skip | apply vcF.block | apply vcF.exit | apply vcF.ret | apply vcF.loop | apply seqF.e | apply seqF.r | apply blkF.nn | apply blkF.e | apply blkF.r | apply blkF.o rfl)
| ((with_reducible apply opsF.call); case hx => exact tAG)
| ((with_reducible apply opsF.want); (case hg => exact tEV); case hb => exact tNB)
| ((with_reducible apply opsF.skip); (case hg => exact tEV); case hb => exact tNB)
| (first | ((with_reducible apply opsF.case); case hg => exact tEV) | ((with_reducible apply vcF.cond); case hx => exact tEV)) <;> ((intro hc; try simp only [Int.reduceLT, Int.reduceLE, Int.reduceEq, Int.reduceNe, Int.cast_ofNat_Int, Int.reduceNeg, reduceCtorEq, ne_eq, ge_iff_le, gt_iff_lt, beq_iff_eq, beq_eq_false_iff_ne, bne_iff_ne, bne_eq_false_iff_eq, nrm, *] at hc) <;> try (exfalso; omega))
| ((with_reducible apply opsF.und); case hg => rfl)
| ((with_reducible first | apply retF.r | apply retF.nn); case hv => exact tRS)
| ((refine Call.use (hsz _) ?_)))
    all_goals (refine ⟨?_, rfl⟩; simp; try omega)
/-! messages as values -/
end Go.Abs.F
/- Layer 7: a session with the next hop: the plain side. -/
namespace Go.Abs.F
open Go Go.Abs
set_option maxRecDepth 10000
set_option maxHeartbeats 20000000
set_option linter.unusedSimpArgs false
set_option linter.unusedVariables false
variable {w0 : World}
/-- A body as it goes. -/
def stuffGo : List L8 → L8
  | [] => [46, 13, 10]
  | s :: l => (if s.head? = some 46 then [46] else []) ++ (s ++ ([13, 10] ++ stuffGo l))
/-- A session with the next hop: what it is told, what waits, a reply's code (0: none is begun), what goes, where it is. -/
structure CS where
  host : L8
  sndr : L8
  tg : List L8
  body : L8
  wait : L8
  code : Int
  out : List L8
  st : Nat
  pos : Nat
  codes : List Int
  over : Bool
  /-- Lines of a reply that is not whole. -/
  nls : Nat
def openC (c : Int) (l : List Int) : List Int := l.map fun n => if n = 0 then c else n
def CS.fin (s : CS) (c : Int) : CS := { s with codes := openC c s.codes, over := true }
def CS.say (s : CS) (t : L8) : CS := { s with out := s.out ++ [t ++ [13, 10]] }
def tQUIT : L8 := [81, 85, 73, 84]
def tEHLO : L8 := [69, 72, 76, 79, 32]
def tMAIL : L8 := [77, 65, 73, 76, 32, 70, 82, 79, 77, 58, 60]
def tRCPT : L8 := [82, 67, 80, 84, 32, 84, 79, 58, 60]
def tDATA : L8 := [68, 65, 84, 65]
def CS.quit (s : CS) (c : Int) : CS := (s.fin c).say tQUIT
def CS.lost (s : CS) : CS := if s.over then s else { s with out := [], codes := openC 421 s.codes, over := true }
/-- Behind a reply that was waited for. -/
def CS.next (s : CS) : CS := match s.st with
  | 0 => { s with st := 1 }.say (tEHLO ++ s.host)
  | 1 => { s with st := 2 }.say (tMAIL ++ s.sndr ++ [62])
  | 2 => { s with st := 3 }.say (tRCPT ++ s.tg.headD [] ++ [62])
  | 3 => { s with st := 4 }.say tDATA
  | 4 => { s with st := 5, out := s.out ++ [s.body] }
  | n + 5 => { s with st := n + 6 }
def wantC (st : Nat) : Int := if st = 0 then 220 else if st = 4 then 354 else 250
def CS.target (s : CS) (c : Int) : CS :=
  let s1 : CS := { s with codes := if c ≠ 250 ∧ c ≠ 251 then s.codes.set s.pos c else s.codes, pos := s.pos + 1 }
  if s.pos + 1 < s.tg.length then s1.say (tRCPT ++ s.tg.getD (s.pos + 1) [] ++ [62]) else if s1.codes.contains 0 then s1.next else s1.quit 0
def CS.take (s : CS) (c : Int) : CS := if s.st = 3 then s.target c else if c ≠ wantC s.st then s.quit c else if s.st = 5 then s.quit 250 else s.next
/-- A line of a reply. -/
def CS.line (s : CS) (k : Int) (t : L8) : CS := match oneS k t with
  | none => { s with code := 0, nls := 0 }.lost
  | some (n, more, _) => if s.nls ≠ 0 ∧ s.code ≠ n then { s with code := 0, nls := 0 }.lost else if more then { s with code := n, nls := s.nls + 1 } else { s with code := 0, nls := 0 }.take n
/-- Lines, till it is over. -/
def CS.lines (s : CS) : List (Int × L8) → CS
  | [] => s
  | (k, t) :: l => if s.over then s else (s.line k t).lines l
def CS.feed (s : CS) (b : L8) : CS := if s.over then s else { (s.lines (crlfS 512 [] (s.wait ++ b)).1) with wait := (crlfS 512 [] (s.wait ++ b)).2 }
def newC (host sndr : L8) (tg body : List L8) : CS :=
  let s : CS := { host, sndr, tg, body := if bodyS body then stuffGo body else [], wait := [], code := 0, out := [], st := 0, pos := 0, codes := List.replicate tg.length 0, over := false, nls := 0 }
  if bodyS body = true ∧ tg.length ≠ 0 ∧ tg.length ≤ 50 then s else s.fin 554
/-! what stays -/
theorem openC_len (c : Int) (l : List Int) : (openC c l).length = l.length := by simp [openC]
theorem CS.lines_over {s : CS} (h : s.over = true) : ∀ l, s.lines l = s
  | [] => rfl
  | (k, t) :: l => by rw [CS.lines, if_pos h]
theorem CS.lines_cons {s : CS} (h : s.over = false) (k : Int) (t : L8) (l : List (Int × L8)) : s.lines ((k, t) :: l) = (s.line k t).lines l := by rw [CS.lines, if_neg (by rw [h]; simp)]
/-! the first end of a line -/
/-- What is ahead of the first end of a line, and what is behind it. -/
def cutL : L8 → Option (L8 × L8)
  | [] => none
  | [_] => none
  | x :: y :: r => if x = 13 ∧ y = 10 then some ([], r) else (cutL (y :: r)).map fun p => (x :: p.1, p.2)
theorem crlfS_cut (most : Int) : ∀ (w cur : L8), crlfS most cur w = match cutL w with
    | none => ([], cur ++ w)
    | some (a, r) => (lineS most (cur ++ a) :: (crlfS most [] r).1, (crlfS most [] r).2)
  | [], cur => by simp [crlfS, cutL]
  | [x], cur => by simp [crlfS, cutL]
  | x :: y :: r, cur => by
    by_cases h : x = 13 ∧ y = 10
    · obtain ⟨rfl, rfl⟩ := h
      rw [crlfS_hit]
      simp [cutL]
    · rw [crlfS_skip h, crlfS_cut most (y :: r) (cur ++ [x]), cutL, if_neg h]
      cases cutL (y :: r) with
      | none => simp
      | some p => simp
theorem cutL_some : ∀ {w a r : L8}, cutL w = some (a, r) → w = a ++ 13 :: 10 :: r
  | [], a, r, h => by cases h
  | [x], a, r, h => by cases h
  | x :: y :: t, a, r, h => by
    rw [cutL] at h
    split at h
    · rename_i hh
      obtain ⟨rfl, rfl⟩ := hh
      cases h
      rfl
    · cases hq : cutL (y :: t) with
      | none => rw [hq] at h; cases h
      | some p =>
        rw [hq] at h
        cases h
        have := cutL_some (w := y :: t) (a := p.1) (r := p.2) (by rw [hq])
        rw [this]
        rfl
theorem cutL_len {w a r : L8} (h : cutL w = some (a, r)) : r.length + 2 + a.length = w.length := by
  rw [cutL_some h]
  simp
  omega
end Go.Abs.F
/- A reader of replies. -/
namespace Go.Abs.F
open Go Go.Abs
set_option maxRecDepth 10000
set_option maxHeartbeats 20000000
set_option linter.unusedSimpArgs false
set_option linter.unusedVariables false
variable {w0 : World}
/-- A reader of replies: what has come. -/
structure Rd (h : AH) (rid : Nat) (c : Int) (ls : List (List UInt8)) (tok : Tok) : Prop where
  obj : h.objs rid = some (.cells [.v (.int .i64 c), .list 1 (srows ls) tok])
  tok : TokU h tok
  lt : rid < h.n
theorem Rd.ext {h h' : AH} (e : Ext h h') {rid : Nat} {c : Int} {ls : List (List UInt8)} {tok : Tok} (k : Rd h rid c ls tok) : Rd h' rid c ls tok :=
  ⟨(e.objs rid k.lt).trans k.obj, k.tok.ext e, Nat.lt_of_lt_of_le k.lt e.n⟩
def feedS (c : Int) (ls : List (List UInt8)) (k : Int) (s : List UInt8) : (Int × List (List UInt8)) × (Int × List (List UInt8)) × Bool × Int :=
  match oneS k s with
  | none => ((0, []), (0, []), false, 2)
  | some (n, more, t) => if ls ≠ [] ∧ c ≠ n then ((0, []), (0, []), false, 2) else if more then ((n, ls ++ [t]), (0, []), false, 0) else ((0, []), (n, ls ++ [t]), true, 0)
theorem reply_New_call (h : AH) : Call P w0 reply_New [] h (fun v h' => v = .ptr h.n 0 ∧ h' = h.alloc (.cells [.v (.int .i64 0), .list 1 [] .full])) := by
  refine Call.bodyF b_reply_New rfl rfl ?_
  unfold c_reply_New
  repeat' (first
| ((with_reducible apply opsF.op rfl); case hs => first | exact tHT | exact tHS)
| (with_reducible first | apply opsF.nil | apply seqF.nn | apply vcF.seq | apply vcF.region | apply vcF.skip | apply vcF.ret | apply seqF.r)
| ((with_reducible apply opsF.call); case hx => exact tAG)
| ((with_reducible apply vcF.cond); case hx => exact tEV) <;> ((intro hc; try simp only [Int.reduceLT, Int.reduceLE, Int.reduceEq, Int.reduceNe, Int.cast_ofNat_Int, Int.reduceNeg, reduceCtorEq, ne_eq, ge_iff_le, gt_iff_lt, beq_iff_eq, beq_eq_false_iff_ne, bne_iff_ne, bne_eq_false_iff_eq, nrm, *] at hc) <;> try (exfalso; omega))
| ((with_reducible first | apply retF.r | apply retF.nn); case hv => exact tRS))
  all_goals exact ⟨rfl, rfl⟩
theorem rpfeed_call (rid : Nat) (c : Int) (ls : List (List UInt8)) (tok : Tok) (k : Int) (s : List UInt8) (h : AH) (hr : Rd h rid c ls tok) (hlen : s.length ≤ 9000000000000000000) (hls : ls.length ≤ 1000000000) :
    Call P w0 reply_Reader_Feed [.ptr rid 0, .agg [.v (.int .i64 k), .v (.string (bs s))]] h
    (fun v h' => ∃ tk tok', v = .tup [.agg [.v (.int .i64 (feedS c ls k s).2.1.1), .list 1 (srows (feedS c ls k s).2.1.2) tk], .v (.bool (feedS c ls k s).2.2.1), .v (.int .i64 (feedS c ls k s).2.2.2)]
      ∧ Rd h' rid (feedS c ls k s).1.1 (feedS c ls k s).1.2 tok' ∧ TokN h tok tok' ∧ ExtX (· = rid) (fun t => tok.owner = some t) h h') := by
  have hrl := hr.lt
  have xl := srows_len
  rcases hO : oneS k s with _ | ⟨n, m, t⟩
  · refine Call.bodyF b_reply_Reader_Feed rfl rfl ?_
    unfold c_reply_Reader_Feed
    repeat' (first
| ((with_reducible apply opsF.op rfl); case hs => first | exact tHT | exact tHS)
| (with_reducible first | apply opsF.nil | apply seqF.nn | apply vcF.seq | apply vcF.region | apply vcF.skip | apply vcF.ret | apply seqF.r)
| ((with_reducible apply opsF.call); case hx => exact tAG)
| ((with_reducible apply opsF.want); (case hg => exact tEV); case hb => exact tNB)
| ((with_reducible apply opsF.skip); (case hg => exact tEV); case hb => exact tNB)
| (first | ((with_reducible apply opsF.case); case hg => exact tEV) | ((with_reducible apply vcF.cond); case hx => exact tEV)) <;> ((intro hc; try simp only [Int.reduceLT, Int.reduceLE, Int.reduceEq, Int.reduceNe, Int.cast_ofNat_Int, Int.reduceNeg, reduceCtorEq, ne_eq, ge_iff_le, gt_iff_lt, beq_iff_eq, beq_eq_false_iff_ne, bne_iff_ne, bne_eq_false_iff_eq, nrm, *] at hc) <;> try (exfalso; omega))
| ((with_reducible apply opsF.und); case hg => rfl)
| ((with_reducible first | apply retF.r | apply retF.nn); case hv => exact tRS)
| (refine (rpsplit_call _ _ _ (by assumption)).mono fun v h' hp => ?_; obtain ⟨hs, he⟩ := hp; simp only [SplitP, hO] at hs; obtain ⟨n0, m0, t0, rfl⟩ := hs; have hq := (Ext.alloc h _).trans ((Ext.alloc _ _).trans he); have hr1 := hr.ext hq; have ho1 := hr1.obj; obtain ⟨tk1, h1, ht1, ht2, ht3, ht4, ht5, ht6⟩ := hr1.tok.app; have ho2 := he.objs (h.n + 1) (by simp [alloc_n]); simp [alloc_at, alloc_n] at ho2; have hn2 := he.n; simp only [alloc_n] at hn2))
    · refine ⟨.full, .full, ?_, ⟨?_, ?_, ?_⟩, ?_, ?_⟩
      · simp only [feedS, hO]
        try (first | rfl | (rw [srows_app]; rfl))
      · simp only [feedS, hO]
        simp (disch := omega) only [set_at, alloc_at, alloc_n, set_n, if_neg, if_pos, eq_self, if_true, ho1, ho2, ht4, ht5]
        try (first | rfl | (rw [srows_app]; rfl))
      · trivial
      · simp only [set_n, alloc_n, ht5]
        omega
      · intro t ht; cases ht
      · repeat' (first | exact ExtX.of hq | (refine ExtX.set ?_ (by first | exact .inl rfl | (right; simp (disch := omega) only [alloc_n, set_n, ht5]; omega)) _) | (refine ExtX.alloc ?_ _) | (refine ExtX.trans (ExtX.of hq) ?_; exact ht6.mono (fun _ x => x.elim) (fun _ x => x)))
  · refine Call.bodyF b_reply_Reader_Feed rfl rfl ?_
    unfold c_reply_Reader_Feed
    repeat' (first
| ((with_reducible apply opsF.op rfl); case hs => first | exact tHT | exact tHS)
| (with_reducible first | apply opsF.nil | apply seqF.nn | apply vcF.seq | apply vcF.region | apply vcF.skip | apply vcF.ret | apply seqF.r)
| ((with_reducible apply opsF.call); case hx => exact tAG)
| ((with_reducible apply opsF.want); (case hg => exact tEV); case hb => exact tNB)
| ((with_reducible apply opsF.skip); (case hg => exact tEV); case hb => exact tNB)
| (first | ((with_reducible apply opsF.case); case hg => exact tEV) | ((with_reducible apply vcF.cond); case hx => exact tEV)) <;> ((intro hc; try simp only [Int.reduceLT, Int.reduceLE, Int.reduceEq, Int.reduceNe, Int.cast_ofNat_Int, Int.reduceNeg, reduceCtorEq, ne_eq, ge_iff_le, gt_iff_lt, beq_iff_eq, beq_eq_false_iff_ne, bne_iff_ne, bne_eq_false_iff_eq, nrm, *] at hc) <;> try (exfalso; omega))
| ((with_reducible apply opsF.und); case hg => rfl)
| ((with_reducible first | apply retF.r | apply retF.nn); case hv => exact tRS)
| (refine (rpsplit_call _ _ _ (by assumption)).mono fun v h' hp => ?_; obtain ⟨hs, he⟩ := hp; simp only [SplitP, hO] at hs; subst hs; have hq := (Ext.alloc h _).trans ((Ext.alloc _ _).trans he); have hr1 := hr.ext hq; have ho1 := hr1.obj; obtain ⟨tk1, h1, ht1, ht2, ht3, ht4, ht5, ht6⟩ := hr1.tok.app; have ho2 := he.objs (h.n + 1) (by simp [alloc_n]); simp [alloc_at, alloc_n] at ho2; have hn2 := he.n; simp only [alloc_n] at hn2))
    · have hcnd : ls ≠ [] ∧ ¬ c = n := ⟨by (intro e; subst e; simp at *), by assumption⟩
      refine ⟨.full, .full, ?_, ⟨?_, ?_, ?_⟩, ?_, ?_⟩
      · simp only [feedS, hO, if_pos hcnd]
        try (first | rfl | (rw [srows_app]; rfl))
      · simp only [feedS, hO, if_pos hcnd]
        simp (disch := omega) only [set_at, alloc_at, alloc_n, set_n, if_neg, if_pos, eq_self, if_true, ho1, ho2, ht4, ht5]
        try (first | rfl | (rw [srows_app]; rfl))
      · trivial
      · simp only [set_n, alloc_n, ht5]
        omega
      · intro t ht; cases ht
      · repeat' (first | exact ExtX.of hq | (refine ExtX.set ?_ (by first | exact .inl rfl | (right; simp (disch := omega) only [alloc_n, set_n, ht5]; omega)) _) | (refine ExtX.alloc ?_ _) | (refine ExtX.trans (ExtX.of hq) ?_; exact ht6.mono (fun _ x => x.elim) (fun _ x => x)))
    · have hcnd : ¬ (ls ≠ [] ∧ c ≠ n) := by (first | (intro hx; exact hx.2 (by assumption)) | (intro hx; apply hx.1; apply List.eq_nil_of_length_eq_zero; omega))
      subst_vars
      refine ⟨.full, tk1, ?_, ⟨?_, ?_, ?_⟩, ?_, ?_⟩
      · simp only [feedS, hO, if_neg hcnd, if_true]
        try (first | rfl | (rw [srows_app]; rfl))
      · simp only [feedS, hO, if_neg hcnd, if_true]
        simp (disch := omega) only [set_at, alloc_at, alloc_n, set_n, if_neg, if_pos, eq_self, if_true, ho1, ho2, ht4, ht5]
        try (first | rfl | (rw [srows_app]; rfl))
      · (first | exact ht2 | exact ⟨ht2.1, ht2.2⟩ | (cases tk1 <;> first | exact ht2.elim | trivial | exact ⟨ht2.1, ht2.2⟩))
      · simp only [set_n, alloc_n, ht5]
        omega
      · intro t ht; rcases ht3 t ht with hz | hz; exact .inl hz; right; have := hq.nt; omega
      · repeat' (first | exact ExtX.of hq | (refine ExtX.set ?_ (by first | exact .inl rfl | (right; simp (disch := omega) only [alloc_n, set_n, ht5]; omega)) _) | (refine ExtX.alloc ?_ _) | (refine ExtX.trans (ExtX.of hq) ?_; exact ht6.mono (fun _ x => x.elim) (fun _ x => x)))
    · have hcnd : ¬ (ls ≠ [] ∧ c ≠ n) := by (first | (intro hx; exact hx.2 (by assumption)) | (intro hx; apply hx.1; apply List.eq_nil_of_length_eq_zero; omega))
      subst_vars
      refine ⟨tk1, .full, ?_, ⟨?_, ?_, ?_⟩, ?_, ?_⟩
      · simp only [feedS, hO, if_neg hcnd, Bool.false_eq_true, if_false]
        try (first | rfl | (rw [srows_app]; rfl))
      · simp only [feedS, hO, if_neg hcnd, Bool.false_eq_true, if_false]
        simp (disch := omega) only [set_at, alloc_at, alloc_n, set_n, if_neg, if_pos, eq_self, if_true, ho1, ho2, ht4, ht5]
        try (first | rfl | (rw [srows_app]; rfl))
      · trivial
      · simp only [set_n, alloc_n, ht5]
        omega
      · intro t ht; cases ht
      · repeat' (first | exact ExtX.of hq | (refine ExtX.set ?_ (by first | exact .inl rfl | (right; simp (disch := omega) only [alloc_n, set_n, ht5]; omega)) _) | (refine ExtX.alloc ?_ _) | (refine ExtX.trans (ExtX.of hq) ?_; exact ht6.mono (fun _ x => x.elim) (fun _ x => x)))
    · have hcnd : ¬ (ls ≠ [] ∧ c ≠ n) := by (first | (intro hx; exact hx.2 (by assumption)) | (intro hx; apply hx.1; apply List.eq_nil_of_length_eq_zero; omega))
      subst_vars
      refine ⟨.full, tk1, ?_, ⟨?_, ?_, ?_⟩, ?_, ?_⟩
      · simp only [feedS, hO, if_neg hcnd, if_true]
        try (first | rfl | (rw [srows_app]; rfl))
      · simp only [feedS, hO, if_neg hcnd, if_true]
        simp (disch := omega) only [set_at, alloc_at, alloc_n, set_n, if_neg, if_pos, eq_self, if_true, ho1, ho2, ht4, ht5]
        try (first | rfl | (rw [srows_app]; rfl))
      · (first | exact ht2 | exact ⟨ht2.1, ht2.2⟩ | (cases tk1 <;> first | exact ht2.elim | trivial | exact ⟨ht2.1, ht2.2⟩))
      · simp only [set_n, alloc_n, ht5]
        omega
      · intro t ht; rcases ht3 t ht with hz | hz; exact .inl hz; right; have := hq.nt; omega
      · repeat' (first | exact ExtX.of hq | (refine ExtX.set ?_ (by first | exact .inl rfl | (right; simp (disch := omega) only [alloc_n, set_n, ht5]; omega)) _) | (refine ExtX.alloc ?_ _) | (refine ExtX.trans (ExtX.of hq) ?_; exact ht6.mono (fun _ x => x.elim) (fun _ x => x)))
    · have hcnd : ¬ (ls ≠ [] ∧ c ≠ n) := by (first | (intro hx; exact hx.2 (by assumption)) | (intro hx; apply hx.1; apply List.eq_nil_of_length_eq_zero; omega))
      subst_vars
      refine ⟨tk1, .full, ?_, ⟨?_, ?_, ?_⟩, ?_, ?_⟩
      · simp only [feedS, hO, if_neg hcnd, Bool.false_eq_true, if_false]
        try (first | rfl | (rw [srows_app]; rfl))
      · simp only [feedS, hO, if_neg hcnd, Bool.false_eq_true, if_false]
        simp (disch := omega) only [set_at, alloc_at, alloc_n, set_n, if_neg, if_pos, eq_self, if_true, ho1, ho2, ht4, ht5]
        try (first | rfl | (rw [srows_app]; rfl))
      · trivial
      · simp only [set_n, alloc_n, ht5]
        omega
      · intro t ht; cases ht
      · repeat' (first | exact ExtX.of hq | (refine ExtX.set ?_ (by first | exact .inl rfl | (right; simp (disch := omega) only [alloc_n, set_n, ht5]; omega)) _) | (refine ExtX.alloc ?_ _) | (refine ExtX.trans (ExtX.of hq) ?_; exact ht6.mono (fun _ x => x.elim) (fun _ x => x)))
end Go.Abs.F
