/- What the proof needs, part 20: Layer 3: numbers of from 1 to 9 digits: the program's and the reference's. Layer 3: options, lists of them, paths behind words. Layer 3: lists of options, paths behind words, MAIL, RCPT, greetings; Layer 3: MAIL, RCPT. Layer 3: commands: the program's. Layer 3: commands: the reference's; Layer 3: commands: the plain side. -/
import Derived.Test.YtlmgpkopcgcbgaaGreatDoorQServeParts14
import Derived.Test.YtlmgpkopcgcbgaaGreatDoorQServeParts12
import Derived.Test.YtlmgpkopcgcbgaaGreatDoorQServeParts13
/- Layer 3: numbers of from 1 to 9 digits: the program's and the reference's. Layer 3: options, lists of them, paths behind words. Layer 3: lists of options, paths behind words, MAIL, RCPT, greetings. -/
namespace Go.Abs.F
open Go Go.Abs
set_option maxRecDepth 10000
set_option maxHeartbeats 20000000
set_option linter.unusedSimpArgs false
set_option linter.unusedVariables false
variable {w0 : World}
/-- What digits give. -/
def DigP (s : List UInt8) (v : AV) : Prop := match digO s with
  | some n => v = .tup [.v (.int .i64 (n : Int)), .v (.bool true)]
  | none => ∃ n : Int, v = .tup [.v (.int .i64 n), .v (.bool false)]
theorem digP_none {s : List UInt8} (h : digO s = none) (n : Int) : DigP s (.tup [.v (.int .i64 n), .v (.bool false)]) := by
  unfold DigP; rw [h]; exact ⟨n, rfl⟩
theorem digO_bad {s : List UInt8} {i : Nat} {x : UInt8} (hx : s[i]? = some x) (h : digB x = false) : digO s = none := by
  rw [digO, if_neg (fun e => by rw [all_bad hx h] at e; exact absurd e.2.2 (by simp))]
theorem atoi_nil : ∀ n, Lib.atoiAll [] ≠ .ok n := fun n e => by cases e
theorem vdigits_call (hE : ErrVars w0) (s : List UInt8) (h : AH) (hl : s.length ≤ 1000000000) : Call P w0 verb_digits [.v (.string (bs s))] h (fun v h' => DigP s v ∧ h' = h) := by
  have hat := fun h => atoiA_call (w0 := w0) hE s h (by omega)
  refine Call.bodyF b_verb_digits rfl rfl ?_
  unfold c_verb_digits
  repeat' (first
| ((with_reducible apply opsF.op rfl); case hs => first | exact tHT | exact tHS)
| (with_reducible first | apply opsF.nil | apply seqF.nn | apply vcF.seq | apply vcF.region | apply vcF.skip | apply vcF.block | apply vcF.exit | apply vcF.ret | apply vcF.loop | apply seqF.e | apply seqF.r | apply blkF.nn | apply blkF.e | apply blkF.r | apply blkF.o rfl)
| ((with_reducible apply opsF.call); case hx => exact tAG)
| ((with_reducible apply opsF.want); (case hg => exact tEV); case hb => exact tNB)
| ((with_reducible apply opsF.skip); (case hg => exact tEV); case hb => exact tNB)
| (first | ((with_reducible apply opsF.case); case hg => exact tEV) | ((with_reducible apply vcF.cond); case hx => exact tEV)) <;> ((intro hc; try simp only [Int.reduceLT, Int.reduceLE, Int.reduceEq, Int.reduceNe, Int.cast_ofNat_Int, Int.reduceNeg, reduceCtorEq, ne_eq, ge_iff_le, gt_iff_lt, beq_iff_eq, beq_eq_false_iff_ne, bne_iff_ne, bne_eq_false_iff_eq, nrm, *] at hc) <;> try (exfalso; omega))
| ((with_reducible apply opsF.und); case hg => rfl)
| ((with_reducible first | apply retF.r | apply retF.nn); case hv => exact tRS))
  refine LpF.ind rfl (fun i : Nat => s.length - i) (fun i σ h' => h' = h ∧ σ 0 = .v (.string (bs s)) ∧ σ 8 = .v (.int .i64 (s.length : Nat)) ∧ σ 9 = .v (.int .i64 (i : Nat)) ∧ i ≤ s.length ∧ (s.take i).all digB = true) ?_ (i := 0) ⟨rfl, rfl, rfl, rfl, Nat.zero_le _, rfl⟩
  rintro i σ h' ⟨rfl, h0, h8, h9, hi, ha⟩
  rcases Nat.lt_or_ge i s.length with hlt | hge
  · obtain ⟨x, hx⟩ : ∃ x, s[i]? = some x := ⟨_, List.getElem?_eq_getElem hlt⟩
    by_cases hx48 : (x.toNat : Int) < 48
    · have hno := digO_bad hx (by simp [digB]; omega)
      repeat' (first
| ((with_reducible apply opsF.op rfl); case hs => first | exact tHT | exact tHS)
| (with_reducible first | apply opsF.nil | apply seqF.nn | apply vcF.seq | apply vcF.region | apply vcF.skip | apply vcF.block | apply vcF.exit | apply vcF.ret | apply vcF.loop | apply seqF.e | apply seqF.r | apply blkF.nn | apply blkF.e | apply blkF.r | apply blkF.o rfl)
| ((with_reducible apply opsF.call); case hx => exact tAG)
| ((with_reducible apply opsF.want); (case hg => exact tEV); case hb => exact tNB)
| ((with_reducible apply opsF.skip); (case hg => exact tEV); case hb => exact tNB)
| (first | ((with_reducible apply opsF.case); case hg => exact tEV) | ((with_reducible apply vcF.cond); case hx => exact tEV)) <;> ((intro hc; try simp only [Int.reduceLT, Int.reduceLE, Int.reduceEq, Int.reduceNe, Int.cast_ofNat_Int, Int.reduceNeg, reduceCtorEq, ne_eq, ge_iff_le, gt_iff_lt, beq_iff_eq, beq_eq_false_iff_ne, bne_iff_ne, bne_eq_false_iff_eq, nrm, *] at hc) <;> try (exfalso; omega))
| ((with_reducible apply opsF.und); case hg => rfl)
| ((with_reducible first | apply retF.r | apply retF.nn); case hv => exact tRS))
      all_goals exact ⟨digP_none hno _, rfl⟩
    · by_cases hx57 : (x.toNat : Int) ≤ 57
      · have hd : digB x = true := by simp [digB]; omega
        repeat' (first
| ((with_reducible apply opsF.op rfl); case hs => first | exact tHT | exact tHS)
| (with_reducible first | apply opsF.nil | apply seqF.nn | apply vcF.seq | apply vcF.region | apply vcF.skip | apply vcF.block | apply vcF.exit | apply vcF.ret | apply vcF.loop | apply seqF.e | apply seqF.r | apply blkF.nn | apply blkF.e | apply blkF.r | apply blkF.o rfl)
| ((with_reducible apply opsF.call); case hx => exact tAG)
| ((with_reducible apply opsF.want); (case hg => exact tEV); case hb => exact tNB)
| ((with_reducible apply opsF.skip); (case hg => exact tEV); case hb => exact tNB)
| (first | ((with_reducible apply opsF.case); case hg => exact tEV) | ((with_reducible apply vcF.cond); case hx => exact tEV)) <;> ((intro hc; try simp only [Int.reduceLT, Int.reduceLE, Int.reduceEq, Int.reduceNe, Int.cast_ofNat_Int, Int.reduceNeg, reduceCtorEq, ne_eq, ge_iff_le, gt_iff_lt, beq_iff_eq, beq_eq_false_iff_ne, bne_iff_ne, bne_eq_false_iff_eq, nrm, *] at hc) <;> try (exfalso; omega))
| ((with_reducible apply opsF.und); case hg => rfl)
| ((with_reducible first | apply retF.r | apply retF.nn); case hv => exact tRS))
        refine ⟨i + 1, by omega, rfl, h0, h8, rfl, by omega, ?_⟩
        rw [List.take_add_one, hx, List.all_append, ha]
        simp [hd]
      · have hno := digO_bad hx (by simp [digB]; omega)
        repeat' (first
| ((with_reducible apply opsF.op rfl); case hs => first | exact tHT | exact tHS)
| (with_reducible first | apply opsF.nil | apply seqF.nn | apply vcF.seq | apply vcF.region | apply vcF.skip | apply vcF.block | apply vcF.exit | apply vcF.ret | apply vcF.loop | apply seqF.e | apply seqF.r | apply blkF.nn | apply blkF.e | apply blkF.r | apply blkF.o rfl)
| ((with_reducible apply opsF.call); case hx => exact tAG)
| ((with_reducible apply opsF.want); (case hg => exact tEV); case hb => exact tNB)
| ((with_reducible apply opsF.skip); (case hg => exact tEV); case hb => exact tNB)
| (first | ((with_reducible apply opsF.case); case hg => exact tEV) | ((with_reducible apply vcF.cond); case hx => exact tEV)) <;> ((intro hc; try simp only [Int.reduceLT, Int.reduceLE, Int.reduceEq, Int.reduceNe, Int.cast_ofNat_Int, Int.reduceNeg, reduceCtorEq, ne_eq, ge_iff_le, gt_iff_lt, beq_iff_eq, beq_eq_false_iff_ne, bne_iff_ne, bne_eq_false_iff_eq, nrm, *] at hc) <;> try (exfalso; omega))
| ((with_reducible apply opsF.und); case hg => rfl)
| ((with_reducible first | apply retF.r | apply retF.nn); case hv => exact tRS))
        all_goals exact ⟨digP_none hno _, rfl⟩
  · obtain rfl : i = s.length := by omega
    rw [List.take_length] at ha
    by_cases h9 : s.length ≤ 9
    · by_cases hn : s = []
      · have hno : digO s = none := by rw [digO, if_neg (fun e => e.1 hn)]
        subst hn
        repeat' (first
| ((with_reducible apply opsF.op rfl); case hs => first | exact tHT | exact tHS)
| (with_reducible first | apply opsF.nil | apply seqF.nn | apply vcF.seq | apply vcF.region | apply vcF.skip | apply vcF.block | apply vcF.exit | apply vcF.ret | apply vcF.loop | apply seqF.e | apply seqF.r | apply blkF.nn | apply blkF.e | apply blkF.r | apply blkF.o rfl)
| ((with_reducible apply opsF.call); case hx => exact tAG)
| ((with_reducible apply opsF.want); (case hg => exact tEV); case hb => exact tNB)
| ((with_reducible apply opsF.skip); (case hg => exact tEV); case hb => exact tNB)
| (first | ((with_reducible apply opsF.case); case hg => exact tEV) | ((with_reducible apply vcF.cond); case hx => exact tEV)) <;> ((intro hc; try simp only [Int.reduceLT, Int.reduceLE, Int.reduceEq, Int.reduceNe, Int.cast_ofNat_Int, Int.reduceNeg, reduceCtorEq, ne_eq, ge_iff_le, gt_iff_lt, beq_iff_eq, beq_eq_false_iff_ne, bne_iff_ne, bne_eq_false_iff_eq, nrm, *] at hc) <;> try (exfalso; omega))
| ((with_reducible apply opsF.und); case hg => rfl)
| ((with_reducible first | apply retF.r | apply retF.nn); case hv => exact tRS)
| ((refine (hat _).mono fun v h2 hp => ?_); obtain ⟨(⟨n, hq, _⟩ | ⟨_, k, te, rfl⟩), rfl⟩ := hp; (exact absurd hq (atoi_nil n))))
        all_goals exact ⟨digP_none hno _, rfl⟩
      · have hok := atoi_dig hn h9 ha
        have hyes : DigP s (.tup [.v (.int .i64 (valB 0 s : Nat)), .v (.bool true)]) := by
          unfold DigP; rw [digO, if_pos ⟨hn, h9, ha⟩]
        repeat' (first
| ((with_reducible apply opsF.op rfl); case hs => first | exact tHT | exact tHS)
| (with_reducible first | apply opsF.nil | apply seqF.nn | apply vcF.seq | apply vcF.region | apply vcF.skip | apply vcF.block | apply vcF.exit | apply vcF.ret | apply vcF.loop | apply seqF.e | apply seqF.r | apply blkF.nn | apply blkF.e | apply blkF.r | apply blkF.o rfl)
| ((with_reducible apply opsF.call); case hx => exact tAG)
| ((with_reducible apply opsF.want); (case hg => exact tEV); case hb => exact tNB)
| ((with_reducible apply opsF.skip); (case hg => exact tEV); case hb => exact tNB)
| (first | ((with_reducible apply opsF.case); case hg => exact tEV) | ((with_reducible apply vcF.cond); case hx => exact tEV)) <;> ((intro hc; try simp only [Int.reduceLT, Int.reduceLE, Int.reduceEq, Int.reduceNe, Int.cast_ofNat_Int, Int.reduceNeg, reduceCtorEq, ne_eq, ge_iff_le, gt_iff_lt, beq_iff_eq, beq_eq_false_iff_ne, bne_iff_ne, bne_eq_false_iff_eq, nrm, *] at hc) <;> try (exfalso; omega))
| ((with_reducible apply opsF.und); case hg => rfl)
| ((with_reducible first | apply retF.r | apply retF.nn); case hv => exact tRS)
| ((refine (hat _).mono fun v h2 hp => ?_); obtain ⟨(⟨n, hq, rfl⟩ | ⟨hq, k, te, rfl⟩), rfl⟩ := hp; (rw [hok] at hq; injection hq with hq; subst hq); rotate_left; (exact absurd hok (hq _))))
        all_goals (rw [show decide ((s.length : Int) ≤ 9) = true from decide_eq_true (by omega)]; exact ⟨hyes, rfl⟩)
    · have hno : digO s = none := by rw [digO, if_neg (fun e => h9 e.2.1)]
      repeat' (first
| ((with_reducible apply opsF.op rfl); case hs => first | exact tHT | exact tHS)
| (with_reducible first | apply opsF.nil | apply seqF.nn | apply vcF.seq | apply vcF.region | apply vcF.skip | apply vcF.block | apply vcF.exit | apply vcF.ret | apply vcF.loop | apply seqF.e | apply seqF.r | apply blkF.nn | apply blkF.e | apply blkF.r | apply blkF.o rfl)
| ((with_reducible apply opsF.call); case hx => exact tAG)
| ((with_reducible apply opsF.want); (case hg => exact tEV); case hb => exact tNB)
| ((with_reducible apply opsF.skip); (case hg => exact tEV); case hb => exact tNB)
| (first | ((with_reducible apply opsF.case); case hg => exact tEV) | ((with_reducible apply vcF.cond); case hx => exact tEV)) <;> ((intro hc; try simp only [Int.reduceLT, Int.reduceLE, Int.reduceEq, Int.reduceNe, Int.cast_ofNat_Int, Int.reduceNeg, reduceCtorEq, ne_eq, ge_iff_le, gt_iff_lt, beq_iff_eq, beq_eq_false_iff_ne, bne_iff_ne, bne_eq_false_iff_eq, nrm, *] at hc) <;> try (exfalso; omega))
| ((with_reducible apply opsF.und); case hg => rfl)
| ((with_reducible first | apply retF.r | apply retF.nn); case hv => exact tRS)
| ((refine (hat _).mono fun v h2 hp => ?_); obtain ⟨(⟨n, hq, rfl⟩ | ⟨hq, k, te, rfl⟩), rfl⟩ := hp))
      all_goals first
        | (rw [show decide ((s.length : Int) ≤ 9) = false from decide_eq_false (by omega)]; exact ⟨digP_none hno _, rfl⟩)
        | exact ⟨digP_none hno _, rfl⟩
end Go.Abs.F
namespace Go.Abs.F
open Go Go.Abs
set_option maxRecDepth 10000
set_option maxHeartbeats 20000000
set_option linter.unusedSimpArgs false
set_option linter.unusedVariables false
variable {w0 : World}
abbrev OS := Int × Bool × Bool
def sizeS (st : OS) (told : Bool) : Option Nat → Int × OS
  | some n => if told = true ∧ st.1 < 0 then (0, ((n : Int), st.2)) else (501, st)
  | none => (501, st)
def optK (st : OS) (k val : List UInt8) (told : Bool) : Int × OS :=
  if k = [] then (501, st) else if k = [83, 73, 90, 69] then sizeS st told (digO val)
  else if k = [66, 79, 68, 89] then (if st.2.2 = true ∨ (val ≠ [55, 66, 73, 84] ∧ val ≠ [56, 66, 73, 84, 77, 73, 77, 69]) then (501, st) else (0, (st.1, decide (val = [56, 66, 73, 84, 77, 73, 77, 69]), true)))
  else (555, st)
def optS (st : OS) (w : List UInt8) : Int × OS := optK st (cutB 61 (upperS w)).1 (cutB 61 (upperS w)).2.1 (cutB 61 (upperS w)).2.2
theorem upperS_len (s : List UInt8) : (upperS s).length = s.length := by simp [upperS]
/-- A verb's object, the flag's. -/
structure VO (h : AH) (i j : Nat) (nm ar : List UInt8) (st : OS) : Prop where
  v : h.objs i = some (.cells [.v (.string (bs nm)), .v (.string (bs ar)), .v (.int .i64 st.1), .v (.bool st.2.1)])
  b : h.objs j = some (.cells [.v (.bool st.2.2)])
  ij : i ≠ j
  il : i < h.n
  jl : j < h.n
theorem VO.ext {h h' : AH} {i j : Nat} {nm ar : List UInt8} {st : OS} (e : Ext h h') (k : VO h i j nm ar st) : VO h' i j nm ar st :=
  ⟨(e.objs i k.il).trans k.v, (e.objs j k.jl).trans k.b, k.ij, Nat.lt_of_lt_of_le k.il e.n, Nat.lt_of_lt_of_le k.jl e.n⟩
theorem VO.setv {h : AH} {i j : Nat} {nm ar : List UInt8} {st : OS} (k : VO h i j nm ar st) (n : Int) (wd : Bool) : VO (h.set i (.cells [.v (.string (bs nm)), .v (.string (bs ar)), .v (.int .i64 n), .v (.bool wd)])) i j nm ar (n, wd, st.2.2) := by
  have h1 := k.ij
  refine ⟨?_, ?_, k.ij, k.il, k.jl⟩
  · simp [set_at]
  · rw [set_at, if_neg (fun e => h1 e.symm)]; exact k.b
theorem VO.setb {h : AH} {i j : Nat} {nm ar : List UInt8} {st : OS} (k : VO h i j nm ar st) (b : Bool) : VO (h.set j (.cells [.v (.bool b)])) i j nm ar (st.1, st.2.1, b) := by
  refine ⟨?_, ?_, k.ij, k.il, k.jl⟩
  · rw [set_at, if_neg k.ij]; exact k.v
  · simp [set_at]
theorem option_call (hE : ErrVars w0) (i j : Nat) (nm ar : List UInt8) (st : OS) (w : List UInt8) (h : AH) (k : VO h i j nm ar st) (hl : w.length ≤ 1000000000) :
    Call P w0 verb_option [.ptr i 0, .v (.string (bs w)), .ptr j 0] h (fun v h' => v = .v (.int .i64 (optS st w).1) ∧ VO h' i j nm ar (optS st w).2 ∧ ExtX (fun x => x = i ∨ x = j) (fun _ => False) h h') := by
  have hup := fun h => upper_call (w0 := w0) w h (by omega)
  have hcut := fun h => cut_call (w0 := w0) (upperS w) 61 h (by rw [upperS_len]; omega)
  have hbd := cutB_le 61 (upperS w)
  rw [upperS_len] at hbd
  unfold optS
  generalize cutB 61 (upperS w) = q at *
  generalize upperS w = u at *
  obtain ⟨key, val, told⟩ := q
  simp only [] at *
  have hdi := fun h => vdigits_call (w0 := w0) hE val h (by omega)
  obtain ⟨sz, wd, bd⟩ := st
  have n1 : ¬ ([66, 79, 68, 89] : List UInt8) = [83, 73, 90, 69] := by decide
  have n2 : ¬ ([55, 66, 73, 84] : List UInt8) = [56, 66, 73, 84, 77, 73, 77, 69] := by decide
  have n3 : ¬ ([56, 66, 73, 84, 77, 73, 77, 69] : List UInt8) = [55, 66, 73, 84] := by decide
  refine Call.bodyF b_verb_option rfl rfl ?_
  unfold c_verb_option
  by_cases hk0 : key = []
  · rw [optK, if_pos hk0]
    obtain ⟨k1, k2, k3, k4, k5⟩ := id k
    simp only [] at k1 k2
    repeat' (first
| ((with_reducible apply opsF.op rfl); case hs => first | exact tHT | exact tHS)
| (with_reducible first | apply opsF.nil | apply seqF.nn | apply vcF.seq | apply vcF.region | apply vcF.skip | apply vcF.block | apply vcF.exit | apply vcF.ret | apply vcF.loop | apply seqF.e | apply seqF.r | apply blkF.nn | apply blkF.e | apply blkF.r | apply blkF.o rfl)
| ((with_reducible apply opsF.call); case hx => exact tAG)
| ((with_reducible apply opsF.want); (case hg => exact tEV); case hb => exact tNB)
| ((with_reducible apply opsF.skip); (case hg => exact tEV); case hb => exact tNB)
| (first | ((with_reducible apply opsF.case); case hg => exact tEV) | ((with_reducible apply vcF.cond); case hx => exact tEV)) <;> ((intro hc; try simp only [Int.reduceLT, Int.reduceLE, Int.reduceEq, Int.reduceNe, Int.cast_ofNat_Int, Int.reduceNeg, reduceCtorEq, ne_eq, ge_iff_le, gt_iff_lt, beq_iff_eq, beq_eq_false_iff_ne, bne_iff_ne, bne_eq_false_iff_eq, nrm, *] at hc) <;> try (exfalso; omega))
| ((with_reducible apply opsF.und); case hg => rfl)
| ((with_reducible first | apply retF.r | apply retF.nn); case hv => exact tRS)
| ((refine (hup _).mono fun v h2 hp => ?_); obtain ⟨rfl, he⟩ := hp; have hN := he.n; have hO := he.objs; (try simp only [alloc_n, set_n, newTok_n, bump_n] at hN hO))
| ((refine (hcut _).mono fun v h2 hp => ?_); obtain ⟨rfl, rfl⟩ := hp))
    all_goals exact ⟨rfl, k.ext he, .of he⟩
  · by_cases hk1 : key = [83, 73, 90, 69]
    · rw [optK, if_neg hk0, if_pos hk1]
      obtain ⟨k1, k2, k3, k4, k5⟩ := id k
      simp only [] at k1 k2
      unfold DigP at hdi
      cases hd : digO val with
      | none =>
        rw [hd] at hdi
        simp only [] at hdi
        rw [sizeS]
        cases told
        all_goals repeat' (first
| ((with_reducible apply opsF.op rfl); case hs => first | exact tHT | exact tHS)
| (with_reducible first | apply opsF.nil | apply seqF.nn | apply vcF.seq | apply vcF.region | apply vcF.skip | apply vcF.block | apply vcF.exit | apply vcF.ret | apply vcF.loop | apply seqF.e | apply seqF.r | apply blkF.nn | apply blkF.e | apply blkF.r | apply blkF.o rfl)
| ((with_reducible apply opsF.call); case hx => exact tAG)
| ((with_reducible apply opsF.want); (case hg => exact tEV); case hb => exact tNB)
| ((with_reducible apply opsF.skip); (case hg => exact tEV); case hb => exact tNB)
| (first | ((with_reducible apply opsF.case); case hg => exact tEV) | ((with_reducible apply vcF.cond); case hx => exact tEV)) <;> ((intro hc; try simp only [Int.reduceLT, Int.reduceLE, Int.reduceEq, Int.reduceNe, Int.cast_ofNat_Int, Int.reduceNeg, reduceCtorEq, ne_eq, ge_iff_le, gt_iff_lt, beq_iff_eq, beq_eq_false_iff_ne, bne_iff_ne, bne_eq_false_iff_eq, nrm, *] at hc) <;> try (exfalso; omega))
| ((with_reducible apply opsF.und); case hg => rfl)
| ((with_reducible first | apply retF.r | apply retF.nn); case hv => exact tRS)
| ((refine (hup _).mono fun v h2 hp => ?_); obtain ⟨rfl, he⟩ := hp; have hN := he.n; have hO := he.objs; (try simp only [alloc_n, set_n, newTok_n, bump_n] at hN hO))
| ((refine (hcut _).mono fun v h2 hp => ?_); obtain ⟨rfl, rfl⟩ := hp)
| ((refine (hdi _).mono fun v h2 hp => ?_); obtain ⟨⟨n, rfl⟩, rfl⟩ := hp))
        all_goals exact ⟨rfl, k.ext he, .of he⟩
      | some n =>
        rw [hd] at hdi
        simp only [] at hdi
        rw [sizeS]
        by_cases hc : told = true ∧ sz < 0
        · rw [if_pos hc]
          obtain ⟨rfl, hs0⟩ := hc
          repeat' (first
| ((with_reducible apply opsF.op rfl); case hs => first | exact tHT | exact tHS)
| (with_reducible first | apply opsF.nil | apply seqF.nn | apply vcF.seq | apply vcF.region | apply vcF.skip | apply vcF.block | apply vcF.exit | apply vcF.ret | apply vcF.loop | apply seqF.e | apply seqF.r | apply blkF.nn | apply blkF.e | apply blkF.r | apply blkF.o rfl)
| ((with_reducible apply opsF.call); case hx => exact tAG)
| ((with_reducible apply opsF.want); (case hg => exact tEV); case hb => exact tNB)
| ((with_reducible apply opsF.skip); (case hg => exact tEV); case hb => exact tNB)
| (first | ((with_reducible apply opsF.case); case hg => exact tEV) | ((with_reducible apply vcF.cond); case hx => exact tEV)) <;> ((intro hc; try simp only [Int.reduceLT, Int.reduceLE, Int.reduceEq, Int.reduceNe, Int.cast_ofNat_Int, Int.reduceNeg, reduceCtorEq, ne_eq, ge_iff_le, gt_iff_lt, beq_iff_eq, beq_eq_false_iff_ne, bne_iff_ne, bne_eq_false_iff_eq, nrm, *] at hc) <;> try (exfalso; omega))
| ((with_reducible apply opsF.und); case hg => rfl)
| ((with_reducible first | apply retF.r | apply retF.nn); case hv => exact tRS)
| ((refine (hup _).mono fun v h2 hp => ?_); obtain ⟨rfl, he⟩ := hp; have hN := he.n; have hO := he.objs; (try simp only [alloc_n, set_n, newTok_n, bump_n] at hN hO); have kk := k.ext he; have kv := kk.v; simp only [] at kv)
| ((refine (hcut _).mono fun v h2 hp => ?_); obtain ⟨rfl, rfl⟩ := hp)
| ((refine (hdi _).mono fun v h2 hp => ?_); obtain ⟨rfl, rfl⟩ := hp))
          all_goals exact ⟨rfl, kk.setv _ _, (ExtX.of he).set (.inl (.inl rfl)) _⟩
        · rw [if_neg hc]
          cases told
          · clear hc
            repeat' (first
| ((with_reducible apply opsF.op rfl); case hs => first | exact tHT | exact tHS)
| (with_reducible first | apply opsF.nil | apply seqF.nn | apply vcF.seq | apply vcF.region | apply vcF.skip | apply vcF.block | apply vcF.exit | apply vcF.ret | apply vcF.loop | apply seqF.e | apply seqF.r | apply blkF.nn | apply blkF.e | apply blkF.r | apply blkF.o rfl)
| ((with_reducible apply opsF.call); case hx => exact tAG)
| ((with_reducible apply opsF.want); (case hg => exact tEV); case hb => exact tNB)
| ((with_reducible apply opsF.skip); (case hg => exact tEV); case hb => exact tNB)
| (first | ((with_reducible apply opsF.case); case hg => exact tEV) | ((with_reducible apply vcF.cond); case hx => exact tEV)) <;> ((intro hc; try simp only [Int.reduceLT, Int.reduceLE, Int.reduceEq, Int.reduceNe, Int.cast_ofNat_Int, Int.reduceNeg, reduceCtorEq, ne_eq, ge_iff_le, gt_iff_lt, beq_iff_eq, beq_eq_false_iff_ne, bne_iff_ne, bne_eq_false_iff_eq, nrm, *] at hc) <;> try (exfalso; omega))
| ((with_reducible apply opsF.und); case hg => rfl)
| ((with_reducible first | apply retF.r | apply retF.nn); case hv => exact tRS)
| ((refine (hup _).mono fun v h2 hp => ?_); obtain ⟨rfl, he⟩ := hp; have hN := he.n; have hO := he.objs; (try simp only [alloc_n, set_n, newTok_n, bump_n] at hN hO))
| ((refine (hcut _).mono fun v h2 hp => ?_); obtain ⟨rfl, rfl⟩ := hp)
| ((refine (hdi _).mono fun v h2 hp => ?_); obtain ⟨rfl, rfl⟩ := hp))
            all_goals exact ⟨rfl, k.ext he, .of he⟩
          · have hs0 : 0 ≤ sz := by
              have : ¬ sz < 0 := fun e => hc ⟨rfl, e⟩
              omega
            clear hc
            repeat' (first
| ((with_reducible apply opsF.op rfl); case hs => first | exact tHT | exact tHS)
| (with_reducible first | apply opsF.nil | apply seqF.nn | apply vcF.seq | apply vcF.region | apply vcF.skip | apply vcF.block | apply vcF.exit | apply vcF.ret | apply vcF.loop | apply seqF.e | apply seqF.r | apply blkF.nn | apply blkF.e | apply blkF.r | apply blkF.o rfl)
| ((with_reducible apply opsF.call); case hx => exact tAG)
| ((with_reducible apply opsF.want); (case hg => exact tEV); case hb => exact tNB)
| ((with_reducible apply opsF.skip); (case hg => exact tEV); case hb => exact tNB)
| (first | ((with_reducible apply opsF.case); case hg => exact tEV) | ((with_reducible apply vcF.cond); case hx => exact tEV)) <;> ((intro hc; try simp only [Int.reduceLT, Int.reduceLE, Int.reduceEq, Int.reduceNe, Int.cast_ofNat_Int, Int.reduceNeg, reduceCtorEq, ne_eq, ge_iff_le, gt_iff_lt, beq_iff_eq, beq_eq_false_iff_ne, bne_iff_ne, bne_eq_false_iff_eq, nrm, *] at hc) <;> try (exfalso; omega))
| ((with_reducible apply opsF.und); case hg => rfl)
| ((with_reducible first | apply retF.r | apply retF.nn); case hv => exact tRS)
| ((refine (hup _).mono fun v h2 hp => ?_); obtain ⟨rfl, he⟩ := hp; have hN := he.n; have hO := he.objs; (try simp only [alloc_n, set_n, newTok_n, bump_n] at hN hO); have kk := k.ext he; have kv := kk.v; simp only [] at kv)
| ((refine (hcut _).mono fun v h2 hp => ?_); obtain ⟨rfl, rfl⟩ := hp)
| ((refine (hdi _).mono fun v h2 hp => ?_); obtain ⟨rfl, rfl⟩ := hp))
            all_goals exact ⟨rfl, k.ext he, .of he⟩
    · by_cases hk2 : key = [66, 79, 68, 89]
      · rw [optK, if_neg hk0, if_neg hk1, if_pos hk2]
        clear hdi
        obtain ⟨k1, k2, k3, k4, k5⟩ := id k
        simp only [] at k1 k2
        cases bd
        · by_cases v7 : val = [55, 66, 73, 84]
          · have v8 : ¬ val = [56, 66, 73, 84, 77, 73, 77, 69] := by rw [v7]; simp
            rw [if_neg (by rintro (e | e); (· cases e); (· exact e.1 v7)), decide_eq_false v8]
            clear v8
            repeat' (first
| ((with_reducible apply opsF.op rfl); case hs => first | exact tHT | exact tHS)
| (with_reducible first | apply opsF.nil | apply seqF.nn | apply vcF.seq | apply vcF.region | apply vcF.skip | apply vcF.block | apply vcF.exit | apply vcF.ret | apply vcF.loop | apply seqF.e | apply seqF.r | apply blkF.nn | apply blkF.e | apply blkF.r | apply blkF.o rfl)
| ((with_reducible apply opsF.call); case hx => exact tAG)
| ((with_reducible apply opsF.want); (case hg => exact tEV); case hb => exact tNB)
| ((with_reducible apply opsF.skip); (case hg => exact tEV); case hb => exact tNB)
| (first | ((with_reducible apply opsF.case); case hg => exact tEV) | ((with_reducible apply vcF.cond); case hx => exact tEV)) <;> ((intro hc; try simp only [Int.reduceLT, Int.reduceLE, Int.reduceEq, Int.reduceNe, Int.cast_ofNat_Int, Int.reduceNeg, reduceCtorEq, ne_eq, ge_iff_le, gt_iff_lt, beq_iff_eq, beq_eq_false_iff_ne, bne_iff_ne, bne_eq_false_iff_eq, nrm, *] at hc) <;> try (exfalso; omega))
| ((with_reducible apply opsF.und); case hg => rfl)
| ((with_reducible first | apply retF.r | apply retF.nn); case hv => exact tRS)
| ((refine (hup _).mono fun v h2 hp => ?_); obtain ⟨rfl, he⟩ := hp; have hN := he.n; have hO := he.objs; (try simp only [alloc_n, set_n, newTok_n, bump_n] at hN hO); have kk := k.ext he; have kv := kk.v; have kb := kk.b; simp only [] at kv kb)
| ((refine (hcut _).mono fun v h2 hp => ?_); obtain ⟨rfl, rfl⟩ := hp))
            all_goals exact ⟨rfl, (kk.setb true).setv _ _, ((ExtX.of he).set (.inl (.inr rfl)) _).set (.inl (.inl rfl)) _⟩
          · by_cases v8 : val = [56, 66, 73, 84, 77, 73, 77, 69]
            · rw [if_neg (by rintro (e | e); (· cases e); (· exact e.2 v8)), decide_eq_true v8]
              repeat' (first
| ((with_reducible apply opsF.op rfl); case hs => first | exact tHT | exact tHS)
| (with_reducible first | apply opsF.nil | apply seqF.nn | apply vcF.seq | apply vcF.region | apply vcF.skip | apply vcF.block | apply vcF.exit | apply vcF.ret | apply vcF.loop | apply seqF.e | apply seqF.r | apply blkF.nn | apply blkF.e | apply blkF.r | apply blkF.o rfl)
| ((with_reducible apply opsF.call); case hx => exact tAG)
| ((with_reducible apply opsF.want); (case hg => exact tEV); case hb => exact tNB)
| ((with_reducible apply opsF.skip); (case hg => exact tEV); case hb => exact tNB)
| (first | ((with_reducible apply opsF.case); case hg => exact tEV) | ((with_reducible apply vcF.cond); case hx => exact tEV)) <;> ((intro hc; try simp only [Int.reduceLT, Int.reduceLE, Int.reduceEq, Int.reduceNe, Int.cast_ofNat_Int, Int.reduceNeg, reduceCtorEq, ne_eq, ge_iff_le, gt_iff_lt, beq_iff_eq, beq_eq_false_iff_ne, bne_iff_ne, bne_eq_false_iff_eq, nrm, *] at hc) <;> try (exfalso; omega))
| ((with_reducible apply opsF.und); case hg => rfl)
| ((with_reducible first | apply retF.r | apply retF.nn); case hv => exact tRS)
| ((refine (hup _).mono fun v h2 hp => ?_); obtain ⟨rfl, he⟩ := hp; have hN := he.n; have hO := he.objs; (try simp only [alloc_n, set_n, newTok_n, bump_n] at hN hO); have kk := k.ext he; have kv := kk.v; have kb := kk.b; simp only [] at kv kb)
| ((refine (hcut _).mono fun v h2 hp => ?_); obtain ⟨rfl, rfl⟩ := hp))
              all_goals exact ⟨rfl, (kk.setb true).setv _ _, ((ExtX.of he).set (.inl (.inr rfl)) _).set (.inl (.inl rfl)) _⟩
            · rw [if_pos (.inr ⟨v7, v8⟩)]
              repeat' (first
| ((with_reducible apply opsF.op rfl); case hs => first | exact tHT | exact tHS)
| (with_reducible first | apply opsF.nil | apply seqF.nn | apply vcF.seq | apply vcF.region | apply vcF.skip | apply vcF.block | apply vcF.exit | apply vcF.ret | apply vcF.loop | apply seqF.e | apply seqF.r | apply blkF.nn | apply blkF.e | apply blkF.r | apply blkF.o rfl)
| ((with_reducible apply opsF.call); case hx => exact tAG)
| ((with_reducible apply opsF.want); (case hg => exact tEV); case hb => exact tNB)
| ((with_reducible apply opsF.skip); (case hg => exact tEV); case hb => exact tNB)
| (first | ((with_reducible apply opsF.case); case hg => exact tEV) | ((with_reducible apply vcF.cond); case hx => exact tEV)) <;> ((intro hc; try simp only [Int.reduceLT, Int.reduceLE, Int.reduceEq, Int.reduceNe, Int.cast_ofNat_Int, Int.reduceNeg, reduceCtorEq, ne_eq, ge_iff_le, gt_iff_lt, beq_iff_eq, beq_eq_false_iff_ne, bne_iff_ne, bne_eq_false_iff_eq, nrm, *] at hc) <;> try (exfalso; omega))
| ((with_reducible apply opsF.und); case hg => rfl)
| ((with_reducible first | apply retF.r | apply retF.nn); case hv => exact tRS)
| ((refine (hup _).mono fun v h2 hp => ?_); obtain ⟨rfl, he⟩ := hp; have hN := he.n; have hO := he.objs; (try simp only [alloc_n, set_n, newTok_n, bump_n] at hN hO); have kk := k.ext he; have kv := kk.v; have kb := kk.b; simp only [] at kv kb)
| ((refine (hcut _).mono fun v h2 hp => ?_); obtain ⟨rfl, rfl⟩ := hp))
              all_goals exact ⟨rfl, k.ext he, .of he⟩
        · rw [if_pos (.inl rfl)]
          repeat' (first
| ((with_reducible apply opsF.op rfl); case hs => first | exact tHT | exact tHS)
| (with_reducible first | apply opsF.nil | apply seqF.nn | apply vcF.seq | apply vcF.region | apply vcF.skip | apply vcF.block | apply vcF.exit | apply vcF.ret | apply vcF.loop | apply seqF.e | apply seqF.r | apply blkF.nn | apply blkF.e | apply blkF.r | apply blkF.o rfl)
| ((with_reducible apply opsF.call); case hx => exact tAG)
| ((with_reducible apply opsF.want); (case hg => exact tEV); case hb => exact tNB)
| ((with_reducible apply opsF.skip); (case hg => exact tEV); case hb => exact tNB)
| (first | ((with_reducible apply opsF.case); case hg => exact tEV) | ((with_reducible apply vcF.cond); case hx => exact tEV)) <;> ((intro hc; try simp only [Int.reduceLT, Int.reduceLE, Int.reduceEq, Int.reduceNe, Int.cast_ofNat_Int, Int.reduceNeg, reduceCtorEq, ne_eq, ge_iff_le, gt_iff_lt, beq_iff_eq, beq_eq_false_iff_ne, bne_iff_ne, bne_eq_false_iff_eq, nrm, *] at hc) <;> try (exfalso; omega))
| ((with_reducible apply opsF.und); case hg => rfl)
| ((with_reducible first | apply retF.r | apply retF.nn); case hv => exact tRS)
| ((refine (hup _).mono fun v h2 hp => ?_); obtain ⟨rfl, he⟩ := hp; have hN := he.n; have hO := he.objs; (try simp only [alloc_n, set_n, newTok_n, bump_n] at hN hO); have kk := k.ext he; have kv := kk.v; have kb := kk.b; simp only [] at kv kb)
| ((refine (hcut _).mono fun v h2 hp => ?_); obtain ⟨rfl, rfl⟩ := hp))
          all_goals exact ⟨rfl, k.ext he, .of he⟩
      · rw [optK, if_neg hk0, if_neg hk1, if_neg hk2]
        clear hdi
        obtain ⟨k1, k2, k3, k4, k5⟩ := id k
        simp only [] at k1 k2
        repeat' (first
| ((with_reducible apply opsF.op rfl); case hs => first | exact tHT | exact tHS)
| (with_reducible first | apply opsF.nil | apply seqF.nn | apply vcF.seq | apply vcF.region | apply vcF.skip | apply vcF.block | apply vcF.exit | apply vcF.ret | apply vcF.loop | apply seqF.e | apply seqF.r | apply blkF.nn | apply blkF.e | apply blkF.r | apply blkF.o rfl)
| ((with_reducible apply opsF.call); case hx => exact tAG)
| ((with_reducible apply opsF.want); (case hg => exact tEV); case hb => exact tNB)
| ((with_reducible apply opsF.skip); (case hg => exact tEV); case hb => exact tNB)
| (first | ((with_reducible apply opsF.case); case hg => exact tEV) | ((with_reducible apply vcF.cond); case hx => exact tEV)) <;> ((intro hc; try simp only [Int.reduceLT, Int.reduceLE, Int.reduceEq, Int.reduceNe, Int.cast_ofNat_Int, Int.reduceNeg, reduceCtorEq, ne_eq, ge_iff_le, gt_iff_lt, beq_iff_eq, beq_eq_false_iff_ne, bne_iff_ne, bne_eq_false_iff_eq, nrm, *] at hc) <;> try (exfalso; omega))
| ((with_reducible apply opsF.und); case hg => rfl)
| ((with_reducible first | apply retF.r | apply retF.nn); case hv => exact tRS)
| ((refine (hup _).mono fun v h2 hp => ?_); obtain ⟨rfl, he⟩ := hp; have hN := he.n; have hO := he.objs; (try simp only [alloc_n, set_n, newTok_n, bump_n] at hN hO))
| ((refine (hcut _).mono fun v h2 hp => ?_); obtain ⟨rfl, rfl⟩ := hp))
        all_goals exact ⟨rfl, k.ext he, .of he⟩
end Go.Abs.F
namespace Go.Abs.F
open Go Go.Abs
set_option maxRecDepth 10000
set_option maxHeartbeats 20000000
set_option linter.unusedSimpArgs false
set_option linter.unusedVariables false
variable {w0 : World}
def eachG {S : Type} (step : S → List UInt8 → Int × S) : S → Int → List (List UInt8) → Int × S
  | st, c, [] => (c, st)
  | st, c, w :: ws => if (step st w).1 = 501 then (501, (step st w).2) else eachG step (step st w).2 (if (step st w).1 = 0 then c else (step st w).1) ws
theorem each_call {S : Type} (fn : FuncId) (caps : List AV) (step : S → List UInt8 → Int × S) (R : S → AH → Prop) (l : List (List UInt8)) (tok : Tok)
    (hp : ∀ s ∈ l, ∀ st h, R st h → Call P w0 fn (.v (.string (bs s)) :: caps) h fun v h' => v = .v (.int .i64 (step st s).1) ∧ R (step st s).2 h')
    (st : S) (h : AH) (hR : R st h) (hl : l.length ≤ 1000000000000) :
    Call P w0 verb_each [.list 1 (srows l) tok, .func (.func fn) [] caps] h fun v h' => v = .v (.int .i64 (eachG step st 0 l).1) ∧ R (eachG step st 0 l).2 h' := by
  have xl := srows_len
  have xg := srows_get
  refine Call.bodyF b_verb_each rfl rfl ?_
  unfold c_verb_each
  repeat' (first
| ((with_reducible apply opsF.op rfl); case hs => first | exact tHT | exact tHS)
| (with_reducible first | apply opsF.nil | apply seqF.nn | apply vcF.seq | apply vcF.region | apply vcF.skip | apply vcF.block | apply vcF.exit | apply vcF.ret | apply vcF.loop | apply seqF.e | apply seqF.r | apply blkF.nn | apply blkF.e | apply blkF.r | apply blkF.o rfl)
| ((with_reducible apply opsF.call); case hx => exact tAG)
| ((with_reducible apply vcF.cond); case hx => exact tEV) <;> ((intro hc; try simp only [Int.reduceLT, Int.reduceLE, Int.reduceEq, Int.reduceNe, Int.cast_ofNat_Int, Int.reduceNeg, reduceCtorEq, ne_eq, ge_iff_le, gt_iff_lt, beq_iff_eq, beq_eq_false_iff_ne, bne_iff_ne, bne_eq_false_iff_eq, nrm, *] at hc) <;> try (exfalso; omega))
| ((with_reducible apply opsF.callv); (case hf => exact tEV); case hx => exact tCV)
| ((with_reducible first | apply retF.r | apply retF.nn); case hv => exact tRS))
  refine LpF.ind rfl (fun i : Nat => l.length - i) (fun i σ h' => ∃ st' c, R st' h' ∧ eachG step st 0 l = eachG step st' c (l.drop i) ∧ σ 1 = .func (.func fn) [] caps ∧ σ 5 = .v (.int .i64 c) ∧ σ 9 = .list 1 (srows l) tok ∧ σ 10 = .v (.int .i64 (l.length : Nat)) ∧ σ 11 = .v (.int .i64 (i : Nat)) ∧ i ≤ l.length) ?_ (i := 0) ⟨st, 0, hR, rfl, rfl, rfl, rfl, rfl, rfl, Nat.zero_le _⟩
  rintro i σ h' ⟨st', c, hR', hEq, h1, h5, h9, h10, h11, hi⟩
  rcases Nat.lt_or_ge i l.length with hlt | hge
  · obtain ⟨x, hx⟩ : ∃ x, l[i]? = some x := ⟨_, List.getElem?_eq_getElem hlt⟩
    have hpx := hp x (List.mem_of_getElem? hx) st' h' hR'
    rw [drop_step hx, eachG] at hEq
    generalize step st' x = r at *
    obtain ⟨c2, st2⟩ := r
    simp only [] at hpx hEq
    by_cases hc : c2 = 501
    · rw [if_pos hc] at hEq
      rw [hEq]
      clear hEq
      rw [hc] at hpx
      clear hc
      repeat' (first
| ((with_reducible apply opsF.op rfl); case hs => first | exact tHT | exact tHS)
| (with_reducible first | apply opsF.nil | apply seqF.nn | apply vcF.seq | apply vcF.region | apply vcF.skip | apply vcF.block | apply vcF.exit | apply vcF.ret | apply vcF.loop | apply seqF.e | apply seqF.r | apply blkF.nn | apply blkF.e | apply blkF.r | apply blkF.o rfl)
| ((with_reducible apply opsF.call); case hx => exact tAG)
| ((with_reducible apply vcF.cond); case hx => exact tEV) <;> ((intro hc; try simp only [Int.reduceLT, Int.reduceLE, Int.reduceEq, Int.reduceNe, Int.cast_ofNat_Int, Int.reduceNeg, reduceCtorEq, ne_eq, ge_iff_le, gt_iff_lt, beq_iff_eq, beq_eq_false_iff_ne, bne_iff_ne, bne_eq_false_iff_eq, nrm, *] at hc) <;> try (exfalso; omega))
| ((with_reducible apply opsF.callv); (case hf => exact tEV); case hx => exact tCV)
| ((with_reducible first | apply retF.r | apply retF.nn); case hv => exact tRS)
| ((refine hpx.mono fun v h2 hq => ?_); obtain ⟨rfl, hR2⟩ := hq))
      all_goals exact ⟨rfl, hR2⟩
    · rw [if_neg hc] at hEq
      by_cases hc0 : c2 = 0
      · rw [if_pos hc0] at hEq
        rw [hc0] at hpx
        clear hc hc0
        repeat' (first
| ((with_reducible apply opsF.op rfl); case hs => first | exact tHT | exact tHS)
| (with_reducible first | apply opsF.nil | apply seqF.nn | apply vcF.seq | apply vcF.region | apply vcF.skip | apply vcF.block | apply vcF.exit | apply vcF.ret | apply vcF.loop | apply seqF.e | apply seqF.r | apply blkF.nn | apply blkF.e | apply blkF.r | apply blkF.o rfl)
| ((with_reducible apply opsF.call); case hx => exact tAG)
| ((with_reducible apply vcF.cond); case hx => exact tEV) <;> ((intro hc; try simp only [Int.reduceLT, Int.reduceLE, Int.reduceEq, Int.reduceNe, Int.cast_ofNat_Int, Int.reduceNeg, reduceCtorEq, ne_eq, ge_iff_le, gt_iff_lt, beq_iff_eq, beq_eq_false_iff_ne, bne_iff_ne, bne_eq_false_iff_eq, nrm, *] at hc) <;> try (exfalso; omega))
| ((with_reducible apply opsF.callv); (case hf => exact tEV); case hx => exact tCV)
| ((with_reducible first | apply retF.r | apply retF.nn); case hv => exact tRS)
| ((refine hpx.mono fun v h2 hq => ?_); obtain ⟨rfl, hR2⟩ := hq))
        all_goals exact ⟨i + 1, by omega, st2, c, hR2, hEq, h1, h5, h9, h10, rfl, by omega⟩
      · rw [if_neg hc0] at hEq
        repeat' (first
| ((with_reducible apply opsF.op rfl); case hs => first | exact tHT | exact tHS)
| (with_reducible first | apply opsF.nil | apply seqF.nn | apply vcF.seq | apply vcF.region | apply vcF.skip | apply vcF.block | apply vcF.exit | apply vcF.ret | apply vcF.loop | apply seqF.e | apply seqF.r | apply blkF.nn | apply blkF.e | apply blkF.r | apply blkF.o rfl)
| ((with_reducible apply opsF.call); case hx => exact tAG)
| ((with_reducible apply vcF.cond); case hx => exact tEV) <;> ((intro hc; try simp only [Int.reduceLT, Int.reduceLE, Int.reduceEq, Int.reduceNe, Int.cast_ofNat_Int, Int.reduceNeg, reduceCtorEq, ne_eq, ge_iff_le, gt_iff_lt, beq_iff_eq, beq_eq_false_iff_ne, bne_iff_ne, bne_eq_false_iff_eq, nrm, *] at hc) <;> try (exfalso; omega))
| ((with_reducible apply opsF.callv); (case hf => exact tEV); case hx => exact tCV)
| ((with_reducible first | apply retF.r | apply retF.nn); case hv => exact tRS)
| ((refine hpx.mono fun v h2 hq => ?_); obtain ⟨rfl, hR2⟩ := hq))
        all_goals exact ⟨i + 1, by omega, st2, c2, hR2, hEq, h1, rfl, h9, h10, rfl, by omega⟩
  · obtain rfl : i = l.length := by omega
    rw [List.drop_length, eachG] at hEq
    rw [hEq]
    repeat' (first
| ((with_reducible apply opsF.op rfl); case hs => first | exact tHT | exact tHS)
| (with_reducible first | apply opsF.nil | apply seqF.nn | apply vcF.seq | apply vcF.region | apply vcF.skip | apply vcF.block | apply vcF.exit | apply vcF.ret | apply vcF.loop | apply seqF.e | apply seqF.r | apply blkF.nn | apply blkF.e | apply blkF.r | apply blkF.o rfl)
| ((with_reducible apply opsF.call); case hx => exact tAG)
| ((with_reducible apply vcF.cond); case hx => exact tEV) <;> ((intro hc; try simp only [Int.reduceLT, Int.reduceLE, Int.reduceEq, Int.reduceNe, Int.cast_ofNat_Int, Int.reduceNeg, reduceCtorEq, ne_eq, ge_iff_le, gt_iff_lt, beq_iff_eq, beq_eq_false_iff_ne, bne_iff_ne, bne_eq_false_iff_eq, nrm, *] at hc) <;> try (exfalso; omega))
| ((with_reducible apply opsF.callv); (case hf => exact tEV); case hx => exact tCV)
| ((with_reducible first | apply retF.r | apply retF.nn); case hv => exact tRS))
    all_goals exact ⟨rfl, hR'⟩
/-- What stands behind a word: a path, options. -/
def pathW (lead rest : List UInt8) : Option (List UInt8 × List (List UInt8)) :=
  if lead.length ≤ rest.length ∧ upperS (rest.take lead.length) = lead then
    (pathO ((splB 32 (rest.drop lead.length)).headD [])).map fun m => (m, (splB 32 (rest.drop lead.length)).tail)
  else none
/-- What path gives. -/
def PathP (o : Option (List UInt8 × List (List UInt8))) (v : AV) : Prop := match o with
  | some (m, ws) => ∃ tk, v = .tup [.v (.string (bs m)), .list 1 (srows ws) tk, .v (.bool true)]
  | none => ∃ m ws tk, v = .tup [.v (.string (bs m)), .list 1 (srows ws) tk, .v (.bool false)]
theorem vpath_call (lead rest : List UInt8) (h : AH) (hl : rest.length ≤ 1000000000) (hld : lead.length ≤ 100) : Call P w0 verb_path [.v (.string (bs rest)), .v (.string (bs lead))] h (fun v h' => PathP (pathW lead rest) v ∧ Ext h h') := by
  have xl := srows_len
  have xg := srows_get
  refine Call.bodyF b_verb_path rfl rfl ?_
  unfold c_verb_path
  by_cases hlen : lead.length ≤ rest.length
  · have hup := fun h => upper_call (w0 := w0) (rest.take lead.length) h (by rw [List.length_take]; omega)
    by_cases hu : upperS (rest.take lead.length) = lead
    · rw [pathW, if_pos ⟨hlen, hu⟩]
      rw [hu] at hup
      have hdl : (rest.drop lead.length).length ≤ rest.length := by rw [List.length_drop]; omega
      have hsp := fun h => spl_call (w0 := w0) (rest.drop lead.length) 32 h (by omega)
      have hsl := splB_len (c := 32) (rest.drop lead.length).length (Nat.le_refl _)
      have hne := splB_ne 32 (rest.drop lead.length)
      have hwm : ∀ w ∈ splB 32 (rest.drop lead.length), w.length ≤ 1000000000 := fun w hw => by
        have := splB_mem (rest.drop lead.length).length (Nat.le_refl _) hw
        omega
      have htk : rest.take rest.length = rest := List.take_length
      generalize splB 32 (rest.drop lead.length) = ws at *
      obtain ⟨w, wt, rfl⟩ : ∃ w wt, ws = w :: wt := by
        cases ws with
        | nil => exact absurd rfl hne
        | cons a b => exact ⟨a, b, rfl⟩
      have hw0 : (w :: wt)[0]? = some w := rfl
      have hwn : (w :: wt).length = wt.length + 1 := rfl
      have hpa := fun h => path_call (w0 := w0) w h (hwm w (by simp))
      have hdr : ((srows (w :: wt)).drop 1).take (wt.length + 1 - 1) = srows wt := by
        rw [show (srows (w :: wt)).drop 1 = srows wt from rfl, Nat.add_sub_cancel, List.take_of_length_le (by rw [xl]; exact Nat.le_refl _)]
      simp only [List.headD_cons, List.tail_cons]
      clear hwm hne
      generalize pathO w = q at *
      generalize w :: wt = ws at *
      cases q with
      | none =>
        simp only [optV] at *
        repeat' (first
| ((with_reducible apply opsF.op rfl); case hs => first | exact tHT | exact tHS)
| (with_reducible first | apply opsF.nil | apply seqF.nn | apply vcF.seq | apply vcF.region | apply vcF.skip | apply vcF.ret | apply seqF.r)
| ((with_reducible apply opsF.call); case hx => exact tAG)
| ((with_reducible apply opsF.want); (case hg => exact tEV); case hb => exact tNB)
| ((with_reducible apply opsF.skip); (case hg => exact tEV); case hb => exact tNB)
| (first | ((with_reducible apply opsF.case); case hg => exact tEV) | ((with_reducible apply vcF.cond); case hx => exact tEV)) <;> ((intro hc; try simp only [Int.reduceLT, Int.reduceLE, Int.reduceEq, Int.reduceNe, Int.cast_ofNat_Int, Int.reduceNeg, reduceCtorEq, ne_eq, ge_iff_le, gt_iff_lt, beq_iff_eq, beq_eq_false_iff_ne, bne_iff_ne, bne_eq_false_iff_eq, nrm, *] at hc) <;> try (exfalso; omega))
| ((with_reducible apply opsF.und); case hg => rfl)
| ((with_reducible first | apply retF.r | apply retF.nn); case hv => exact tRS)
| ((refine (hup _).mono fun v h2 hp => ?_); obtain ⟨rfl, he⟩ := hp; have hN := he.n; have hO := he.objs; (try simp only [alloc_n, set_n, newTok_n, bump_n] at hN hO))
| ((refine (hsp _).mono fun v h3 hp => ?_); obtain ⟨rfl, he2⟩ := hp; have hN := he2.n; have hO := he2.objs; (try simp only [alloc_n, set_n, newTok_n, bump_n] at hN hO))
| ((refine (hpa _).mono fun v h4 hp => ?_); obtain ⟨rfl, he3⟩ := hp; have hN := he3.n; have hO := he3.objs; (try simp only [alloc_n, set_n, newTok_n, bump_n] at hN hO)))
        all_goals exact ⟨⟨[], wt, _, by first | rfl | rw [hdr] | (simp only [hdr])⟩, (he.trans he2).trans he3⟩
      | some m =>
        simp only [optV] at *
        repeat' (first
| ((with_reducible apply opsF.op rfl); case hs => first | exact tHT | exact tHS)
| (with_reducible first | apply opsF.nil | apply seqF.nn | apply vcF.seq | apply vcF.region | apply vcF.skip | apply vcF.ret | apply seqF.r)
| ((with_reducible apply opsF.call); case hx => exact tAG)
| ((with_reducible apply opsF.want); (case hg => exact tEV); case hb => exact tNB)
| ((with_reducible apply opsF.skip); (case hg => exact tEV); case hb => exact tNB)
| (first | ((with_reducible apply opsF.case); case hg => exact tEV) | ((with_reducible apply vcF.cond); case hx => exact tEV)) <;> ((intro hc; try simp only [Int.reduceLT, Int.reduceLE, Int.reduceEq, Int.reduceNe, Int.cast_ofNat_Int, Int.reduceNeg, reduceCtorEq, ne_eq, ge_iff_le, gt_iff_lt, beq_iff_eq, beq_eq_false_iff_ne, bne_iff_ne, bne_eq_false_iff_eq, nrm, *] at hc) <;> try (exfalso; omega))
| ((with_reducible apply opsF.und); case hg => rfl)
| ((with_reducible first | apply retF.r | apply retF.nn); case hv => exact tRS)
| ((refine (hup _).mono fun v h2 hp => ?_); obtain ⟨rfl, he⟩ := hp; have hN := he.n; have hO := he.objs; (try simp only [alloc_n, set_n, newTok_n, bump_n] at hN hO))
| ((refine (hsp _).mono fun v h3 hp => ?_); obtain ⟨rfl, he2⟩ := hp; have hN := he2.n; have hO := he2.objs; (try simp only [alloc_n, set_n, newTok_n, bump_n] at hN hO))
| ((refine (hpa _).mono fun v h4 hp => ?_); obtain ⟨rfl, he3⟩ := hp; have hN := he3.n; have hO := he3.objs; (try simp only [alloc_n, set_n, newTok_n, bump_n] at hN hO)))
        all_goals exact ⟨⟨_, by first | rfl | rw [hdr] | (simp only [hdr])⟩, (he.trans he2).trans he3⟩
    · rw [pathW, if_neg (fun e => hu e.2)]
      generalize hU : upperS (rest.take lead.length) = U at *
      repeat' (first
| ((with_reducible apply opsF.op rfl); case hs => first | exact tHT | exact tHS)
| (with_reducible first | apply opsF.nil | apply seqF.nn | apply vcF.seq | apply vcF.region | apply vcF.skip | apply vcF.ret | apply seqF.r)
| ((with_reducible apply opsF.call); case hx => exact tAG)
| ((with_reducible apply opsF.want); (case hg => exact tEV); case hb => exact tNB)
| ((with_reducible apply opsF.skip); (case hg => exact tEV); case hb => exact tNB)
| (first | ((with_reducible apply opsF.case); case hg => exact tEV) | ((with_reducible apply vcF.cond); case hx => exact tEV)) <;> ((intro hc; try simp only [Int.reduceLT, Int.reduceLE, Int.reduceEq, Int.reduceNe, Int.cast_ofNat_Int, Int.reduceNeg, reduceCtorEq, ne_eq, ge_iff_le, gt_iff_lt, beq_iff_eq, beq_eq_false_iff_ne, bne_iff_ne, bne_eq_false_iff_eq, nrm, *] at hc) <;> try (exfalso; omega))
| ((with_reducible apply opsF.und); case hg => rfl)
| ((with_reducible first | apply retF.r | apply retF.nn); case hv => exact tRS)
| ((refine (hup _).mono fun v h2 hp => ?_); obtain ⟨rfl, he⟩ := hp; have hN := he.n; have hO := he.objs; (try simp only [alloc_n, set_n, newTok_n, bump_n] at hN hO)))
      all_goals exact ⟨⟨[], [], _, rfl⟩, he⟩
  · rw [pathW, if_neg (fun e => hlen e.1)]
    repeat' (first
| ((with_reducible apply opsF.op rfl); case hs => first | exact tHT | exact tHS)
| (with_reducible first | apply opsF.nil | apply seqF.nn | apply vcF.seq | apply vcF.region | apply vcF.skip | apply vcF.ret | apply seqF.r)
| ((with_reducible apply opsF.call); case hx => exact tAG)
| ((with_reducible apply opsF.want); (case hg => exact tEV); case hb => exact tNB)
| ((with_reducible apply opsF.skip); (case hg => exact tEV); case hb => exact tNB)
| (first | ((with_reducible apply opsF.case); case hg => exact tEV) | ((with_reducible apply vcF.cond); case hx => exact tEV)) <;> ((intro hc; try simp only [Int.reduceLT, Int.reduceLE, Int.reduceEq, Int.reduceNe, Int.cast_ofNat_Int, Int.reduceNeg, reduceCtorEq, ne_eq, ge_iff_le, gt_iff_lt, beq_iff_eq, beq_eq_false_iff_ne, bne_iff_ne, bne_eq_false_iff_eq, nrm, *] at hc) <;> try (exfalso; omega))
| ((with_reducible apply opsF.und); case hg => rfl)
| ((with_reducible first | apply retF.r | apply retF.nn); case hv => exact tRS))
    all_goals exact ⟨⟨[], [], _, rfl⟩, .refl _⟩
abbrev VS := List UInt8 × List UInt8 × Int × Bool
def verbA (v : VS) : AV := .agg [.v (.string (bs v.1)), .v (.string (bs v.2.1)), .v (.int .i64 v.2.2.1), .v (.bool v.2.2.2)]
def zeroV : VS := ([], [], 0, false)
def codeV (x : Int × VS) : AV := .tup [verbA x.2, .v (.int .i64 x.1)]
def mailS (nm rest : List UInt8) : Int × VS := match pathW [70, 82, 79, 77, 58] rest with
  | none => (501, zeroV)
  | some (m, ws) => ((eachG optS (-1, false, false) 0 ws).1, (nm, m, (eachG optS (-1, false, false) 0 ws).2.1, (eachG optS (-1, false, false) 0 ws).2.2.1))
def rcptO (w : List UInt8) : Int := if (cutB 61 w).1 = [] then 501 else 555
def rcptS (nm rest : List UInt8) : Int × VS := match pathW [84, 79, 58] rest with
  | none => (501, zeroV)
  | some (m, ws) => if m = [] then (501, zeroV) else ((eachG (fun (_ : Unit) w => (rcptO w, ())) () 0 ws).1, (nm, m, -1, false))
def greetS (nm rest : List UInt8) : Int × VS := if domainS rest = true then (0, (nm, lowerS rest, -1, false)) else (501, (nm, [], -1, false))
theorem greeting_call (nm rest : List UInt8) (h : AH) (hl : rest.length ≤ 1000000000) : Call P w0 verb_greeting [verbA (nm, [], -1, false), .v (.string (bs rest))] h (fun v h' => v = codeV (greetS nm rest) ∧ Ext h h') := by
  have hdo := fun h => domain_call (w0 := w0) rest h hl
  have hlo := fun h => lower_call (w0 := w0) rest h (by omega)
  unfold verbA codeV greetS
  simp only []
  refine Call.bodyF b_verb_greeting rfl rfl ?_
  unfold c_verb_greeting
  cases hD : domainS rest
  · rw [hD] at hdo
    simp only [Bool.false_eq_true, if_false]
    repeat' (first
| ((with_reducible apply opsF.op rfl); case hs => first | exact tHT | exact tHS)
| (with_reducible first | apply opsF.nil | apply seqF.nn | apply vcF.seq | apply vcF.region | apply vcF.skip | apply vcF.ret | apply seqF.r)
| ((with_reducible apply opsF.call); case hx => exact tAG)
| ((with_reducible apply vcF.cond); case hx => exact tEV) <;> ((intro hc; try simp only [Int.reduceLT, Int.reduceLE, Int.reduceEq, Int.reduceNe, Int.cast_ofNat_Int, Int.reduceNeg, reduceCtorEq, ne_eq, ge_iff_le, gt_iff_lt, beq_iff_eq, beq_eq_false_iff_ne, bne_iff_ne, bne_eq_false_iff_eq, nrm, *] at hc) <;> try (exfalso; omega))
| ((with_reducible first | apply retF.r | apply retF.nn); case hv => exact tRS)
| ((refine (hdo _).mono fun v h2 hp => ?_); obtain ⟨rfl, he⟩ := hp; have hN := he.n; have hO := he.objs; (try simp only [alloc_n, set_n, newTok_n, bump_n] at hN hO)))
    all_goals exact ⟨rfl, (((Ext.alloc h _).trans (Ext.alloc _ _)).trans he).set (by simp [alloc_n]) _⟩
  · rw [hD] at hdo
    simp only [if_true]
    repeat' (first
| ((with_reducible apply opsF.op rfl); case hs => first | exact tHT | exact tHS)
| (with_reducible first | apply opsF.nil | apply seqF.nn | apply vcF.seq | apply vcF.region | apply vcF.skip | apply vcF.ret | apply seqF.r)
| ((with_reducible apply opsF.call); case hx => exact tAG)
| ((with_reducible apply vcF.cond); case hx => exact tEV) <;> ((intro hc; try simp only [Int.reduceLT, Int.reduceLE, Int.reduceEq, Int.reduceNe, Int.cast_ofNat_Int, Int.reduceNeg, reduceCtorEq, ne_eq, ge_iff_le, gt_iff_lt, beq_iff_eq, beq_eq_false_iff_ne, bne_iff_ne, bne_eq_false_iff_eq, nrm, *] at hc) <;> try (exfalso; omega))
| ((with_reducible first | apply retF.r | apply retF.nn); case hv => exact tRS)
| ((refine (hdo _).mono fun v h2 hp => ?_); obtain ⟨rfl, he⟩ := hp; have hN := he.n; have hO := he.objs; (try simp only [alloc_n, set_n, newTok_n, bump_n] at hN hO))
| ((refine (hlo _).mono fun v h3 hp => ?_); obtain ⟨rfl, he2⟩ := hp; have hN := he2.n; have hO := he2.objs; (try simp only [alloc_n, set_n, newTok_n, bump_n] at hN hO)))
    all_goals exact ⟨rfl, (((((Ext.alloc h _).trans (Ext.alloc _ _)).trans he).trans he2).set (by simp [alloc_n]) _).set (by simp [alloc_n]) _⟩
end Go.Abs.F
/- Layer 3: MAIL, RCPT. Layer 3: commands: the program's. Layer 3: commands: the reference's. -/
namespace Go.Abs.F
open Go Go.Abs
set_option maxRecDepth 10000
set_option maxHeartbeats 20000000
set_option linter.unusedSimpArgs false
set_option linter.unusedVariables false
variable {w0 : World}
theorem pathW_mem {lead rest m : List UInt8} {ws : List (List UInt8)} (hl : rest.length ≤ 1000000000) (h : pathW lead rest = some (m, ws)) : (∀ w ∈ ws, w.length ≤ 1000000000) ∧ ws.length ≤ 1000000001 := by
  unfold pathW at h
  split at h
  · have hdl : (rest.drop lead.length).length ≤ rest.length := by rw [List.length_drop]; omega
    have hsl := splB_len (c := 32) (rest.drop lead.length).length (Nat.le_refl _)
    cases hp : pathO ((splB 32 (rest.drop lead.length)).headD []) with
    | none => rw [hp] at h; cases h
    | some x =>
      rw [hp, Option.map_some] at h
      injection h with h
      injection h with h1 h2
      subst h2
      refine ⟨fun w hw => ?_, by rw [List.length_tail]; omega⟩
      have := splB_mem (rest.drop lead.length).length (Nat.le_refl _) (List.mem_of_mem_tail hw)
      omega
  · cases h
theorem mail1_call (hE : ErrVars w0) (i j : Nat) (nm ar : List UInt8) (st : OS) (w : List UInt8) (h : AH) (k : VO h i j nm ar st) (hl : w.length ≤ 1000000000) :
    Call P w0 verb_mail_1 [.v (.string (bs w)), .ptr i 0, .ptr j 0] h (fun v h' => v = .v (.int .i64 (optS st w).1) ∧ VO h' i j nm ar (optS st w).2 ∧ ExtX (fun x => x = i ∨ x = j) (fun _ => False) h h') := by
  have ho := option_call hE i j nm ar st w h k hl
  refine Call.bodyF b_verb_mail_1 rfl rfl ?_
  unfold c_verb_mail_1
  repeat' (first
| ((with_reducible apply opsF.op rfl); case hs => first | exact tHT | exact tHS)
| (with_reducible first | apply opsF.nil | apply seqF.nn | apply vcF.seq | apply vcF.region | apply vcF.skip | apply vcF.ret | apply seqF.r)
| ((with_reducible apply opsF.call); case hx => exact tAG)
| ((with_reducible apply vcF.cond); case hx => exact tEV) <;> ((intro hc; try simp only [Int.reduceLT, Int.reduceLE, Int.reduceEq, Int.reduceNe, Int.cast_ofNat_Int, Int.reduceNeg, reduceCtorEq, ne_eq, ge_iff_le, gt_iff_lt, beq_iff_eq, beq_eq_false_iff_ne, bne_iff_ne, bne_eq_false_iff_eq, nrm, *] at hc) <;> try (exfalso; omega))
| ((with_reducible first | apply retF.r | apply retF.nn); case hv => exact tRS)
| ((refine ho.mono fun v h2 hp => ?_); obtain ⟨rfl, hp2⟩ := hp))
  all_goals exact ⟨rfl, hp2⟩
theorem meach_call (hE : ErrVars w0) (i j : Nat) (nm ar : List UInt8) (st : OS) (ws : List (List UInt8)) (tk : Tok) (h : AH) (hw : ∀ w ∈ ws, w.length ≤ 1000000000) (hl : ws.length ≤ 1000000001) (k : VO h i j nm ar st) :
    Call P w0 verb_each [.list 1 (srows ws) tk, .func (.func verb_mail_1) [] [.ptr i 0, .ptr j 0]] h (fun v h' => v = .v (.int .i64 (eachG optS st 0 ws).1) ∧ VO h' i j nm ar (eachG optS st 0 ws).2 ∧ ExtX (fun x => x = i ∨ x = j) (fun _ => False) h h') :=
  each_call verb_mail_1 [.ptr i 0, .ptr j 0] optS (fun st h' => VO h' i j nm ar st ∧ ExtX (fun x => x = i ∨ x = j) (fun _ => False) h h') ws tk
    (fun w hm st' h' hR => (mail1_call hE i j nm ar st' w h' hR.1 (hw w hm)).mono fun v h2 hp => ⟨hp.1, hp.2.1, hR.2.trans hp.2.2⟩)
    st h ⟨k, .of (.refl _)⟩ (by omega)
theorem rcpt1_call (w : List UInt8) (h : AH) (hl : w.length ≤ 1000000000) : Call P w0 verb_rcpt_1 [.v (.string (bs w))] h (fun v h' => v = .v (.int .i64 (rcptO w)) ∧ h' = h) := by
  have hcut := fun h => cut_call (w0 := w0) w 61 h (by omega)
  refine Call.bodyF b_verb_rcpt_1 rfl rfl ?_
  unfold c_verb_rcpt_1 rcptO
  generalize cutB 61 w = q at *
  obtain ⟨a, r, ok⟩ := q
  simp only [] at hcut ⊢
  by_cases ha : a = []
  · rw [if_pos ha]
    repeat' (first
| ((with_reducible apply opsF.op rfl); case hs => first | exact tHT | exact tHS)
| (with_reducible first | apply opsF.nil | apply seqF.nn | apply vcF.seq | apply vcF.region | apply vcF.skip | apply vcF.ret | apply seqF.r)
| ((with_reducible apply opsF.call); case hx => exact tAG)
| ((with_reducible apply vcF.cond); case hx => exact tEV) <;> ((intro hc; try simp only [Int.reduceLT, Int.reduceLE, Int.reduceEq, Int.reduceNe, Int.cast_ofNat_Int, Int.reduceNeg, reduceCtorEq, ne_eq, ge_iff_le, gt_iff_lt, beq_iff_eq, beq_eq_false_iff_ne, bne_iff_ne, bne_eq_false_iff_eq, nrm, *] at hc) <;> try (exfalso; omega))
| ((with_reducible first | apply retF.r | apply retF.nn); case hv => exact tRS)
| ((refine (hcut _).mono fun v h2 hp => ?_); obtain ⟨rfl, rfl⟩ := hp))
    all_goals exact ⟨rfl, rfl⟩
  · rw [if_neg ha]
    repeat' (first
| ((with_reducible apply opsF.op rfl); case hs => first | exact tHT | exact tHS)
| (with_reducible first | apply opsF.nil | apply seqF.nn | apply vcF.seq | apply vcF.region | apply vcF.skip | apply vcF.ret | apply seqF.r)
| ((with_reducible apply opsF.call); case hx => exact tAG)
| ((with_reducible apply vcF.cond); case hx => exact tEV) <;> ((intro hc; try simp only [Int.reduceLT, Int.reduceLE, Int.reduceEq, Int.reduceNe, Int.cast_ofNat_Int, Int.reduceNeg, reduceCtorEq, ne_eq, ge_iff_le, gt_iff_lt, beq_iff_eq, beq_eq_false_iff_ne, bne_iff_ne, bne_eq_false_iff_eq, nrm, *] at hc) <;> try (exfalso; omega))
| ((with_reducible first | apply retF.r | apply retF.nn); case hv => exact tRS)
| ((refine (hcut _).mono fun v h2 hp => ?_); obtain ⟨rfl, rfl⟩ := hp))
    all_goals exact ⟨rfl, rfl⟩
theorem reach_call (ws : List (List UInt8)) (tk : Tok) (h : AH) (hw : ∀ w ∈ ws, w.length ≤ 1000000000) (hl : ws.length ≤ 1000000001) :
    Call P w0 verb_each [.list 1 (srows ws) tk, .func (.func verb_rcpt_1) [] []] h (fun v h' => v = .v (.int .i64 (eachG (fun (_ : Unit) w => (rcptO w, ())) () 0 ws).1) ∧ h' = h) :=
  each_call verb_rcpt_1 [] (fun (_ : Unit) w => (rcptO w, ())) (fun _ h' => h' = h) ws tk
    (fun w hm st' h' hR => by
      subst hR
      exact rcpt1_call w _ (hw w hm)) () h rfl (by omega)
theorem mail_call (hE : ErrVars w0) (nm rest : List UInt8) (h : AH) (hl : rest.length ≤ 1000000000) : Call P w0 verb_mail [verbA (nm, [], -1, false), .v (.string (bs rest))] h (fun v h' => v = codeV (mailS nm rest) ∧ Ext h h') := by
  have hpa := fun h => vpath_call (w0 := w0) [70, 82, 79, 77, 58] rest h hl (by decide)
  unfold verbA codeV mailS
  simp only []
  refine Call.bodyF b_verb_mail rfl rfl ?_
  unfold c_verb_mail
  cases hq : pathW [70, 82, 79, 77, 58] rest with
  | none =>
    rw [hq] at hpa
    unfold PathP at hpa
    simp only [] at hpa ⊢
    repeat' (first
| ((with_reducible apply opsF.op rfl); case hs => first | exact tHT | exact tHS)
| (with_reducible first | apply opsF.nil | apply seqF.nn | apply vcF.seq | apply vcF.region | apply vcF.skip | apply vcF.ret | apply seqF.r)
| ((with_reducible apply opsF.call); case hx => exact tAG)
| ((with_reducible apply vcF.cond); case hx => exact tEV) <;> ((intro hc; try simp only [Int.reduceLT, Int.reduceLE, Int.reduceEq, Int.reduceNe, Int.cast_ofNat_Int, Int.reduceNeg, reduceCtorEq, ne_eq, ge_iff_le, gt_iff_lt, beq_iff_eq, beq_eq_false_iff_ne, bne_iff_ne, bne_eq_false_iff_eq, nrm, *] at hc) <;> try (exfalso; omega))
| ((with_reducible first | apply retF.r | apply retF.nn); case hv => exact tRS)
| ((refine (hpa _).mono fun v h2 hp => ?_); obtain ⟨⟨m, ws, tk, rfl⟩, he⟩ := hp; have hN := he.n; have hO := he.objs; (try simp only [alloc_n, set_n, newTok_n, bump_n] at hN hO)))
    all_goals exact ⟨rfl, (((Ext.alloc h _).trans (Ext.alloc _ _)).trans he).set (by simp [alloc_n]) _⟩
  | some x =>
    obtain ⟨m, ws⟩ := x
    obtain ⟨hw, hwl⟩ := pathW_mem hl hq
    rw [hq] at hpa
    unfold PathP at hpa
    simp only [] at hpa ⊢
    have hme := fun i j tk h => meach_call (w0 := w0) hE i j nm m (-1, false, false) ws tk h hw hwl
    generalize eachG optS (-1, false, false) 0 ws = r at *
    obtain ⟨c, sz, wd, bd⟩ := r
    simp only [] at *
    repeat' (first
| ((with_reducible apply opsF.op rfl); case hs => first | exact tHT | exact tHS)
| (with_reducible first | apply opsF.nil | apply seqF.nn | apply vcF.seq | apply vcF.region | apply vcF.skip | apply vcF.ret | apply seqF.r)
| ((with_reducible apply opsF.call); case hx => exact tAG)
| ((with_reducible apply vcF.cond); case hx => exact tEV) <;> ((intro hc; try simp only [Int.reduceLT, Int.reduceLE, Int.reduceEq, Int.reduceNe, Int.cast_ofNat_Int, Int.reduceNeg, reduceCtorEq, ne_eq, ge_iff_le, gt_iff_lt, beq_iff_eq, beq_eq_false_iff_ne, bne_iff_ne, bne_eq_false_iff_eq, nrm, *] at hc) <;> try (exfalso; omega))
| ((with_reducible first | apply retF.r | apply retF.nn); case hv => exact tRS)
| ((refine (hpa _).mono fun v h2 hp => ?_); obtain ⟨⟨tk, rfl⟩, he⟩ := hp; have hN := he.n; have hO := he.objs; (try simp only [alloc_n, set_n, newTok_n, bump_n] at hN hO))
| ((refine (hme _ _ _ _ ⟨by simp (disch := omega) only [set_at, alloc_at, alloc_n, set_n, if_neg, if_pos, eq_self, if_true], by simp (disch := omega) only [set_at, alloc_at, alloc_n, set_n, if_neg, if_pos, eq_self, if_true], by simp only [alloc_n, set_n] at *; omega, by simp only [alloc_n, set_n] at *; omega, by simp only [alloc_n, set_n] at *; omega⟩).mono fun v h4 hp => ?_); obtain ⟨rfl, hV, hX⟩ := hp; have hXn := hX.n; have hVv := hV.v; have hVb := hV.b; have hXo := hX.objs (h.n + 1) (by simp only [alloc_n, set_n] at *; omega) (by simp only [alloc_n, set_n] at *; omega); simp only [alloc_n, set_n] at hXn hVv))
    all_goals refine ⟨rfl, (Ext.transX ?_ hX ?_ (fun _ hf => hf.elim)).set (by simp only [alloc_n, set_n] at *; omega) _⟩
    all_goals first
      | (rintro x (rfl | rfl) <;> (simp only [alloc_n, set_n] at *; omega))
      | skip
    all_goals repeat' first
      | exact (((Ext.alloc h _).trans (Ext.alloc _ _)).trans he)
      | refine Ext.set ?_ (by simp only [alloc_n, set_n] at *; omega) _
      | refine Ext.trans ?_ (Ext.alloc _ _)
theorem vrcpt_call (nm rest : List UInt8) (h : AH) (hl : rest.length ≤ 1000000000) : Call P w0 verb_rcpt [verbA (nm, [], -1, false), .v (.string (bs rest))] h (fun v h' => v = codeV (rcptS nm rest) ∧ Ext h h') := by
  have hpa := fun h => vpath_call (w0 := w0) [84, 79, 58] rest h hl (by decide)
  unfold verbA codeV rcptS
  simp only []
  refine Call.bodyF b_verb_rcpt rfl rfl ?_
  unfold c_verb_rcpt
  cases hq : pathW [84, 79, 58] rest with
  | none =>
    rw [hq] at hpa
    unfold PathP at hpa
    simp only [] at hpa ⊢
    repeat' (first
| ((with_reducible first | apply opsF.op rfl | apply dopsF.op rfl); case hs => first | exact tHT | exact tHS)
| (with_reducible first | apply opsF.nil | apply seqF.nn | apply vcF.seq | apply vcF.region | apply vcF.dregion | apply vcF.skip | apply vcF.ret | apply seqF.r | apply dopsF.nil | apply stabsF.nil | apply stabsF.cons | apply dopsF.cont)
| ((with_reducible first | apply opsF.call | apply dopsF.call); case hx => exact tAG)
| ((with_reducible first | apply opsF.want | apply dopsF.want | apply stabF.want); (case hg => exact tEV); case hb => exact tNB)
| ((with_reducible first | apply opsF.skip | apply dopsF.skip | apply stabF.skip); (case hg => exact tEV); case hb => exact tNB)
| (first | ((with_reducible first | apply opsF.case | apply dopsF.case); case hg => exact tEV) | ((with_reducible apply vcF.cond); case hx => exact tEV)) <;> ((intro hc; try simp only [Int.reduceLT, Int.reduceLE, Int.reduceEq, Int.reduceNe, Int.cast_ofNat_Int, Int.reduceNeg, reduceCtorEq, ne_eq, ge_iff_le, gt_iff_lt, beq_iff_eq, beq_eq_false_iff_ne, bne_iff_ne, bne_eq_false_iff_eq, nrm, *] at hc) <;> try (exfalso; omega))
| ((with_reducible first | apply opsF.und | apply dopsF.und); case hg => rfl)
| ((with_reducible apply stabF.und); rfl)
| ((with_reducible apply stabF.op); (case hs => first | exact tHT | exact tHS); case hv => exact tSV)
| ((with_reducible first | apply retF.r | apply retF.nn); case hv => exact tRS)
| ((refine (hpa _).mono fun v h2 hp => ?_); obtain ⟨⟨m, ws, tk, rfl⟩, he⟩ := hp; have hN := he.n; have hO := he.objs; (try simp only [alloc_n, set_n, newTok_n, bump_n] at hN hO)))
    all_goals exact ⟨rfl, (((Ext.alloc h _).trans (Ext.alloc _ _)).trans he).set (by simp [alloc_n]) _⟩
  | some x =>
    obtain ⟨m, ws⟩ := x
    obtain ⟨hw, hwl⟩ := pathW_mem hl hq
    rw [hq] at hpa
    unfold PathP at hpa
    simp only [] at hpa ⊢
    have hre := fun tk h => reach_call (w0 := w0) ws tk h hw hwl
    generalize eachG (fun (_ : Unit) w => (rcptO w, ())) () 0 ws = r at *
    obtain ⟨c, u⟩ := r
    simp only [] at *
    by_cases hm : m = []
    · rw [if_pos hm]
      subst hm
      repeat' (first
| ((with_reducible first | apply opsF.op rfl | apply dopsF.op rfl); case hs => first | exact tHT | exact tHS)
| (with_reducible first | apply opsF.nil | apply seqF.nn | apply vcF.seq | apply vcF.region | apply vcF.dregion | apply vcF.skip | apply vcF.ret | apply seqF.r | apply dopsF.nil | apply stabsF.nil | apply stabsF.cons | apply dopsF.cont)
| ((with_reducible first | apply opsF.call | apply dopsF.call); case hx => exact tAG)
| ((with_reducible first | apply opsF.want | apply dopsF.want | apply stabF.want); (case hg => exact tEV); case hb => exact tNB)
| ((with_reducible first | apply opsF.skip | apply dopsF.skip | apply stabF.skip); (case hg => exact tEV); case hb => exact tNB)
| (first | ((with_reducible first | apply opsF.case | apply dopsF.case); case hg => exact tEV) | ((with_reducible apply vcF.cond); case hx => exact tEV)) <;> ((intro hc; try simp only [Int.reduceLT, Int.reduceLE, Int.reduceEq, Int.reduceNe, Int.cast_ofNat_Int, Int.reduceNeg, reduceCtorEq, ne_eq, ge_iff_le, gt_iff_lt, beq_iff_eq, beq_eq_false_iff_ne, bne_iff_ne, bne_eq_false_iff_eq, nrm, *] at hc) <;> try (exfalso; omega))
| ((with_reducible first | apply opsF.und | apply dopsF.und); case hg => rfl)
| ((with_reducible apply stabF.und); rfl)
| ((with_reducible apply stabF.op); (case hs => first | exact tHT | exact tHS); case hv => exact tSV)
| ((with_reducible first | apply retF.r | apply retF.nn); case hv => exact tRS)
| ((refine (hpa _).mono fun v h2 hp => ?_); obtain ⟨⟨tk, rfl⟩, he⟩ := hp; have hN := he.n; have hO := he.objs; (try simp only [alloc_n, set_n, newTok_n, bump_n] at hN hO)))
      all_goals exact ⟨rfl, (((Ext.alloc h _).trans (Ext.alloc _ _)).trans he).set (by simp [alloc_n]) _⟩
    · rw [if_neg hm]
      repeat' (first
| ((with_reducible first | apply opsF.op rfl | apply dopsF.op rfl); case hs => first | exact tHT | exact tHS)
| (with_reducible first | apply opsF.nil | apply seqF.nn | apply vcF.seq | apply vcF.region | apply vcF.dregion | apply vcF.skip | apply vcF.ret | apply seqF.r | apply dopsF.nil | apply stabsF.nil | apply stabsF.cons | apply dopsF.cont)
| ((with_reducible first | apply opsF.call | apply dopsF.call); case hx => exact tAG)
| ((with_reducible first | apply opsF.want | apply dopsF.want | apply stabF.want); (case hg => exact tEV); case hb => exact tNB)
| ((with_reducible first | apply opsF.skip | apply dopsF.skip | apply stabF.skip); (case hg => exact tEV); case hb => exact tNB)
| (first | ((with_reducible first | apply opsF.case | apply dopsF.case); case hg => exact tEV) | ((with_reducible apply vcF.cond); case hx => exact tEV)) <;> ((intro hc; try simp only [Int.reduceLT, Int.reduceLE, Int.reduceEq, Int.reduceNe, Int.cast_ofNat_Int, Int.reduceNeg, reduceCtorEq, ne_eq, ge_iff_le, gt_iff_lt, beq_iff_eq, beq_eq_false_iff_ne, bne_iff_ne, bne_eq_false_iff_eq, nrm, *] at hc) <;> try (exfalso; omega))
| ((with_reducible first | apply opsF.und | apply dopsF.und); case hg => rfl)
| ((with_reducible apply stabF.und); rfl)
| ((with_reducible apply stabF.op); (case hs => first | exact tHT | exact tHS); case hv => exact tSV)
| ((with_reducible first | apply retF.r | apply retF.nn); case hv => exact tRS)
| ((refine (hpa _).mono fun v h2 hp => ?_); obtain ⟨⟨tk, rfl⟩, he⟩ := hp; have hN := he.n; have hO := he.objs; (try simp only [alloc_n, set_n, newTok_n, bump_n] at hN hO))
| ((refine (hre _ _).mono fun v h4 hp => ?_); obtain ⟨rfl, rfl⟩ := hp))
      all_goals exact ⟨rfl, ((((Ext.alloc h _).trans (Ext.alloc _ _)).trans he).set (by simp [alloc_n]) _).set (by simp [alloc_n]) _⟩
end Go.Abs.F
namespace Go.Abs.F
open Go Go.Abs
set_option maxRecDepth 10000
set_option maxHeartbeats 20000000
set_option linter.unusedSimpArgs false
set_option linter.unusedVariables false
variable {w0 : World}
def cmdS (s : List UInt8) : Int × VS :=
  if upperS (cutB 32 s).1 = [72, 69, 76, 79] ∨ upperS (cutB 32 s).1 = [69, 72, 76, 79] then greetS (upperS (cutB 32 s).1) (cutB 32 s).2.1
  else if upperS (cutB 32 s).1 = [77, 65, 73, 76] then mailS (upperS (cutB 32 s).1) (cutB 32 s).2.1
  else if upperS (cutB 32 s).1 = [82, 67, 80, 84] then rcptS (upperS (cutB 32 s).1) (cutB 32 s).2.1
  else if upperS (cutB 32 s).1 = [68, 65, 84, 65] ∨ upperS (cutB 32 s).1 = [82, 83, 69, 84] ∨ upperS (cutB 32 s).1 = [81, 85, 73, 84] then (if (cutB 32 s).2.2 = true then 501 else 0, (upperS (cutB 32 s).1, [], -1, false))
  else if upperS (cutB 32 s).1 = [78, 79, 79, 80] then (0, (upperS (cutB 32 s).1, [], -1, false))
  else if upperS (cutB 32 s).1 = [86, 82, 70, 89] then (if (cutB 32 s).2.1 = [] then 501 else 0, (upperS (cutB 32 s).1, (cutB 32 s).2.1, -1, false))
  else (500, (upperS (cutB 32 s).1, [], -1, false))
def normS (x : Int × VS) : Int × VS := if x.1 = 0 then x else (x.1, zeroV)
def verbS (s : List UInt8) : Int × VS := normS (cmdS s)
section
variable {s a r nm : List UInt8} {ok : Bool} (hA : (cutB 32 s).1 = a) (hR : (cutB 32 s).2.1 = r) (hB : (cutB 32 s).2.2 = ok) (hU : upperS a = nm)
include hA hR hB hU
theorem cmd_HELO (h : nm = [72, 69, 76, 79]) : cmdS s = greetS [72, 69, 76, 79] r := by
  unfold cmdS
  rw [hA, hU, hR, hB, h]
  simp
theorem cmd_EHLO (h : nm = [69, 72, 76, 79]) : cmdS s = greetS [69, 72, 76, 79] r := by
  unfold cmdS
  rw [hA, hU, hR, hB, h]
  simp
theorem cmd_MAIL (h : nm = [77, 65, 73, 76]) : cmdS s = mailS [77, 65, 73, 76] r := by
  unfold cmdS
  rw [hA, hU, hR, hB, h]
  simp
theorem cmd_RCPT (h : nm = [82, 67, 80, 84]) : cmdS s = rcptS [82, 67, 80, 84] r := by
  unfold cmdS
  rw [hA, hU, hR, hB, h]
  simp
theorem cmd_DATA (h : nm = [68, 65, 84, 65]) : cmdS s = (if ok = true then 501 else 0, ([68, 65, 84, 65], [], -1, false)) := by
  unfold cmdS
  rw [hA, hU, hR, hB, h]
  simp
theorem cmd_RSET (h : nm = [82, 83, 69, 84]) : cmdS s = (if ok = true then 501 else 0, ([82, 83, 69, 84], [], -1, false)) := by
  unfold cmdS
  rw [hA, hU, hR, hB, h]
  simp
theorem cmd_QUIT (h : nm = [81, 85, 73, 84]) : cmdS s = (if ok = true then 501 else 0, ([81, 85, 73, 84], [], -1, false)) := by
  unfold cmdS
  rw [hA, hU, hR, hB, h]
  simp
theorem cmd_NOOP (h : nm = [78, 79, 79, 80]) : cmdS s = (0, ([78, 79, 79, 80], [], -1, false)) := by
  unfold cmdS
  rw [hA, hU, hR, hB, h]
  simp
theorem cmd_VRFY (h : nm = [86, 82, 70, 89]) : cmdS s = (if r = [] then 501 else 0, ([86, 82, 70, 89], r, -1, false)) := by
  unfold cmdS
  rw [hA, hU, hR, hB, h]
  simp
theorem cmd_none (h0 : ¬ nm = [72, 69, 76, 79]) (h1 : ¬ nm = [69, 72, 76, 79]) (h2 : ¬ nm = [77, 65, 73, 76]) (h3 : ¬ nm = [82, 67, 80, 84]) (h4 : ¬ nm = [68, 65, 84, 65]) (h5 : ¬ nm = [82, 83, 69, 84]) (h6 : ¬ nm = [81, 85, 73, 84]) (h7 : ¬ nm = [78, 79, 79, 80]) (h8 : ¬ nm = [86, 82, 70, 89]) : cmdS s = (500, (nm, [], -1, false)) := by
  unfold cmdS
  rw [hA, hU, hR, hB]
  simp [h0, h1, h2, h3, h4, h5, h6, h7, h8]
end
theorem parse_call (hE : ErrVars w0) (s : List UInt8) (h : AH) (hl : s.length ≤ 1000000000) : Call P w0 verb_parse [.v (.string (bs s))] h (fun v h' => v = codeV (cmdS s) ∧ Ext h h') := by
  have hcut := fun h => cut_call (w0 := w0) s 32 h (by omega)
  obtain ⟨l1, l2⟩ := cutB_le 32 s
  have hup := fun h => upper_call (w0 := w0) (cutB 32 s).1 h (by omega)
  have hgr := fun nm h => greeting_call (w0 := w0) nm (cutB 32 s).2.1 h (by omega)
  have hma := fun nm h => mail_call (w0 := w0) hE nm (cutB 32 s).2.1 h (by omega)
  have hrc := fun nm h => vrcpt_call (w0 := w0) nm (cutB 32 s).2.1 h (by omega)
  simp only [verbA, codeV] at hgr hma hrc
  refine Call.bodyF b_verb_parse rfl rfl ?_
  unfold c_verb_parse
  have hq1 : cmdS s = cmdS s := rfl
  generalize hA : (cutB 32 s).1 = a at *
  generalize hR : (cutB 32 s).2.1 = r at *
  generalize hB : (cutB 32 s).2.2 = ok at *
  generalize hU : upperS a = nm at *
  clear hq1
  cases ok
  all_goals repeat' (first
| ((with_reducible apply opsF.op rfl); case hs => first | exact tHT | exact tHS)
| (with_reducible first | apply opsF.nil | apply seqF.nn | apply vcF.seq | apply vcF.region | apply vcF.skip | apply vcF.block | apply vcF.exit | apply vcF.ret | apply vcF.loop | apply seqF.e | apply seqF.r | apply blkF.nn | apply blkF.e | apply blkF.r | apply blkF.o rfl)
| ((with_reducible apply opsF.call); case hx => exact tAG)
| ((with_reducible apply vcF.cond); case hx => exact tEV) <;> ((intro hc; try simp only [Int.reduceLT, Int.reduceLE, Int.reduceEq, Int.reduceNe, Int.cast_ofNat_Int, Int.reduceNeg, reduceCtorEq, ne_eq, ge_iff_le, gt_iff_lt, beq_iff_eq, beq_eq_false_iff_ne, bne_iff_ne, bne_eq_false_iff_eq, nrm, *] at hc) <;> try (exfalso; omega))
| ((with_reducible first | apply retF.r | apply retF.nn); case hv => exact tRS)
| ((refine (hcut _).mono fun v h2 hp => ?_); obtain ⟨rfl, rfl⟩ := hp)
| ((refine (hup _).mono fun v h2 hp => ?_); obtain ⟨rfl, he⟩ := hp; have hN := he.n; have hO := he.objs; (try simp only [alloc_n, set_n, newTok_n, bump_n] at hN hO))
| ((refine (hgr _ _).mono fun v h3 hp => ?_); obtain ⟨rfl, he2⟩ := hp; have hN := he2.n; have hO := he2.objs; (try simp only [alloc_n, set_n, newTok_n, bump_n] at hN hO))
| ((refine (hma _ _).mono fun v h3 hp => ?_); obtain ⟨rfl, he2⟩ := hp; have hN := he2.n; have hO := he2.objs; (try simp only [alloc_n, set_n, newTok_n, bump_n] at hN hO))
| ((refine (hrc _ _).mono fun v h3 hp => ?_); obtain ⟨rfl, he2⟩ := hp; have hN := he2.n; have hO := he2.objs; (try simp only [alloc_n, set_n, newTok_n, bump_n] at hN hO)))
  all_goals refine ⟨?_, ?_⟩
  all_goals first
    | (rw [cmd_HELO hA hR hB hU (by assumption)]; first | rfl | (simp only [if_true, if_false]; rfl) | (simp only [*, if_true, if_false]; rfl))
    | (rw [cmd_EHLO hA hR hB hU (by assumption)]; first | rfl | (simp only [if_true, if_false]; rfl) | (simp only [*, if_true, if_false]; rfl))
    | (rw [cmd_MAIL hA hR hB hU (by assumption)]; first | rfl | (simp only [if_true, if_false]; rfl) | (simp only [*, if_true, if_false]; rfl))
    | (rw [cmd_RCPT hA hR hB hU (by assumption)]; first | rfl | (simp only [if_true, if_false]; rfl) | (simp only [*, if_true, if_false]; rfl))
    | (rw [cmd_DATA hA hR hB hU (by assumption)]; first | rfl | (simp only [if_true, if_false]; rfl) | (simp only [*, if_true, if_false]; rfl))
    | (rw [cmd_RSET hA hR hB hU (by assumption)]; first | rfl | (simp only [if_true, if_false]; rfl) | (simp only [*, if_true, if_false]; rfl))
    | (rw [cmd_QUIT hA hR hB hU (by assumption)]; first | rfl | (simp only [if_true, if_false]; rfl) | (simp only [*, if_true, if_false]; rfl))
    | (rw [cmd_NOOP hA hR hB hU (by assumption)]; first | rfl | (simp only [if_true, if_false]; rfl) | (simp only [*, if_true, if_false]; rfl))
    | (rw [cmd_VRFY hA hR hB hU (by assumption)]; first | rfl | (simp only [if_true, if_false]; rfl) | (simp only [*, if_true, if_false]; rfl))
    | (rw [cmd_none hA hR hB hU (by assumption) (by assumption) (by assumption) (by assumption) (by assumption) (by assumption) (by assumption) (by assumption) (by assumption)]; rfl)
    | (repeat' first
        | exact (Ext.alloc _ _).trans he
        | refine Ext.trans ?_ he2
        | refine Ext.set ?_ (by first | exact Nat.le_refl _ | omega | (simp only [alloc_n, set_n] at *; omega)) _
        | refine Ext.trans ?_ (Ext.alloc _ _))
theorem Parse_call (hE : ErrVars w0) (s : List UInt8) (h : AH) (hl : s.length ≤ 1000000000) : Call P w0 verb_Parse [.v (.string (bs s))] h (fun v h' => v = codeV (verbS s) ∧ Ext h h') := by
  have hpa := fun h => parse_call (w0 := w0) hE s h (by omega)
  simp only [verbA, codeV] at hpa
  have hn : codeV (verbS s) = if (cmdS s).1 = 0 then codeV (cmdS s) else codeV ((cmdS s).1, zeroV) := by
    unfold verbS normS
    split <;> rfl
  rw [hn]
  clear hn
  generalize cmdS s = r at *
  obtain ⟨c, a, b, sz, wd⟩ := r
  simp only [] at hpa ⊢
  refine Call.bodyF b_verb_Parse rfl rfl ?_
  unfold c_verb_Parse
  by_cases hc : c = 0
  · rw [if_pos hc]
    subst hc
    repeat' (first
| ((with_reducible apply opsF.op rfl); case hs => first | exact tHT | exact tHS)
| (with_reducible first | apply opsF.nil | apply seqF.nn | apply vcF.seq | apply vcF.region | apply vcF.skip | apply vcF.ret | apply seqF.r)
| ((with_reducible apply opsF.call); case hx => exact tAG)
| ((with_reducible apply vcF.cond); case hx => exact tEV) <;> ((intro hc; try simp only [Int.reduceLT, Int.reduceLE, Int.reduceEq, Int.reduceNe, Int.cast_ofNat_Int, Int.reduceNeg, reduceCtorEq, ne_eq, ge_iff_le, gt_iff_lt, beq_iff_eq, beq_eq_false_iff_ne, bne_iff_ne, bne_eq_false_iff_eq, nrm, *] at hc) <;> try (exfalso; omega))
| ((with_reducible first | apply retF.r | apply retF.nn); case hv => exact tRS)
| ((refine (hpa _).mono fun v h2 hp => ?_); obtain ⟨rfl, he⟩ := hp; have hN := he.n; have hO := he.objs; (try simp only [alloc_n, set_n, newTok_n, bump_n] at hN hO)))
    all_goals refine ⟨rfl, ?_⟩
    all_goals repeat' first
      | exact (Ext.alloc _ _).trans he
      | refine Ext.set ?_ (by first | exact Nat.le_refl _ | omega | (simp only [alloc_n, set_n] at *; omega)) _
      | refine Ext.trans ?_ (Ext.alloc _ _)
  · rw [if_neg hc]
    repeat' (first
| ((with_reducible apply opsF.op rfl); case hs => first | exact tHT | exact tHS)
| (with_reducible first | apply opsF.nil | apply seqF.nn | apply vcF.seq | apply vcF.region | apply vcF.skip | apply vcF.ret | apply seqF.r)
| ((with_reducible apply opsF.call); case hx => exact tAG)
| ((with_reducible apply vcF.cond); case hx => exact tEV) <;> ((intro hc; try simp only [Int.reduceLT, Int.reduceLE, Int.reduceEq, Int.reduceNe, Int.cast_ofNat_Int, Int.reduceNeg, reduceCtorEq, ne_eq, ge_iff_le, gt_iff_lt, beq_iff_eq, beq_eq_false_iff_ne, bne_iff_ne, bne_eq_false_iff_eq, nrm, *] at hc) <;> try (exfalso; omega))
| ((with_reducible first | apply retF.r | apply retF.nn); case hv => exact tRS)
| ((refine (hpa _).mono fun v h2 hp => ?_); obtain ⟨rfl, he⟩ := hp; have hN := he.n; have hO := he.objs; (try simp only [alloc_n, set_n, newTok_n, bump_n] at hN hO)))
    all_goals refine ⟨rfl, ?_⟩
    all_goals repeat' first
      | exact (Ext.alloc _ _).trans he
      | refine Ext.set ?_ (by first | exact Nat.le_refl _ | omega | (simp only [alloc_n, set_n] at *; omega)) _
      | refine Ext.trans ?_ (Ext.alloc _ _)
end Go.Abs.F
namespace Go.Abs.F
open Go Go.Abs
set_option maxRecDepth 10000
set_option maxHeartbeats 20000000
set_option linter.unusedSimpArgs false
set_option linter.unusedVariables false
variable {w0 : World}
end Go.Abs.F
/- Layer 3: commands: the plain side. -/
namespace Go.Abs.F
open Go Go.Abs
set_option maxRecDepth 10000
set_option maxHeartbeats 20000000
set_option linter.unusedSimpArgs false
set_option linter.unusedVariables false
end Go.Abs.F
