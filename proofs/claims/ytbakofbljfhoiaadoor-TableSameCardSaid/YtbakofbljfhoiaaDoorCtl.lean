/- ref01.Cut: its contract. -/
import Derived.Test.YtbakofbljfhoiaaDoorStr
import Derived.Test.YtbakofbljfhoiaaDoorGc
import Derived.Test.YtbakofbljfhoiaaDoorFrz
namespace Go.Abs.F
open Go Go.Abs Go.RowKit
set_option maxRecDepth 10000
set_option maxHeartbeats 2000000
set_option linter.unusedSimpArgs false
set_option linter.unusedVariables false
variable {w0 : World}
theorem drop_step {α : Type} {l : List α} {i : Nat} {x : α} (hx : l[i]? = some x) : l.drop i = x :: l.drop (i + 1) := by
  obtain ⟨h, rfl⟩ := List.getElem?_eq_some_iff.1 hx
  exact List.drop_eq_getElem_cons h
def glue (cur : List UInt8) : List (List UInt8) → List (List UInt8)
  | [] => [cur]
  | a :: t => (cur ++ a) :: t
theorem glue_nil (c : UInt8) (s : List UInt8) : glue [] (splB c s) = splB c s := by
  cases h : splB c s with
  | nil => exact absurd h (splB_ne c s)
  | cons a t => rfl
/-- The cells of strings. -/
def scel (l : List (List UInt8)) : List AV := l.map fun s => .v (.string (bs s))
theorem scel_len (l : List (List UInt8)) : (scel l).length = l.length := by simp [scel]
theorem scel_app (l m : List (List UInt8)) : scel (l ++ m) = scel l ++ scel m := by simp [scel]
theorem wrL_nil (cs : List AV) (n : Nat) : wrL cs n [] = cs := rfl
theorem wrL_one (cs : List AV) (n : Nat) (a : AV) : wrL cs n [a] = cs.set n a := rfl
/-- A row of strings that grows. -/
structure Grow (h0 h' : AH) (l : List (List UInt8)) (id c : Nat) (sp : List AV) : Prop where
  ob : h'.objs id = some (.cells (scel l ++ sp))
  cl : l.length + sp.length = c
  hi : h0.n ≤ id
  lt : id < h'.n
  ext : Ext h0 h'
theorem Grow.put {h0 h' : AH} {l : List (List UInt8)} {id c : Nat} {sp : List AV} (g : Grow h0 h' l id c sp) (x : List UInt8) (hr : l.length + 1 ≤ c) : ∃ sp', Grow h0 (h'.set id (.cells (wrL (scel l ++ sp) (l.length * 1) [.v (.string (bs x))]))) (l ++ [x]) id c sp' := by
  have hcl := g.cl
  cases sp with
  | nil => simp at hcl; omega
  | cons a sp =>
    refine ⟨sp, ?_, by simp at hcl ⊢; omega, g.hi, g.lt, g.ext.set g.hi _⟩
    rw [set_at, if_pos rfl, wrL_one, Nat.mul_one, List.set_append_right _ _ (by rw [scel_len]; exact Nat.le_refl _), scel_len, Nat.sub_self, List.set_cons_zero, scel_app]
    simp [scel]
theorem Grow.new {h0 h' : AH} {l : List (List UInt8)} {id c : Nat} {sp : List AV} (g : Grow h0 h' l id c sp) (x : List UInt8) {C : Nat} {sp2 : List AV} (hC : l.length + 1 ≤ C) (hs : sp2.length = (C - (l.length + 1)) * 1) : Grow h0 (h'.alloc (.cells ((scel l ++ sp).take (l.length * 1) ++ ([.v (.string (bs x))] ++ sp2)))) (l ++ [x]) h'.n C sp2 := by
  refine ⟨?_, by simp; omega, Nat.le_trans g.hi (Nat.le_of_lt g.lt), by rw [alloc_n]; omega, g.ext.trans (Ext.alloc _ _)⟩
  rw [alloc_at, if_pos rfl, List.take_append_of_le_length (by rw [scel_len]; omega), List.take_of_length_le (by rw [scel_len]; omega), scel_app]
  simp [scel]
theorem Grow.store {h0 h' : AH} {l : List (List UInt8)} {y : List UInt8} {id c : Nat} {sp : List AV} (g : Grow h0 h' (l ++ [y]) id c sp) (x : List UInt8) : Grow h0 (h'.set id (.cells (wrL (scel (l ++ [y]) ++ sp) l.length [.v (.string (bs x))]))) (l ++ [x]) id c sp := by
  have hcl := g.cl
  refine ⟨?_, by simp at hcl ⊢; omega, g.hi, g.lt, g.ext.set g.hi _⟩
  rw [set_at, if_pos rfl, wrL_one, scel_app, scel_app, List.append_assoc, List.append_assoc, List.set_append_right _ _ (by rw [scel_len]; exact Nat.le_refl _), scel_len, Nat.sub_self]
  rfl
theorem rcut_row (s : List UInt8) (c : UInt8) (h : AH) (hl : s.length ≤ 1000000000) : Call P w0 ref01_Cut [.v (.string (bs s)), .v (.int .u8 (c.toNat : Int))] h
    (fun v h' => ∃ id cp sp, v = .row id 0 (splB c s).length (some cp) ∧ Grow h h' (splB c s) id cp sp) := by
  refine Call.bodyF b_ref01_Cut rfl rfl ?_
  unfold c_ref01_Cut
  repeat' (first
    | ((with_reducible apply opsF.op rfl); (case hs => (first | exact tHT | exact tHS)))
    | with_reducible (first | apply opsF.nil | apply seqF.nn | apply vcF.seq | apply vcF.region | apply vcF.skip | apply vcF.block | apply vcF.exit | apply vcF.ret | apply vcF.loop | apply seqF.e | apply seqF.r | apply blkF.nn | apply blkF.e | apply blkF.r | apply blkF.o rfl)
    | ((with_reducible apply opsF.call); (case hx => exact tAG))
    | (first | ((with_reducible apply vcF.cond); (case hx => exact tEV))) <;> ((intro hc; try simp only [Int.reduceLT, Int.reduceLE, Int.reduceEq, Int.reduceNe, Int.cast_ofNat_Int, Int.reduceNeg, decide_true, decide_false, not_true_eq_false, not_false_eq_true, decide_eq_true_eq, decide_eq_false_iff_not, Bool.not_eq_true', Bool.not_eq_false', Bool.not_true, Bool.not_false, Bool.false_eq_true, Bool.true_eq_false, Bool.not_eq_true, Bool.not_eq_false, beq_iff_eq, beq_eq_false_iff_ne, bne_iff_ne, bne_eq_false_iff_eq, ne_eq, Int.not_lt, Int.not_le, ge_iff_le, gt_iff_lt, Decidable.not_not, reduceCtorEq, *] at hc) <;> (try (exfalso; omega)))
    | ((with_reducible apply retF.r); (case hv => exact tRS))
    | ((with_reducible apply retF.nn); (case hv => exact tRS))
    | ((with_reducible apply opsF.op rfl); (case hs => rfl)))
  refine LpF.ind rfl (fun i : Nat => s.length - i) (fun i σ h' => ∃ (done : List (List UInt8)) (cur : List UInt8) (id cp : Nat) (sp : List AV), i ≤ s.length ∧ σ 0 = .v (.string (bs s)) ∧ σ 1 = .v (.int .u8 (c.toNat : Int)) ∧ σ 6 = .v (.int .i64 (i : Nat)) ∧ σ 5 = .row id 0 (done.length + 1) (some cp) ∧ Grow h h' (done ++ [cur]) id cp sp ∧
    done ++ glue cur (splB c (s.drop i)) = splB c s ∧ done.length ≤ i ∧ cur.length ≤ i) ?_ (i := 0)
    ⟨[], [], h.n, 1, [], Nat.zero_le _, rfl, rfl, rfl, rfl, ⟨by rw [alloc_at, if_pos rfl]; rfl, rfl, Nat.le_refl _, by rw [alloc_n]; omega, Ext.alloc _ _⟩, by simp [glue_nil], by simp, by simp⟩
  rintro i σ h' ⟨done, cur, id, cp, sp, hi, h0, h1, h6, h5, hG, hS, hd, hc⟩
  have hob := hG.ob
  have hcl : done.length + 1 + sp.length = cp := by have := hG.cl; simpa using this
  have hlt := hG.lt
  have hcs : (scel (done ++ [cur]) ++ sp).length = cp := by simp [scel_len]; omega
  rcases Nat.lt_or_ge i s.length with hil | hil
  · obtain ⟨x, hx⟩ : ∃ x, s[i]? = some x := ⟨_, List.getElem?_eq_getElem hil⟩
    by_cases hxc : x = c
    · subst hxc
      repeat' (first
    | ((with_reducible apply opsF.op rfl); (case hs => (first | exact tHT | exact tHS)))
    | with_reducible (first | apply opsF.nil | apply seqF.nn | apply vcF.seq | apply vcF.region | apply vcF.skip | apply vcF.block | apply vcF.exit | apply vcF.ret | apply vcF.loop | apply seqF.e | apply seqF.r | apply blkF.nn | apply blkF.e | apply blkF.r | apply blkF.o rfl)
    | ((with_reducible apply opsF.call); (case hx => exact tAG))
    | (first | ((with_reducible apply vcF.cond); (case hx => exact tEV))) <;> ((intro hc; try simp only [Int.reduceLT, Int.reduceLE, Int.reduceEq, Int.reduceNe, Int.cast_ofNat_Int, Int.reduceNeg, decide_true, decide_false, not_true_eq_false, not_false_eq_true, decide_eq_true_eq, decide_eq_false_iff_not, Bool.not_eq_true', Bool.not_eq_false', Bool.not_true, Bool.not_false, Bool.false_eq_true, Bool.true_eq_false, Bool.not_eq_true, Bool.not_eq_false, beq_iff_eq, beq_eq_false_iff_ne, bne_iff_ne, bne_eq_false_iff_eq, ne_eq, Int.not_lt, Int.not_le, ge_iff_le, gt_iff_lt, Decidable.not_not, reduceCtorEq, *] at hc) <;> (try (exfalso; omega)))
    | ((with_reducible apply retF.r); (case hv => exact tRS))
    | ((with_reducible apply retF.nn); (case hv => exact tRS))
    | ((with_reducible apply opsF.appR); (case hx => exact tEV); (case hy => exact tEV); (case hv => exact tSR); (case ho => assumption); (case hl => omega); (case hc => omega); (case hb => exact tNB); (case hne => simp); all_goals intro hcp; all_goals (try intro C sp2 hC hs2)))
      · obtain ⟨sp', g2⟩ := hG.put [] (by simpa using hcp)
        rw [List.length_append, List.length_singleton] at g2
        refine ⟨i + 1, by omega, done ++ [cur], [], id, cp, sp', by omega, h0, h1, rfl, by rw [List.length_append]; rfl, g2, ?_, by simp; omega, by simp⟩
        rw [glue_nil, ← hS, drop_step hx, splB, if_pos rfl]
        simp [glue]
      · have g2 := hG.new [] (C := C) (sp2 := sp2) (by simpa using hC) (by simpa using hs2)
        rw [List.length_append, List.length_singleton] at g2
        refine ⟨i + 1, by omega, done ++ [cur], [], h'.n, C, sp2, by omega, h0, h1, rfl, by rw [List.length_append]; rfl, g2, ?_, by simp; omega, by simp⟩
        rw [glue_nil, ← hS, drop_step hx, splB, if_pos rfl]
        simp [glue]
    · have hne : ¬ (x.toNat : Int) = (c.toNat : Int) := fun e => hxc (UInt8.toNat_inj.1 (by omega))
      have hgt : (scel (done ++ [cur]) ++ sp)[done.length]? = some (.v (.string (bs cur))) := by
        rw [scel_app, List.append_assoc, List.getElem?_append_right (by rw [scel_len]; exact Nat.le_refl _), scel_len, Nat.sub_self]; rfl
      have hsl : (s.take (i + 1)).drop i = [x] := by
        rw [List.take_add_one, hx, Option.toList_some, List.drop_append_of_le_length (by simp; omega), List.drop_eq_nil_of_le (by simp; omega)]
        rfl
      have hix : (((done.length + 1 : Nat) : Int) - 1).toNat = done.length := by omega
      have hz : ∀ n : Nat, 0 + n * 1 = n := fun n => by omega
      have hi1 : ((i : Int) + 1).toNat = i + 1 := by omega
      repeat' (first
    | ((with_reducible apply opsF.op rfl); (case hs => (first | exact tHT | exact tHS)))
    | with_reducible (first | apply opsF.nil | apply seqF.nn | apply vcF.seq | apply vcF.region | apply vcF.skip | apply vcF.block | apply vcF.exit | apply vcF.ret | apply vcF.loop | apply seqF.e | apply seqF.r | apply blkF.nn | apply blkF.e | apply blkF.r | apply blkF.o rfl)
    | ((with_reducible apply opsF.call); (case hx => exact tAG))
    | (first | ((with_reducible apply vcF.cond); (case hx => exact tEV))) <;> ((intro hc; try simp only [Int.reduceLT, Int.reduceLE, Int.reduceEq, Int.reduceNe, Int.cast_ofNat_Int, Int.reduceNeg, decide_true, decide_false, not_true_eq_false, not_false_eq_true, decide_eq_true_eq, decide_eq_false_iff_not, Bool.not_eq_true', Bool.not_eq_false', Bool.not_true, Bool.not_false, Bool.false_eq_true, Bool.true_eq_false, Bool.not_eq_true, Bool.not_eq_false, beq_iff_eq, beq_eq_false_iff_ne, bne_iff_ne, bne_eq_false_iff_eq, ne_eq, Int.not_lt, Int.not_le, ge_iff_le, gt_iff_lt, Decidable.not_not, reduceCtorEq, *] at hc) <;> (try (exfalso; omega)))
    | ((with_reducible apply retF.r); (case hv => exact tRS))
    | ((with_reducible apply retF.nn); (case hv => exact tRS)))
      refine ⟨i + 1, by omega, done, cur ++ [x], id, cp, sp, by omega, h0, h1, rfl, h5, ?_, ?_, by omega, by simp; omega⟩
      · have g2 := hG.store (cur ++ [x])
        simpa only [wrL_one, hz] using g2
      · rw [← hS, drop_step hx, splB, if_neg hxc]
        cases hsp : splB c (s.drop (i + 1)) with
        | nil => exact absurd hsp (splB_ne _ _)
        | cons a t => simp [glue]
  · rw [List.drop_eq_nil_of_le hil] at hS
    simp only [splB, glue, List.append_nil] at hS
    rw [← hS]
    repeat' (first
    | ((with_reducible apply opsF.op rfl); (case hs => (first | exact tHT | exact tHS)))
    | with_reducible (first | apply opsF.nil | apply seqF.nn | apply vcF.seq | apply vcF.region | apply vcF.skip | apply vcF.block | apply vcF.exit | apply vcF.ret | apply vcF.loop | apply seqF.e | apply seqF.r | apply blkF.nn | apply blkF.e | apply blkF.r | apply blkF.o rfl)
    | ((with_reducible apply opsF.call); (case hx => exact tAG))
    | (first | ((with_reducible apply vcF.cond); (case hx => exact tEV))) <;> ((intro hc; try simp only [Int.reduceLT, Int.reduceLE, Int.reduceEq, Int.reduceNe, Int.cast_ofNat_Int, Int.reduceNeg, decide_true, decide_false, not_true_eq_false, not_false_eq_true, decide_eq_true_eq, decide_eq_false_iff_not, Bool.not_eq_true', Bool.not_eq_false', Bool.not_true, Bool.not_false, Bool.false_eq_true, Bool.true_eq_false, Bool.not_eq_true, Bool.not_eq_false, beq_iff_eq, beq_eq_false_iff_ne, bne_iff_ne, bne_eq_false_iff_eq, ne_eq, Int.not_lt, Int.not_le, ge_iff_le, gt_iff_lt, Decidable.not_not, reduceCtorEq, *] at hc) <;> (try (exfalso; omega)))
    | ((with_reducible apply retF.r); (case hv => exact tRS))
    | ((with_reducible apply retF.nn); (case hv => exact tRS)))
    all_goals exact ⟨id, cp, sp, by rw [List.length_append]; rfl, hG⟩
theorem rcut_call (s : List UInt8) (c : UInt8) (h : AH) (hl : s.length ≤ 1000000000) : Call P w0 ref01_Cut [.v (.string (bs s)), .v (.int .u8 (c.toNat : Int))] h (fun v h' => v = .list 1 (srows (splB c s)) .no ∧ h' = h) := by
  have key := Call.listed (Q' := fun v h' => v = .list 1 (srows (splB c s)) .no ∧ Ext h h') (rcut_row (w0 := w0) s c h hl) (fun v h' hq => by
    obtain ⟨id, cp, sp, rfl, g⟩ := hq
    refine ⟨id, _, some cp, 1, srows (splB c s), sp, .no, rfl, ?_, srows_len _, fun r hr => ?_, Nat.one_pos, .inl rfl, rfl, g.ext.drop g.hi⟩
    · rw [g.ob]
      congr 2
      simp only [srows, scel]
      clear g hl
      congr 1
      induction splB c s with
      | nil => rfl
      | cons a l ih => rw [List.map_cons, List.map_cons, List.flatten_cons, ih]; rfl
    · simp only [srows, List.mem_map] at hr
      obtain ⟨a, _, rfl⟩ := hr
      rfl)
  refine key.gc fun v h' hq => ⟨?_, hq.2, hq.1⟩
  rw [hq.1]
  refine Plain.listv trivial fun r hr x hx => ?_
  simp only [srows, List.mem_map] at hr
  obtain ⟨a, _, rfl⟩ := hr
  rw [List.mem_singleton.1 hx]
  exact .v _
end Go.Abs.F
