/- Tables: the reference's Parse. -/
import Derived.Test.YtbakofbljfhoiaaDoorTabG
namespace Go.Abs.F
open Go Go.Abs
set_option maxRecDepth 10000
set_option maxHeartbeats 20000000
set_option linter.unusedSimpArgs false
set_option linter.unusedVariables false
variable {w0 : World}
theorem rparse_raw (s : List UInt8) (h : AH) (hl : s.length ≤ 1000000000) : Call P w0 ref14_Parse [.v (.string (bs s))] h (fun v h' => (∃ t1 t2 t3, v = resV (tableS s) t1 t2 t3) ∧ Ext h h') := by
  have xl := srows_len
  have xg := srows_get
  have hE2 : ∀ o1 o2, Ext h ((h.alloc o1).alloc o2) := fun o1 o2 => (Ext.alloc _ _).trans (Ext.alloc _ _)
  refine Call.bodyF b_ref14_Parse rfl rfl ?_
  unfold c_ref14_Parse
  rcases Nat.lt_or_ge 16384 s.length with hbig | hsm
  · have hT : tableS s = (zeroT, 0, 9) := if_pos hbig
    rw [hT]
    repeat' (first
    | ((with_reducible apply opsF.op rfl); (case hs => (first | exact tHT | exact tHS)))
    | with_reducible (first | apply opsF.nil | apply seqF.nn | apply vcF.seq | apply vcF.region | apply vcF.skip | apply vcF.block | apply vcF.exit | apply vcF.ret | apply vcF.loop | apply seqF.e | apply seqF.r | apply blkF.nn | apply blkF.e | apply blkF.r | apply blkF.o rfl)
    | ((with_reducible apply opsF.call); (case hx => exact tAG))
    | ((with_reducible apply opsF.want); (case hg => exact tEV); (case hb => exact tNB))
    | ((with_reducible apply opsF.skip); (case hg => exact tEV); (case hb => exact tNB))
    | (first | ((with_reducible apply opsF.case); (case hg => exact tEV)) | ((with_reducible apply vcF.cond); (case hx => exact tEV))) <;> ((intro hc; try simp only [Int.reduceLT, Int.reduceLE, Int.reduceEq, Int.reduceNe, Int.cast_ofNat_Int, Int.reduceNeg, decide_true, decide_false, not_true_eq_false, not_false_eq_true, decide_eq_true_eq, decide_eq_false_iff_not, Bool.not_eq_true', Bool.not_eq_false', Bool.not_true, Bool.not_false, Bool.false_eq_true, Bool.true_eq_false, Bool.not_eq_true, Bool.not_eq_false, beq_iff_eq, beq_eq_false_iff_ne, bne_iff_ne, bne_eq_false_iff_eq, ne_eq, Int.not_lt, Int.not_le, ge_iff_le, gt_iff_lt, Decidable.not_not, reduceCtorEq, *] at hc) <;> (try (exfalso; omega)))
    | ((with_reducible apply opsF.und); (case hg => rfl))
    | ((with_reducible apply retF.r); (case hv => exact tRS))
    | ((with_reducible apply retF.nn); (case hv => exact tRS)))
    all_goals exact ⟨⟨.full, .full, .full, rfl⟩, (hE2 _ _).set (Nat.le_refl _) _⟩
  · have hT : tableS s = tparse (linesS s) 0 0 zeroT := if_neg (by omega)
    rw [hT]
    have hli := fun h => rlines_call (w0 := w0) s h hl
    have hlm : ∀ l ∈ linesS s, l.length ≤ 16384 := fun l hm => by
      have h1 : l ∈ splB 10 s := by
        rw [linesS] at hm
        split at hm
        · exact (List.dropLast_sublist _).subset hm
        · exact hm
      have := splB_mem s.length (Nat.le_refl _) h1
      omega
    have hll : (linesS s).length ≤ 20000 := by
      have h1 := splB_len (c := 10) s.length (Nat.le_refl _)
      rw [linesS]
      split
      · rw [List.length_dropLast]; omega
      · omega
    generalize linesS s = L at *
    repeat' (first
    | ((with_reducible apply opsF.op rfl); (case hs => (first | exact tHT | exact tHS)))
    | with_reducible (first | apply opsF.nil | apply seqF.nn | apply vcF.seq | apply vcF.region | apply vcF.skip | apply vcF.block | apply vcF.exit | apply vcF.ret | apply vcF.loop | apply seqF.e | apply seqF.r | apply blkF.nn | apply blkF.e | apply blkF.r | apply blkF.o rfl)
    | ((with_reducible apply opsF.call); (case hx => exact tAG))
    | ((with_reducible apply opsF.want); (case hg => exact tEV); (case hb => exact tNB))
    | ((with_reducible apply opsF.skip); (case hg => exact tEV); (case hb => exact tNB))
    | (first | ((with_reducible apply opsF.case); (case hg => exact tEV)) | ((with_reducible apply vcF.cond); (case hx => exact tEV))) <;> ((intro hc; try simp only [Int.reduceLT, Int.reduceLE, Int.reduceEq, Int.reduceNe, Int.cast_ofNat_Int, Int.reduceNeg, decide_true, decide_false, not_true_eq_false, not_false_eq_true, decide_eq_true_eq, decide_eq_false_iff_not, Bool.not_eq_true', Bool.not_eq_false', Bool.not_true, Bool.not_false, Bool.false_eq_true, Bool.true_eq_false, Bool.not_eq_true, Bool.not_eq_false, beq_iff_eq, beq_eq_false_iff_ne, bne_iff_ne, bne_eq_false_iff_eq, ne_eq, Int.not_lt, Int.not_le, ge_iff_le, gt_iff_lt, Decidable.not_not, reduceCtorEq, *] at hc) <;> (try (exfalso; omega)))
    | ((with_reducible apply opsF.und); (case hg => rfl))
    | ((with_reducible apply retF.r); (case hv => exact tRS))
    | ((with_reducible apply retF.nn); (case hv => exact tRS))
    | ((refine Call.use (hli _) ?_)))
    refine LpF.ind rfl (fun i : Nat => L.length - i) (fun i σ hh => ∃ (n : Nat) (t : TB) (t1 t2 t3 : Tok), i ≤ L.length ∧ n ≤ 200 ∧ TBd t n ∧ Ext h hh ∧ hh.objs h.n = some (.cells (tabC zeroT .full .full .full)) ∧ TS h.nt hh (h.n + 1) t [] t1 t2 t3 ∧ tparse (L.drop i) i n t = tparse L 0 0 zeroT ∧
      σ 2 = .ptr h.n 0 ∧ σ 5 = .ptr (h.n + 1) 0 ∧ σ 6 = .list 1 (srows L) .no ∧ σ 7 = .v (.int .i64 (n : Nat)) ∧ σ 8 = .v (.int .i64 (i : Nat))) ?_ (i := 0)
      ⟨0, zeroT, .full, .full, .full, Nat.zero_le _, by omega, ⟨Nat.le_refl _, Nat.le_refl _, Nat.le_refl _⟩, hE2 _ _, by exact tHX, ⟨by exact tHX, by simp only [alloc_n]; omega, Nat.le_refl _, trivial, trivial, trivial, (fun x hx => by cases hx), (fun x hx => by cases hx), (fun x hx => by cases hx), (fun x hx => by cases hx), (fun x hx => by cases hx), (fun x hx => by cases hx)⟩, rfl, rfl, rfl, rfl, rfl, rfl⟩
    rintro i σ hh ⟨n, t, t1, t2, t3, hi, hn, hb, hE, hz, hTS, hP, s2, s5, s6, s7, s8⟩
    rw [← hP]
    have hob := hTS.ob
    have hlt := hTS.lt
    have hz' := hz
    unfold tabC at hz'
    rcases Nat.lt_or_ge i L.length with hil | hil
    · obtain ⟨x, hx⟩ : ∃ x, L[i]? = some x := ⟨_, List.getElem?_eq_getElem hil⟩
      have hxl := hlm x (List.mem_of_getElem? hx)
      rw [drop_step hx, tparse]
      cases hsk : skipB x with
      | true =>
        simp only [if_true]
        cases x with
        | nil =>
          repeat' (first
    | ((with_reducible apply opsF.op rfl); (case hs => (first | exact tHT | exact tHS)))
    | with_reducible (first | apply opsF.nil | apply seqF.nn | apply vcF.seq | apply vcF.region | apply vcF.skip | apply vcF.block | apply vcF.exit | apply vcF.ret | apply vcF.loop | apply seqF.e | apply seqF.r | apply blkF.nn | apply blkF.e | apply blkF.r | apply blkF.o rfl)
    | ((with_reducible apply opsF.call); (case hx => exact tAG))
    | ((with_reducible apply opsF.want); (case hg => exact tEV); (case hb => exact tNB))
    | ((with_reducible apply opsF.skip); (case hg => exact tEV); (case hb => exact tNB))
    | (first | ((with_reducible apply opsF.case); (case hg => exact tEV)) | ((with_reducible apply vcF.cond); (case hx => exact tEV))) <;> ((intro hc; try simp only [Int.reduceLT, Int.reduceLE, Int.reduceEq, Int.reduceNe, Int.cast_ofNat_Int, Int.reduceNeg, decide_true, decide_false, not_true_eq_false, not_false_eq_true, decide_eq_true_eq, decide_eq_false_iff_not, Bool.not_eq_true', Bool.not_eq_false', Bool.not_true, Bool.not_false, Bool.false_eq_true, Bool.true_eq_false, Bool.not_eq_true, Bool.not_eq_false, beq_iff_eq, beq_eq_false_iff_ne, bne_iff_ne, bne_eq_false_iff_eq, ne_eq, Int.not_lt, Int.not_le, ge_iff_le, gt_iff_lt, Decidable.not_not, reduceCtorEq, *] at hc) <;> (try (exfalso; omega)))
    | ((with_reducible apply opsF.und); (case hg => rfl))
    | ((with_reducible apply retF.r); (case hv => exact tRS))
    | ((with_reducible apply retF.nn); (case hv => exact tRS)))
          exact ⟨i + 1, by omega, n, t, t1, t2, t3, by omega, hn, hb, hE, hz, hTS, rfl, s2, s5, s6, s7, rfl⟩
        | cons c r =>
          have hc : (c.toNat : Int) = 35 := by
            have : c = 35 := by simpa [skipB] using hsk
            rw [this]; rfl
          have hc0 : (c :: r)[0]? = some c := rfl
          have hne : ¬ (c :: r) = [] := by simp
          generalize c :: r = X at *
          repeat' (first
    | ((with_reducible apply opsF.op rfl); (case hs => (first | exact tHT | exact tHS)))
    | with_reducible (first | apply opsF.nil | apply seqF.nn | apply vcF.seq | apply vcF.region | apply vcF.skip | apply vcF.block | apply vcF.exit | apply vcF.ret | apply vcF.loop | apply seqF.e | apply seqF.r | apply blkF.nn | apply blkF.e | apply blkF.r | apply blkF.o rfl)
    | ((with_reducible apply opsF.call); (case hx => exact tAG))
    | ((with_reducible apply opsF.want); (case hg => exact tEV); (case hb => exact tNB))
    | ((with_reducible apply opsF.skip); (case hg => exact tEV); (case hb => exact tNB))
    | (first | ((with_reducible apply opsF.case); (case hg => exact tEV)) | ((with_reducible apply vcF.cond); (case hx => exact tEV))) <;> ((intro hc; try simp only [Int.reduceLT, Int.reduceLE, Int.reduceEq, Int.reduceNe, Int.cast_ofNat_Int, Int.reduceNeg, decide_true, decide_false, not_true_eq_false, not_false_eq_true, decide_eq_true_eq, decide_eq_false_iff_not, Bool.not_eq_true', Bool.not_eq_false', Bool.not_true, Bool.not_false, Bool.false_eq_true, Bool.true_eq_false, Bool.not_eq_true, Bool.not_eq_false, beq_iff_eq, beq_eq_false_iff_ne, bne_iff_ne, bne_eq_false_iff_eq, ne_eq, Int.not_lt, Int.not_le, ge_iff_le, gt_iff_lt, Decidable.not_not, reduceCtorEq, *] at hc) <;> (try (exfalso; omega)))
    | ((with_reducible apply opsF.und); (case hg => rfl))
    | ((with_reducible apply retF.r); (case hv => exact tRS))
    | ((with_reducible apply retF.nn); (case hv => exact tRS)))
          exact ⟨i + 1, by omega, n, t, t1, t2, t3, by omega, hn, hb, hE, hz, hTS, rfl, s2, s5, s6, s7, rfl⟩
      | false =>
        simp only [Bool.false_eq_true, if_false]
        obtain ⟨c, r, hxc⟩ : ∃ c r, x = c :: r := by
          cases x with
          | nil => simp [skipB] at hsk
          | cons c r => exact ⟨c, r, rfl⟩
        have hc : ¬ (c.toNat : Int) = 35 := by
          intro e
          have : c = 35 := UInt8.toNat_inj.1 (by simpa using (by omega : c.toNat = 35))
          rw [hxc, this] at hsk
          simp [skipB] at hsk
        have hc0 : x[0]? = some c := by rw [hxc]; rfl
        have hne : ¬ x = [] := by rw [hxc]; simp
        clear hxc hsk
        have hcut := fun h => rcut_call (w0 := w0) x 32 h (by omega)
        have e32 : ((32 : UInt8).toNat : Int) = 32 := rfl
        obtain ⟨b1, b2, b3⟩ := hb
        have hen := rentry_call (w0 := w0) h.nt (h.n + 1) t [] t1 t2 t3 x .no hh hTS (by omega) ⟨by omega, by omega, by omega⟩
        cases ho : entryO t (splB 32 x) with
        | none =>
          rw [ho] at hen
          repeat' (first
    | ((with_reducible apply opsF.op rfl); (case hs => (first | exact tHT | exact tHS)))
    | with_reducible (first | apply opsF.nil | apply seqF.nn | apply vcF.seq | apply vcF.region | apply vcF.skip | apply vcF.block | apply vcF.exit | apply vcF.ret | apply vcF.loop | apply seqF.e | apply seqF.r | apply blkF.nn | apply blkF.e | apply blkF.r | apply blkF.o rfl)
    | ((with_reducible apply opsF.call); (case hx => exact tAG))
    | ((with_reducible apply opsF.want); (case hg => exact tEV); (case hb => exact tNB))
    | ((with_reducible apply opsF.skip); (case hg => exact tEV); (case hb => exact tNB))
    | (first | ((with_reducible apply opsF.case); (case hg => exact tEV)) | ((with_reducible apply vcF.cond); (case hx => exact tEV))) <;> ((intro hc; try simp only [Int.reduceLT, Int.reduceLE, Int.reduceEq, Int.reduceNe, Int.cast_ofNat_Int, Int.reduceNeg, decide_true, decide_false, not_true_eq_false, not_false_eq_true, decide_eq_true_eq, decide_eq_false_iff_not, Bool.not_eq_true', Bool.not_eq_false', Bool.not_true, Bool.not_false, Bool.false_eq_true, Bool.true_eq_false, Bool.not_eq_true, Bool.not_eq_false, beq_iff_eq, beq_eq_false_iff_ne, bne_iff_ne, bne_eq_false_iff_eq, ne_eq, Int.not_lt, Int.not_le, ge_iff_le, gt_iff_lt, Decidable.not_not, reduceCtorEq, *] at hc) <;> (try (exfalso; omega)))
    | ((with_reducible apply opsF.und); (case hg => rfl))
    | ((with_reducible apply retF.r); (case hv => exact tRS))
    | ((with_reducible apply retF.nn); (case hv => exact tRS))
    | ((refine Call.use (hcut _) ?_))
    | ((refine hen.mono fun v h3 hq => ?_); unfold MethP at hq; simp only [Option.isSome_none] at hq; obtain ⟨rfl, hE3, hS3⟩ := hq; have q0 : h3.objs h.n = some (.cells (tabC zeroT .full .full .full)) := (hE3.objs _ (by omega) (by omega)).trans hz; unfold tabC at q0))
          all_goals exact ⟨⟨.full, .full, .full, rfl⟩, (Ext.thenX hE hE3 (fun i hi => by omega) (fun t ht => ht)).set (Nat.le_refl _) _⟩
        | some t' =>
          rw [ho] at hen
          by_cases hn2 : n + 1 ≤ 200
          · simp only [if_pos hn2]
            repeat' (first
    | ((with_reducible apply opsF.op rfl); (case hs => (first | exact tHT | exact tHS)))
    | with_reducible (first | apply opsF.nil | apply seqF.nn | apply vcF.seq | apply vcF.region | apply vcF.skip | apply vcF.block | apply vcF.exit | apply vcF.ret | apply vcF.loop | apply seqF.e | apply seqF.r | apply blkF.nn | apply blkF.e | apply blkF.r | apply blkF.o rfl)
    | ((with_reducible apply opsF.call); (case hx => exact tAG))
    | ((with_reducible apply opsF.want); (case hg => exact tEV); (case hb => exact tNB))
    | ((with_reducible apply opsF.skip); (case hg => exact tEV); (case hb => exact tNB))
    | (first | ((with_reducible apply opsF.case); (case hg => exact tEV)) | ((with_reducible apply vcF.cond); (case hx => exact tEV))) <;> ((intro hc; try simp only [Int.reduceLT, Int.reduceLE, Int.reduceEq, Int.reduceNe, Int.cast_ofNat_Int, Int.reduceNeg, decide_true, decide_false, not_true_eq_false, not_false_eq_true, decide_eq_true_eq, decide_eq_false_iff_not, Bool.not_eq_true', Bool.not_eq_false', Bool.not_true, Bool.not_false, Bool.false_eq_true, Bool.true_eq_false, Bool.not_eq_true, Bool.not_eq_false, beq_iff_eq, beq_eq_false_iff_ne, bne_iff_ne, bne_eq_false_iff_eq, ne_eq, Int.not_lt, Int.not_le, ge_iff_le, gt_iff_lt, Decidable.not_not, reduceCtorEq, *] at hc) <;> (try (exfalso; omega)))
    | ((with_reducible apply opsF.und); (case hg => rfl))
    | ((with_reducible apply retF.r); (case hv => exact tRS))
    | ((with_reducible apply retF.nn); (case hv => exact tRS))
    | ((refine Call.use (hcut _) ?_))
    | ((refine hen.mono fun v h3 hq => ?_); unfold MethP at hq; simp only [Option.isSome_some] at hq; obtain ⟨rfl, hE3, hS3⟩ := hq; have q0 : h3.objs h.n = some (.cells (tabC zeroT .full .full .full)) := (hE3.objs _ (by omega) (by omega)).trans hz; have q0' := q0; unfold tabC at q0'))
            obtain ⟨u1, u2, u3, hT3⟩ := hS3 t' rfl
            exact ⟨i + 1, by omega, n + 1, t', u1, u2, u3, by omega, hn2, entry_bd ho ⟨b1, b2, b3⟩, Ext.thenX hE hE3 (fun i hi => by omega) (fun t ht => ht), q0, hT3, rfl, s2, s5, s6, rfl, rfl⟩
          · simp only [if_neg hn2]
            repeat' (first
    | ((with_reducible apply opsF.op rfl); (case hs => (first | exact tHT | exact tHS)))
    | with_reducible (first | apply opsF.nil | apply seqF.nn | apply vcF.seq | apply vcF.region | apply vcF.skip | apply vcF.block | apply vcF.exit | apply vcF.ret | apply vcF.loop | apply seqF.e | apply seqF.r | apply blkF.nn | apply blkF.e | apply blkF.r | apply blkF.o rfl)
    | ((with_reducible apply opsF.call); (case hx => exact tAG))
    | ((with_reducible apply opsF.want); (case hg => exact tEV); (case hb => exact tNB))
    | ((with_reducible apply opsF.skip); (case hg => exact tEV); (case hb => exact tNB))
    | (first | ((with_reducible apply opsF.case); (case hg => exact tEV)) | ((with_reducible apply vcF.cond); (case hx => exact tEV))) <;> ((intro hc; try simp only [Int.reduceLT, Int.reduceLE, Int.reduceEq, Int.reduceNe, Int.cast_ofNat_Int, Int.reduceNeg, decide_true, decide_false, not_true_eq_false, not_false_eq_true, decide_eq_true_eq, decide_eq_false_iff_not, Bool.not_eq_true', Bool.not_eq_false', Bool.not_true, Bool.not_false, Bool.false_eq_true, Bool.true_eq_false, Bool.not_eq_true, Bool.not_eq_false, beq_iff_eq, beq_eq_false_iff_ne, bne_iff_ne, bne_eq_false_iff_eq, ne_eq, Int.not_lt, Int.not_le, ge_iff_le, gt_iff_lt, Decidable.not_not, reduceCtorEq, *] at hc) <;> (try (exfalso; omega)))
    | ((with_reducible apply opsF.und); (case hg => rfl))
    | ((with_reducible apply retF.r); (case hv => exact tRS))
    | ((with_reducible apply retF.nn); (case hv => exact tRS))
    | ((refine Call.use (hcut _) ?_))
    | ((refine hen.mono fun v h3 hq => ?_); unfold MethP at hq; simp only [Option.isSome_some] at hq; obtain ⟨rfl, hE3, hS3⟩ := hq; have q0 : h3.objs h.n = some (.cells (tabC zeroT .full .full .full)) := (hE3.objs _ (by omega) (by omega)).trans hz; unfold tabC at q0))
            all_goals exact ⟨⟨.full, .full, .full, rfl⟩, (Ext.thenX hE hE3 (fun i hi => by omega) (fun t ht => ht)).set (Nat.le_refl _) _⟩
    · have e0 : tparse (L.drop i) i n t = (t, 0, 0) := by rw [List.drop_eq_nil_of_le hil, tparse]
      rw [e0]
      unfold tabC at hob
      repeat' (first
    | ((with_reducible apply opsF.op rfl); (case hs => (first | exact tHT | exact tHS)))
    | with_reducible (first | apply opsF.nil | apply seqF.nn | apply vcF.seq | apply vcF.region | apply vcF.skip | apply vcF.block | apply vcF.exit | apply vcF.ret | apply vcF.loop | apply seqF.e | apply seqF.r | apply blkF.nn | apply blkF.e | apply blkF.r | apply blkF.o rfl)
    | ((with_reducible apply opsF.call); (case hx => exact tAG))
    | ((with_reducible apply opsF.want); (case hg => exact tEV); (case hb => exact tNB))
    | ((with_reducible apply opsF.skip); (case hg => exact tEV); (case hb => exact tNB))
    | (first | ((with_reducible apply opsF.case); (case hg => exact tEV)) | ((with_reducible apply vcF.cond); (case hx => exact tEV))) <;> ((intro hc; try simp only [Int.reduceLT, Int.reduceLE, Int.reduceEq, Int.reduceNe, Int.cast_ofNat_Int, Int.reduceNeg, decide_true, decide_false, not_true_eq_false, not_false_eq_true, decide_eq_true_eq, decide_eq_false_iff_not, Bool.not_eq_true', Bool.not_eq_false', Bool.not_true, Bool.not_false, Bool.false_eq_true, Bool.true_eq_false, Bool.not_eq_true, Bool.not_eq_false, beq_iff_eq, beq_eq_false_iff_ne, bne_iff_ne, bne_eq_false_iff_eq, ne_eq, Int.not_lt, Int.not_le, ge_iff_le, gt_iff_lt, Decidable.not_not, reduceCtorEq, *] at hc) <;> (try (exfalso; omega)))
    | ((with_reducible apply opsF.und); (case hg => rfl))
    | ((with_reducible apply retF.r); (case hv => exact tRS))
    | ((with_reducible apply retF.nn); (case hv => exact tRS)))
      all_goals exact ⟨⟨t1, t2, t3, rfl⟩, hE.set (Nat.le_refl _) _⟩
/-- The reference's Parse: the same tables. -/
theorem rtable_call (s : List UInt8) (h : AH) (hl : s.length ≤ 1000000000) : Call P w0 ref14_Parse [.v (.string (bs s))] h (fun v h' => v = tabV (tableS s) ∧ h' = h) :=
  Call.pure (tab_plain _) ((rparse_raw s h hl).weak fun v h' hq => by
    obtain ⟨⟨t1, t2, t3, rfl⟩, hE⟩ := hq
    exact ⟨tabV (tableS s), h', AV.le.tup (.cons (AV.le.agg (.cons AV.le.noTok (.cons AV.le.noTok (.cons AV.le.noTok (.refl _))))) (.refl _)), .refl _, rfl, hE⟩)
end Go.Abs.F
