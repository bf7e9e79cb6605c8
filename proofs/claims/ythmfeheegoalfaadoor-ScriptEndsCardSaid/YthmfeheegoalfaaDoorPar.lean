/- Layer 26: Parse. -/
import Derived.Test.YthmfeheegoalfaaDoorTxt
namespace Go.Abs.F
open Go Go.Abs
set_option maxRecDepth 10000
set_option maxHeartbeats 20000000
set_option linter.unusedSimpArgs false
set_option linter.unusedVariables false
variable {w0 : World}
theorem splB_mem {c : UInt8} : ∀ (n : Nat) {s w : List UInt8}, s.length ≤ n → w ∈ splB c s → w.length ≤ s.length
  | 0, [], w, _, h => by simp [splB] at h; simp [h]
  | n + 1, s, w, hn, h => by
    rcases cutB_cases c s with ⟨g1, _⟩ | ⟨a, r, rfl, g2, _⟩
    · rw [splB_miss g1] at h
      simp at h
      rw [h]; exact Nat.le_refl _
    · rw [splB_hit g2] at h
      simp only [List.length_append, List.length_cons] at hn ⊢
      rcases List.mem_cons.1 h with rfl | h
      · omega
      · have := splB_mem n (s := r) (by omega) h
        omega
theorem splB_len {c : UInt8} : ∀ (n : Nat) {s : List UInt8}, s.length ≤ n → (splB c s).length ≤ s.length + 1
  | 0, [], _ => by simp [splB]
  | n + 1, s, hn => by
    rcases cutB_cases c s with ⟨g1, _⟩ | ⟨a, r, rfl, g2, _⟩
    · rw [splB_miss g1]; simp
    · rw [splB_hit g2]
      simp only [List.length_append, List.length_cons] at hn ⊢
      have := splB_len n (s := r) (c := c) (by omega)
      omega
/-- The rows of steps. -/
def trows (l : List St) : List (List AV) := l.map fun x => [.v (.int .i64 x.1), .v (.int .i64 x.2.1), .v (.int .i64 x.2.2.1), .v (.string (bs x.2.2.2))]
theorem trows_len (l : List St) : (trows l).length = l.length := by simp [trows]
theorem trows_get (l : List St) (i : Nat) : (trows l)[i]? = (l[i]?).map fun x => [.v (.int .i64 x.1), .v (.int .i64 x.2.1), .v (.int .i64 x.2.2.1), .v (.string (bs x.2.2.2))] := by simp [trows]
def parFin (n : Int) (r : Nat × List St) : Int × List St × Nat := if r.1 = 0 then (n, r.2, 0) else (0, [], r.1)
theorem parseS_hit {a r : List UInt8} (ha : (10 : UInt8) ∉ a) {n : Int} (h : roomO (splB 32 a) = some n) : parseS (a ++ 10 :: r) = parFin n (parseT 2 r []) := by
  rw [parseS, cutB_hit ha]
  simp only [h, parFin]
theorem parseS_none {s : List UInt8} (h : roomO (splB 32 (cutB 10 s).1) = none ∨ (cutB 10 s).2.2 = false) : parseS s = (0, [], 1) := by
  rw [parseS]
  rcases h with h | h
  · rw [h]
  · rw [h]
    cases roomO (splB 32 (cutB 10 s).1) <;> rfl
def parV (r : Int × List St × Nat) (tk : Tok) : AV := .tup [.v (.int .i64 r.1), .list 4 (trows r.2.1) tk, .v (.int .i64 (r.2.2 : Nat)), .v (.int .i64 (if r.2.2 = 0 then 0 else 7))]
theorem parse_call (hT : PowTab w0) (hE : ErrVars w0) (s0 : List UInt8) (h : AH) (hl : s0.length ≤ 1000000000) : Call P w0 script_Parse [.v (.string (bs s0))] h
    (fun v h' => (∃ tk, v = parV (parseS s0) tk) ∧ Ext h h') := by
  have xl := srows_len
  have xg := srows_get
  have xtl := trows_len
  refine Call.bodyF b_script_Parse rfl rfl ?_
  unfold c_script_Parse
  repeat' (first
    | ((with_reducible apply opsF.op rfl); (case hs => (first | exact tHT | exact tHS)))
    | with_reducible (first | apply opsF.nil | apply seqF.nn | apply vcF.seq | apply vcF.region | apply vcF.dregion | apply vcF.skip | apply vcF.block | apply vcF.exit | apply vcF.ret | apply vcF.loop | apply seqF.e | apply seqF.r | apply blkF.nn | apply blkF.e | apply blkF.r | apply blkF.o rfl | apply dopsF.nil | apply stabsF.nil | apply stabsF.cons | apply dopsF.cont)
    | ((with_reducible apply opsF.call); (case hx => exact tAG))
    | ((with_reducible apply opsF.want); (case hg => exact tEV); (case hb => exact tNB))
    | ((with_reducible apply opsF.skip); (case hg => exact tEV); (case hb => exact tNB))
    | (first | ((with_reducible apply opsF.case); (case hg => exact tEV)) | ((with_reducible apply vcF.cond); (case hx => exact tEV)) | ((with_reducible apply dopsF.case); (case hg => exact tEV))) <;> ((intro hc; try simp only [Int.reduceLT, Int.reduceLE, Int.reduceEq, Int.reduceNe, Int.cast_ofNat_Int, Int.reduceNeg, decide_true, decide_false, not_true_eq_false, not_false_eq_true, decide_eq_true_eq, decide_eq_false_iff_not, Bool.not_eq_true', Bool.not_eq_false', Bool.not_true, Bool.not_false, Bool.false_eq_true, Bool.true_eq_false, Bool.not_eq_true, Bool.not_eq_false, beq_iff_eq, beq_eq_false_iff_ne, bne_iff_ne, bne_eq_false_iff_eq, ne_eq, Int.not_lt, Int.not_le, ge_iff_le, gt_iff_lt, Decidable.not_not, reduceCtorEq, *] at hc) <;> (try (exfalso; omega)))
    | ((with_reducible apply opsF.und); (case hg => rfl))
    | ((with_reducible apply opsF.callv); (case hf => exact tEV); (case hx => exact tCV))
    | ((with_reducible apply dopsF.op rfl); (case hs => (first | exact tHT | exact tHS)))
    | ((with_reducible apply dopsF.call); (case hx => exact tAG))
    | ((with_reducible apply dopsF.want); (case hg => exact tEV); (case hb => exact tNB))
    | ((with_reducible apply dopsF.skip); (case hg => exact tEV); (case hb => exact tNB))
    | ((with_reducible apply dopsF.und); (case hg => rfl))
    | ((with_reducible apply stabF.und); rfl)
    | ((with_reducible apply stabF.want); (case hg => exact tEV); (case hb => exact tNB))
    | ((with_reducible apply stabF.skip); (case hg => exact tEV); (case hb => exact tNB))
    | ((with_reducible apply stabF.op); (case hs => (first | exact tHT | exact tHS)); (case hv => exact tSV))
    | ((with_reducible apply retF.r); (case hv => exact tRS))
    | ((with_reducible apply retF.nn); (case hv => exact tRS)))
  refine LpF.ind rfl (fun i : Nat => s0.length + 1 - i) (fun i σ h' => ∃ (s : List UInt8) (k : Nat) (n : Int) (acc : List St) (tk : Tok), i = s0.length - s.length ∧ s.length ≤ s0.length ∧ k + s.length ≤ s0.length + 1 ∧ acc.length ≤ k ∧ Ext h h' ∧ σ 0 = .v (.string (bs s)) ∧ σ 2 = .v (.int .i64 n) ∧ σ 3 = .list 4 (trows acc) tk ∧ σ 4 = .v (.int .i64 (k : Nat)) ∧ σ 5 = .v (.int .i64 0) ∧ TokU h' tk ∧ (∀ t, tk.owner = some t → h.nt ≤ t) ∧
    ((k = 1 ∧ s = s0 ∧ acc = []) ∨ (2 ≤ k ∧ parseS s0 = parFin n (parseT k s acc)))) ?_ (i := 0)
    ⟨s0, 1, 0, [], .full, by omega, Nat.le_refl _, by omega, by simp, .refl _, rfl, rfl, rfl, rfl, rfl, trivial, (fun t ht => by cases ht), .inl ⟨rfl, rfl, rfl⟩⟩
  rintro i σ h' ⟨s, k, n, acc, tk, rfl, hs1, hk1, hacc, hEx, h0, h2, h3, h4, h5, hTk, hF, hcase⟩
  have hcut := fun h => cut_call (w0 := w0) s 10 h (by omega)
  rcases hcase with ⟨rfl, rfl, rfl⟩ | ⟨hk2, hS⟩
  · rcases cutB_cases 10 s with ⟨g1, g2⟩ | ⟨a, r, hsa, g2, g3⟩
    · rw [g2] at hcut
      have hbad : parseS s = (0, [], 1) := parseS_none (.inr (by rw [g2]))
      rw [hbad]
      have hsp := fun h => spl_call (w0 := w0) s 32 h (by omega)
      have hwl : (splB 32 s).length ≤ s.length + 1 := splB_len s.length (Nat.le_refl _)
      have hwn := List.length_pos_iff.2 (splB_ne 32 s)
      obtain ⟨lw, hlw⟩ : ∃ lw, (splB 32 s)[(splB 32 s).length - 1]? = some lw := ⟨_, List.getElem?_eq_getElem (by omega)⟩
      have hlwl := splB_mem s.length (Nat.le_refl _) (List.mem_of_getElem? hlw)
      generalize splB 32 s = ws at *
      have hi1 : ((ws.length : Int) - 1).toNat = ws.length - 1 := by omega
      rcases Classical.em (s = []) with rfl | hsne
      · repeat' (first
    | ((with_reducible apply opsF.op rfl); (case hs => (first | exact tHT | exact tHS)))
    | with_reducible (first | apply opsF.nil | apply seqF.nn | apply vcF.seq | apply vcF.region | apply vcF.dregion | apply vcF.skip | apply vcF.block | apply vcF.exit | apply vcF.ret | apply vcF.loop | apply seqF.e | apply seqF.r | apply blkF.nn | apply blkF.e | apply blkF.r | apply blkF.o rfl | apply dopsF.nil | apply stabsF.nil | apply stabsF.cons | apply dopsF.cont)
    | ((with_reducible apply opsF.call); (case hx => exact tAG))
    | ((with_reducible apply opsF.want); (case hg => exact tEV); (case hb => exact tNB))
    | ((with_reducible apply opsF.skip); (case hg => exact tEV); (case hb => exact tNB))
    | (first | ((with_reducible apply opsF.case); (case hg => exact tEV)) | ((with_reducible apply vcF.cond); (case hx => exact tEV)) | ((with_reducible apply dopsF.case); (case hg => exact tEV))) <;> ((intro hc; try simp only [Int.reduceLT, Int.reduceLE, Int.reduceEq, Int.reduceNe, Int.cast_ofNat_Int, Int.reduceNeg, decide_true, decide_false, not_true_eq_false, not_false_eq_true, decide_eq_true_eq, decide_eq_false_iff_not, Bool.not_eq_true', Bool.not_eq_false', Bool.not_true, Bool.not_false, Bool.false_eq_true, Bool.true_eq_false, Bool.not_eq_true, Bool.not_eq_false, beq_iff_eq, beq_eq_false_iff_ne, bne_iff_ne, bne_eq_false_iff_eq, ne_eq, Int.not_lt, Int.not_le, ge_iff_le, gt_iff_lt, Decidable.not_not, reduceCtorEq, *] at hc) <;> (try (exfalso; omega)))
    | ((with_reducible apply opsF.und); (case hg => rfl))
    | ((with_reducible apply opsF.callv); (case hf => exact tEV); (case hx => exact tCV))
    | ((with_reducible apply dopsF.op rfl); (case hs => (first | exact tHT | exact tHS)))
    | ((with_reducible apply dopsF.call); (case hx => exact tAG))
    | ((with_reducible apply dopsF.want); (case hg => exact tEV); (case hb => exact tNB))
    | ((with_reducible apply dopsF.skip); (case hg => exact tEV); (case hb => exact tNB))
    | ((with_reducible apply dopsF.und); (case hg => rfl))
    | ((with_reducible apply stabF.und); rfl)
    | ((with_reducible apply stabF.want); (case hg => exact tEV); (case hb => exact tNB))
    | ((with_reducible apply stabF.skip); (case hg => exact tEV); (case hb => exact tNB))
    | ((with_reducible apply stabF.op); (case hs => (first | exact tHT | exact tHS)); (case hv => exact tSV))
    | ((with_reducible apply retF.r); (case hv => exact tRS))
    | ((with_reducible apply retF.nn); (case hv => exact tRS))
    | ((refine (hcut _).mono fun v h1 hp => ?_); obtain ⟨rfl, rfl⟩ := hp)
    | ((refine (hsp _).mono fun v h2 hp => ?_); obtain ⟨rfl, he⟩ := hp; have hN := he.n; have hO := he.objs; (try simp only [alloc_n, set_n, newTok_n, bump_n] at hN hO))
    | ((refine (num_call hT hE lw _ (by omega)).mono fun v h1 hp => ?_); obtain ⟨hn1, rfl⟩ := hp; obtain ⟨k', rfl, hk2⟩ := NumP_ex hn1; clear hn1))
        all_goals exact ⟨⟨.full, rfl⟩, hEx.trans he⟩
      · repeat' (first
    | ((with_reducible apply opsF.op rfl); (case hs => (first | exact tHT | exact tHS)))
    | with_reducible (first | apply opsF.nil | apply seqF.nn | apply vcF.seq | apply vcF.region | apply vcF.dregion | apply vcF.skip | apply vcF.block | apply vcF.exit | apply vcF.ret | apply vcF.loop | apply seqF.e | apply seqF.r | apply blkF.nn | apply blkF.e | apply blkF.r | apply blkF.o rfl | apply dopsF.nil | apply stabsF.nil | apply stabsF.cons | apply dopsF.cont)
    | ((with_reducible apply opsF.call); (case hx => exact tAG))
    | ((with_reducible apply opsF.want); (case hg => exact tEV); (case hb => exact tNB))
    | ((with_reducible apply opsF.skip); (case hg => exact tEV); (case hb => exact tNB))
    | (first | ((with_reducible apply opsF.case); (case hg => exact tEV)) | ((with_reducible apply vcF.cond); (case hx => exact tEV)) | ((with_reducible apply dopsF.case); (case hg => exact tEV))) <;> ((intro hc; try simp only [Int.reduceLT, Int.reduceLE, Int.reduceEq, Int.reduceNe, Int.cast_ofNat_Int, Int.reduceNeg, decide_true, decide_false, not_true_eq_false, not_false_eq_true, decide_eq_true_eq, decide_eq_false_iff_not, Bool.not_eq_true', Bool.not_eq_false', Bool.not_true, Bool.not_false, Bool.false_eq_true, Bool.true_eq_false, Bool.not_eq_true, Bool.not_eq_false, beq_iff_eq, beq_eq_false_iff_ne, bne_iff_ne, bne_eq_false_iff_eq, ne_eq, Int.not_lt, Int.not_le, ge_iff_le, gt_iff_lt, Decidable.not_not, reduceCtorEq, *] at hc) <;> (try (exfalso; omega)))
    | ((with_reducible apply opsF.und); (case hg => rfl))
    | ((with_reducible apply opsF.callv); (case hf => exact tEV); (case hx => exact tCV))
    | ((with_reducible apply dopsF.op rfl); (case hs => (first | exact tHT | exact tHS)))
    | ((with_reducible apply dopsF.call); (case hx => exact tAG))
    | ((with_reducible apply dopsF.want); (case hg => exact tEV); (case hb => exact tNB))
    | ((with_reducible apply dopsF.skip); (case hg => exact tEV); (case hb => exact tNB))
    | ((with_reducible apply dopsF.und); (case hg => rfl))
    | ((with_reducible apply stabF.und); rfl)
    | ((with_reducible apply stabF.want); (case hg => exact tEV); (case hb => exact tNB))
    | ((with_reducible apply stabF.skip); (case hg => exact tEV); (case hb => exact tNB))
    | ((with_reducible apply stabF.op); (case hs => (first | exact tHT | exact tHS)); (case hv => exact tSV))
    | ((with_reducible apply retF.r); (case hv => exact tRS))
    | ((with_reducible apply retF.nn); (case hv => exact tRS))
    | ((refine (hcut _).mono fun v h1 hp => ?_); obtain ⟨rfl, rfl⟩ := hp)
    | ((refine (hsp _).mono fun v h2 hp => ?_); obtain ⟨rfl, he⟩ := hp; have hN := he.n; have hO := he.objs; (try simp only [alloc_n, set_n, newTok_n, bump_n] at hN hO))
    | ((refine (num_call hT hE lw _ (by omega)).mono fun v h1 hp => ?_); obtain ⟨hn1, rfl⟩ := hp; obtain ⟨k', rfl, hk2⟩ := NumP_ex hn1; clear hn1))
        all_goals exact ⟨⟨.full, rfl⟩, hEx.trans he⟩
    · have hsne : s ≠ [] := by rw [hsa]; simp
      have hsl : s.length = a.length + (r.length + 1) := by rw [hsa]; simp
      rw [g3] at hcut
      have hsp := fun h => spl_call (w0 := w0) a 32 h (by omega)
      have hwl : (splB 32 a).length ≤ a.length + 1 := splB_len a.length (Nat.le_refl _)
      have hwn := List.length_pos_iff.2 (splB_ne 32 a)
      obtain ⟨lw, hlw⟩ : ∃ lw, (splB 32 a)[(splB 32 a).length - 1]? = some lw := ⟨_, List.getElem?_eq_getElem (by omega)⟩
      have hlwl := splB_mem a.length (Nat.le_refl _) (List.mem_of_getElem? hlw)
      have hi1 : (((splB 32 a).length : Int) - 1).toNat = (splB 32 a).length - 1 := by omega
      cases hro : roomO (splB 32 a) with
      | none =>
        have hbad : parseS s = (0, [], 1) := parseS_none (.inl (by rw [g3]; exact hro))
        rw [hbad]
        obtain ⟨fw, hfw⟩ : ∃ fw, (splB 32 a)[0]? = some fw := ⟨_, List.getElem?_eq_getElem (by omega)⟩
        have hno : (splB 32 a).length = 2 → fw = [114, 111, 111, 109] → (numO lw).isSome = true → False := by
          intro e1 e2 e3
          generalize splB 32 a = ws at *
          match ws, e1 with
          | [u, v], _ =>
            simp at hfw hlw
            subst hfw hlw
            rw [roomO, if_pos e2] at hro
            rw [hro] at e3
            cases e3
        clear hsa
        generalize splB 32 a = ws at *
        repeat' (first
    | ((with_reducible apply opsF.op rfl); (case hs => (first | exact tHT | exact tHS)))
    | with_reducible (first | apply opsF.nil | apply seqF.nn | apply vcF.seq | apply vcF.region | apply vcF.dregion | apply vcF.skip | apply vcF.block | apply vcF.exit | apply vcF.ret | apply vcF.loop | apply seqF.e | apply seqF.r | apply blkF.nn | apply blkF.e | apply blkF.r | apply blkF.o rfl | apply dopsF.nil | apply stabsF.nil | apply stabsF.cons | apply dopsF.cont)
    | ((with_reducible apply opsF.call); (case hx => exact tAG))
    | ((with_reducible apply opsF.want); (case hg => exact tEV); (case hb => exact tNB))
    | ((with_reducible apply opsF.skip); (case hg => exact tEV); (case hb => exact tNB))
    | (first | ((with_reducible apply opsF.case); (case hg => exact tEV)) | ((with_reducible apply vcF.cond); (case hx => exact tEV)) | ((with_reducible apply dopsF.case); (case hg => exact tEV))) <;> ((intro hc; try simp only [Int.reduceLT, Int.reduceLE, Int.reduceEq, Int.reduceNe, Int.cast_ofNat_Int, Int.reduceNeg, decide_true, decide_false, not_true_eq_false, not_false_eq_true, decide_eq_true_eq, decide_eq_false_iff_not, Bool.not_eq_true', Bool.not_eq_false', Bool.not_true, Bool.not_false, Bool.false_eq_true, Bool.true_eq_false, Bool.not_eq_true, Bool.not_eq_false, beq_iff_eq, beq_eq_false_iff_ne, bne_iff_ne, bne_eq_false_iff_eq, ne_eq, Int.not_lt, Int.not_le, ge_iff_le, gt_iff_lt, Decidable.not_not, reduceCtorEq, *] at hc) <;> (try (exfalso; omega)))
    | ((with_reducible apply opsF.und); (case hg => rfl))
    | ((with_reducible apply opsF.callv); (case hf => exact tEV); (case hx => exact tCV))
    | ((with_reducible apply dopsF.op rfl); (case hs => (first | exact tHT | exact tHS)))
    | ((with_reducible apply dopsF.call); (case hx => exact tAG))
    | ((with_reducible apply dopsF.want); (case hg => exact tEV); (case hb => exact tNB))
    | ((with_reducible apply dopsF.skip); (case hg => exact tEV); (case hb => exact tNB))
    | ((with_reducible apply dopsF.und); (case hg => rfl))
    | ((with_reducible apply stabF.und); rfl)
    | ((with_reducible apply stabF.want); (case hg => exact tEV); (case hb => exact tNB))
    | ((with_reducible apply stabF.skip); (case hg => exact tEV); (case hb => exact tNB))
    | ((with_reducible apply stabF.op); (case hs => (first | exact tHT | exact tHS)); (case hv => exact tSV))
    | ((with_reducible apply retF.r); (case hv => exact tRS))
    | ((with_reducible apply retF.nn); (case hv => exact tRS))
    | ((refine (hcut _).mono fun v h1 hp => ?_); obtain ⟨rfl, rfl⟩ := hp)
    | ((refine (hsp _).mono fun v h2 hp => ?_); obtain ⟨rfl, he⟩ := hp; have hN := he.n; have hO := he.objs; (try simp only [alloc_n, set_n, newTok_n, bump_n] at hN hO))
    | ((refine (num_call hT hE lw _ (by omega)).mono fun v h1 hp => ?_); obtain ⟨hn1, rfl⟩ := hp; obtain ⟨k', rfl, hk2⟩ := NumP_ex hn1; clear hn1))
        all_goals first
          | exact ⟨⟨.full, rfl⟩, hEx.trans he⟩
          | exact (hno (by omega) (by assumption) (by assumption)).elim
      | some m =>
        obtain ⟨hw2, hfm⟩ := roomO_some hro
        have hlw2 : lw = decS m := by rw [hw2] at hlw; simpa using hlw.symm
        have hnm : numO lw = some m := by rw [hlw2]; exact numO_dec hfm
        have hwl2 : (splB 32 a).length = 2 := by rw [hw2]; rfl
        have hfw : (splB 32 a)[0]? = some [114, 111, 111, 109] := by rw [hw2]; rfl
        have hlw1 : (splB 32 a)[1]? = some lw := by rw [hwl2] at hlw; exact hlw
        have hi2 : (((2 : Nat) : Int) - 1).toNat = 1 := rfl
        clear hi1 hlw hlw2
        have hgo : parseS s = parFin m (parseT 2 r []) := by rw [hsa]; exact parseS_hit g2 hro
        clear hsa hw2 hro
        generalize splB 32 a = ws at *
        repeat' (first
    | ((with_reducible apply opsF.op rfl); (case hs => (first | exact tHT | exact tHS)))
    | with_reducible (first | apply opsF.nil | apply seqF.nn | apply vcF.seq | apply vcF.region | apply vcF.dregion | apply vcF.skip | apply vcF.block | apply vcF.exit | apply vcF.ret | apply vcF.loop | apply seqF.e | apply seqF.r | apply blkF.nn | apply blkF.e | apply blkF.r | apply blkF.o rfl | apply dopsF.nil | apply stabsF.nil | apply stabsF.cons | apply dopsF.cont)
    | ((with_reducible apply opsF.call); (case hx => exact tAG))
    | ((with_reducible apply opsF.want); (case hg => exact tEV); (case hb => exact tNB))
    | ((with_reducible apply opsF.skip); (case hg => exact tEV); (case hb => exact tNB))
    | (first | ((with_reducible apply opsF.case); (case hg => exact tEV)) | ((with_reducible apply vcF.cond); (case hx => exact tEV)) | ((with_reducible apply dopsF.case); (case hg => exact tEV))) <;> ((intro hc; try simp only [Int.reduceLT, Int.reduceLE, Int.reduceEq, Int.reduceNe, Int.cast_ofNat_Int, Int.reduceNeg, decide_true, decide_false, not_true_eq_false, not_false_eq_true, decide_eq_true_eq, decide_eq_false_iff_not, Bool.not_eq_true', Bool.not_eq_false', Bool.not_true, Bool.not_false, Bool.false_eq_true, Bool.true_eq_false, Bool.not_eq_true, Bool.not_eq_false, beq_iff_eq, beq_eq_false_iff_ne, bne_iff_ne, bne_eq_false_iff_eq, ne_eq, Int.not_lt, Int.not_le, ge_iff_le, gt_iff_lt, Decidable.not_not, reduceCtorEq, *] at hc) <;> (try (exfalso; omega)))
    | ((with_reducible apply opsF.und); (case hg => rfl))
    | ((with_reducible apply opsF.callv); (case hf => exact tEV); (case hx => exact tCV))
    | ((with_reducible apply dopsF.op rfl); (case hs => (first | exact tHT | exact tHS)))
    | ((with_reducible apply dopsF.call); (case hx => exact tAG))
    | ((with_reducible apply dopsF.want); (case hg => exact tEV); (case hb => exact tNB))
    | ((with_reducible apply dopsF.skip); (case hg => exact tEV); (case hb => exact tNB))
    | ((with_reducible apply dopsF.und); (case hg => rfl))
    | ((with_reducible apply stabF.und); rfl)
    | ((with_reducible apply stabF.want); (case hg => exact tEV); (case hb => exact tNB))
    | ((with_reducible apply stabF.skip); (case hg => exact tEV); (case hb => exact tNB))
    | ((with_reducible apply stabF.op); (case hs => (first | exact tHT | exact tHS)); (case hv => exact tSV))
    | ((with_reducible apply retF.r); (case hv => exact tRS))
    | ((with_reducible apply retF.nn); (case hv => exact tRS))
    | ((refine (hcut _).mono fun v h1 hp => ?_); obtain ⟨rfl, rfl⟩ := hp)
    | ((refine (hsp _).mono fun v h2 hp => ?_); obtain ⟨rfl, he⟩ := hp; have hN := he.n; have hO := he.objs; (try simp only [alloc_n, set_n, newTok_n, bump_n] at hN hO))
    | ((refine (num_call hT hE lw _ (by omega)).mono fun v h1 hp => ?_); obtain ⟨hn1, rfl⟩ := hp; simp only [NumP, hnm] at hn1; subst hn1))
        refine ⟨s.length - r.length, by omega, r, 2, m, [], tk, rfl, by omega, by omega, by simp, hEx.trans he, rfl, rfl, h3, rfl, h5, hTk.ext he, hF, .inr ⟨by omega, hgo⟩⟩
  · rcases Classical.em (s = []) with rfl | hsne
    · rw [parseT_nil] at hS
      rw [hS]
      repeat' (first
    | ((with_reducible apply opsF.op rfl); (case hs => (first | exact tHT | exact tHS)))
    | with_reducible (first | apply opsF.nil | apply seqF.nn | apply vcF.seq | apply vcF.region | apply vcF.dregion | apply vcF.skip | apply vcF.block | apply vcF.exit | apply vcF.ret | apply vcF.loop | apply seqF.e | apply seqF.r | apply blkF.nn | apply blkF.e | apply blkF.r | apply blkF.o rfl | apply dopsF.nil | apply stabsF.nil | apply stabsF.cons | apply dopsF.cont)
    | ((with_reducible apply opsF.call); (case hx => exact tAG))
    | ((with_reducible apply opsF.want); (case hg => exact tEV); (case hb => exact tNB))
    | ((with_reducible apply opsF.skip); (case hg => exact tEV); (case hb => exact tNB))
    | (first | ((with_reducible apply opsF.case); (case hg => exact tEV)) | ((with_reducible apply vcF.cond); (case hx => exact tEV)) | ((with_reducible apply dopsF.case); (case hg => exact tEV))) <;> ((intro hc; try simp only [Int.reduceLT, Int.reduceLE, Int.reduceEq, Int.reduceNe, Int.cast_ofNat_Int, Int.reduceNeg, decide_true, decide_false, not_true_eq_false, not_false_eq_true, decide_eq_true_eq, decide_eq_false_iff_not, Bool.not_eq_true', Bool.not_eq_false', Bool.not_true, Bool.not_false, Bool.false_eq_true, Bool.true_eq_false, Bool.not_eq_true, Bool.not_eq_false, beq_iff_eq, beq_eq_false_iff_ne, bne_iff_ne, bne_eq_false_iff_eq, ne_eq, Int.not_lt, Int.not_le, ge_iff_le, gt_iff_lt, Decidable.not_not, reduceCtorEq, *] at hc) <;> (try (exfalso; omega)))
    | ((with_reducible apply opsF.und); (case hg => rfl))
    | ((with_reducible apply opsF.callv); (case hf => exact tEV); (case hx => exact tCV))
    | ((with_reducible apply dopsF.op rfl); (case hs => (first | exact tHT | exact tHS)))
    | ((with_reducible apply dopsF.call); (case hx => exact tAG))
    | ((with_reducible apply dopsF.want); (case hg => exact tEV); (case hb => exact tNB))
    | ((with_reducible apply dopsF.skip); (case hg => exact tEV); (case hb => exact tNB))
    | ((with_reducible apply dopsF.und); (case hg => rfl))
    | ((with_reducible apply stabF.und); rfl)
    | ((with_reducible apply stabF.want); (case hg => exact tEV); (case hb => exact tNB))
    | ((with_reducible apply stabF.skip); (case hg => exact tEV); (case hb => exact tNB))
    | ((with_reducible apply stabF.op); (case hs => (first | exact tHT | exact tHS)); (case hv => exact tSV))
    | ((with_reducible apply retF.r); (case hv => exact tRS))
    | ((with_reducible apply retF.nn); (case hv => exact tRS)))
      all_goals exact ⟨⟨tk, rfl⟩, hEx⟩
    rcases cutB_cases 10 s with ⟨g1, g2⟩ | ⟨a, r, hsa, g2, g3⟩
    · rw [g2] at hcut
      rw [parseT_cut g1 hsne] at hS
      have hbad : parseS s0 = (0, [], k) := by rw [hS, parFin, if_neg (by simp only []; omega)]
      rw [hbad]
      have hpv : ∀ tk, parV (0, [], k) tk = .tup [.v (.int .i64 0), .list 4 [] tk, .v (.int .i64 (k : Nat)), .v (.int .i64 7)] := fun tk => by
        rw [parV, if_neg (by simp only []; omega)]; rfl
      simp only [hpv]
      have hsp := fun h => spl_call (w0 := w0) s 32 h (by omega)
      have hwl : (splB 32 s).length ≤ s.length + 1 := splB_len s.length (Nat.le_refl _)
      have hwm : ∀ w ∈ splB 32 s, w.length ≤ 1000000000000 := fun w hw => by
        have := splB_mem s.length (Nat.le_refl _) hw
        omega
      generalize splB 32 s = ws at *
      repeat' (first
    | ((with_reducible apply opsF.op rfl); (case hs => (first | exact tHT | exact tHS)))
    | with_reducible (first | apply opsF.nil | apply seqF.nn | apply vcF.seq | apply vcF.region | apply vcF.dregion | apply vcF.skip | apply vcF.block | apply vcF.exit | apply vcF.ret | apply vcF.loop | apply seqF.e | apply seqF.r | apply blkF.nn | apply blkF.e | apply blkF.r | apply blkF.o rfl | apply dopsF.nil | apply stabsF.nil | apply stabsF.cons | apply dopsF.cont)
    | ((with_reducible apply opsF.call); (case hx => exact tAG))
    | ((with_reducible apply opsF.want); (case hg => exact tEV); (case hb => exact tNB))
    | ((with_reducible apply opsF.skip); (case hg => exact tEV); (case hb => exact tNB))
    | (first | ((with_reducible apply opsF.case); (case hg => exact tEV)) | ((with_reducible apply vcF.cond); (case hx => exact tEV)) | ((with_reducible apply dopsF.case); (case hg => exact tEV))) <;> ((intro hc; try simp only [Int.reduceLT, Int.reduceLE, Int.reduceEq, Int.reduceNe, Int.cast_ofNat_Int, Int.reduceNeg, decide_true, decide_false, not_true_eq_false, not_false_eq_true, decide_eq_true_eq, decide_eq_false_iff_not, Bool.not_eq_true', Bool.not_eq_false', Bool.not_true, Bool.not_false, Bool.false_eq_true, Bool.true_eq_false, Bool.not_eq_true, Bool.not_eq_false, beq_iff_eq, beq_eq_false_iff_ne, bne_iff_ne, bne_eq_false_iff_eq, ne_eq, Int.not_lt, Int.not_le, ge_iff_le, gt_iff_lt, Decidable.not_not, reduceCtorEq, *] at hc) <;> (try (exfalso; omega)))
    | ((with_reducible apply opsF.und); (case hg => rfl))
    | ((with_reducible apply opsF.callv); (case hf => exact tEV); (case hx => exact tCV))
    | ((with_reducible apply dopsF.op rfl); (case hs => (first | exact tHT | exact tHS)))
    | ((with_reducible apply dopsF.call); (case hx => exact tAG))
    | ((with_reducible apply dopsF.want); (case hg => exact tEV); (case hb => exact tNB))
    | ((with_reducible apply dopsF.skip); (case hg => exact tEV); (case hb => exact tNB))
    | ((with_reducible apply dopsF.und); (case hg => rfl))
    | ((with_reducible apply stabF.und); rfl)
    | ((with_reducible apply stabF.want); (case hg => exact tEV); (case hb => exact tNB))
    | ((with_reducible apply stabF.skip); (case hg => exact tEV); (case hb => exact tNB))
    | ((with_reducible apply stabF.op); (case hs => (first | exact tHT | exact tHS)); (case hv => exact tSV))
    | ((with_reducible apply retF.r); (case hv => exact tRS))
    | ((with_reducible apply retF.nn); (case hv => exact tRS))
    | ((refine (hcut _).mono fun v h1 hp => ?_); obtain ⟨rfl, rfl⟩ := hp)
    | ((refine (hsp _).mono fun v h2 hp => ?_); obtain ⟨rfl, he⟩ := hp; have hN := he.n; have hO := he.objs; (try simp only [alloc_n, set_n, newTok_n, bump_n] at hN hO))
    | ((refine (step_call hT hE ws .no _ hwm (by omega)).mono fun v h2 hp => ?_); obtain ⟨⟨x, rfl, hx⟩, he2⟩ := hp; have hN := he2.n; have hO := he2.objs; (try simp only [alloc_n, set_n, newTok_n, bump_n] at hN hO); have hTk2 : TokU ((h2.alloc (.cells [.v (.int .i64 0), .v (.int .i64 0), .v (.int .i64 0), .v (.string (bs []))])).set h2.n (.cells [.v (.int .i64 x.1), .v (.int .i64 x.2.1), .v (.int .i64 x.2.2.1), .v (.string (bs x.2.2.2))])) tk := ((hTk.ext (he.trans he2)).alloc).set; obtain ⟨tk1, h6, hap, hT2, hT3, hT4, hT5, hT6⟩ := hTk2.app))
      all_goals exact ⟨⟨.full, rfl⟩, Ext.transX (hEx.trans (he.trans (he2.trans ((Ext.alloc _ _).set (Nat.le_refl _) _)))) hT6 (fun _ x => x.elim) hF⟩
    · have hsl : s.length = a.length + (r.length + 1) := by rw [hsa]; simp
      rw [g3] at hcut
      have hsp := fun h => spl_call (w0 := w0) a 32 h (by omega)
      have hwl : (splB 32 a).length ≤ a.length + 1 := splB_len a.length (Nat.le_refl _)
      have hwm : ∀ w ∈ splB 32 a, w.length ≤ 1000000000000 := fun w hw => by
        have := splB_mem a.length (Nat.le_refl _) hw
        omega
      cases hst : stepO (splB 32 a) with
      | none =>
        rw [hsa, parseT_bad g2 hst] at hS
        have hbad : parseS s0 = (0, [], k) := by rw [hS, parFin, if_neg (by simp only []; omega)]
        rw [hbad]
        have hpv : ∀ tk, parV (0, [], k) tk = .tup [.v (.int .i64 0), .list 4 [] tk, .v (.int .i64 (k : Nat)), .v (.int .i64 7)] := fun tk => by
          rw [parV, if_neg (by simp only []; omega)]; rfl
        simp only [hpv]
        have hso : (stepO (splB 32 a)).isSome = false := by rw [hst]; rfl
        clear hsa hst hS
        generalize splB 32 a = ws at *
        repeat' (first
    | ((with_reducible apply opsF.op rfl); (case hs => (first | exact tHT | exact tHS)))
    | with_reducible (first | apply opsF.nil | apply seqF.nn | apply vcF.seq | apply vcF.region | apply vcF.dregion | apply vcF.skip | apply vcF.block | apply vcF.exit | apply vcF.ret | apply vcF.loop | apply seqF.e | apply seqF.r | apply blkF.nn | apply blkF.e | apply blkF.r | apply blkF.o rfl | apply dopsF.nil | apply stabsF.nil | apply stabsF.cons | apply dopsF.cont)
    | ((with_reducible apply opsF.call); (case hx => exact tAG))
    | ((with_reducible apply opsF.want); (case hg => exact tEV); (case hb => exact tNB))
    | ((with_reducible apply opsF.skip); (case hg => exact tEV); (case hb => exact tNB))
    | (first | ((with_reducible apply opsF.case); (case hg => exact tEV)) | ((with_reducible apply vcF.cond); (case hx => exact tEV)) | ((with_reducible apply dopsF.case); (case hg => exact tEV))) <;> ((intro hc; try simp only [Int.reduceLT, Int.reduceLE, Int.reduceEq, Int.reduceNe, Int.cast_ofNat_Int, Int.reduceNeg, decide_true, decide_false, not_true_eq_false, not_false_eq_true, decide_eq_true_eq, decide_eq_false_iff_not, Bool.not_eq_true', Bool.not_eq_false', Bool.not_true, Bool.not_false, Bool.false_eq_true, Bool.true_eq_false, Bool.not_eq_true, Bool.not_eq_false, beq_iff_eq, beq_eq_false_iff_ne, bne_iff_ne, bne_eq_false_iff_eq, ne_eq, Int.not_lt, Int.not_le, ge_iff_le, gt_iff_lt, Decidable.not_not, reduceCtorEq, *] at hc) <;> (try (exfalso; omega)))
    | ((with_reducible apply opsF.und); (case hg => rfl))
    | ((with_reducible apply opsF.callv); (case hf => exact tEV); (case hx => exact tCV))
    | ((with_reducible apply dopsF.op rfl); (case hs => (first | exact tHT | exact tHS)))
    | ((with_reducible apply dopsF.call); (case hx => exact tAG))
    | ((with_reducible apply dopsF.want); (case hg => exact tEV); (case hb => exact tNB))
    | ((with_reducible apply dopsF.skip); (case hg => exact tEV); (case hb => exact tNB))
    | ((with_reducible apply dopsF.und); (case hg => rfl))
    | ((with_reducible apply stabF.und); rfl)
    | ((with_reducible apply stabF.want); (case hg => exact tEV); (case hb => exact tNB))
    | ((with_reducible apply stabF.skip); (case hg => exact tEV); (case hb => exact tNB))
    | ((with_reducible apply stabF.op); (case hs => (first | exact tHT | exact tHS)); (case hv => exact tSV))
    | ((with_reducible apply retF.r); (case hv => exact tRS))
    | ((with_reducible apply retF.nn); (case hv => exact tRS))
    | ((refine (hcut _).mono fun v h1 hp => ?_); obtain ⟨rfl, rfl⟩ := hp)
    | ((refine (hsp _).mono fun v h2 hp => ?_); obtain ⟨rfl, he⟩ := hp; have hN := he.n; have hO := he.objs; (try simp only [alloc_n, set_n, newTok_n, bump_n] at hN hO))
    | ((refine (step_call hT hE ws .no _ hwm (by omega)).mono fun v h2 hp => ?_); obtain ⟨⟨x, rfl, hx⟩, he2⟩ := hp; have hN := he2.n; have hO := he2.objs; (try simp only [alloc_n, set_n, newTok_n, bump_n] at hN hO); have hTk2 : TokU ((h2.alloc (.cells [.v (.int .i64 0), .v (.int .i64 0), .v (.int .i64 0), .v (.string (bs []))])).set h2.n (.cells [.v (.int .i64 x.1), .v (.int .i64 x.2.1), .v (.int .i64 x.2.2.1), .v (.string (bs x.2.2.2))])) tk := ((hTk.ext (he.trans he2)).alloc).set; obtain ⟨tk1, h6, hap, hT2, hT3, hT4, hT5, hT6⟩ := hTk2.app))
        all_goals exact ⟨⟨.full, rfl⟩, Ext.transX (hEx.trans (he.trans (he2.trans ((Ext.alloc _ _).set (Nat.le_refl _) _)))) hT6 (fun _ x => x.elim) hF⟩
      | some y =>
        rw [hsa, parseT_ok g2 hst] at hS
        have hso : (stepO (splB 32 a)).isSome = true := by rw [hst]; rfl
        have hsy : ∀ x, (∀ y, stepO (splB 32 a) = some y → x = y) → x = y := fun x hx => hx y hst
        clear hsa hst
        generalize splB 32 a = ws at *
        repeat' (first
    | ((with_reducible apply opsF.op rfl); (case hs => (first | exact tHT | exact tHS)))
    | with_reducible (first | apply opsF.nil | apply seqF.nn | apply vcF.seq | apply vcF.region | apply vcF.dregion | apply vcF.skip | apply vcF.block | apply vcF.exit | apply vcF.ret | apply vcF.loop | apply seqF.e | apply seqF.r | apply blkF.nn | apply blkF.e | apply blkF.r | apply blkF.o rfl | apply dopsF.nil | apply stabsF.nil | apply stabsF.cons | apply dopsF.cont)
    | ((with_reducible apply opsF.call); (case hx => exact tAG))
    | ((with_reducible apply opsF.want); (case hg => exact tEV); (case hb => exact tNB))
    | ((with_reducible apply opsF.skip); (case hg => exact tEV); (case hb => exact tNB))
    | (first | ((with_reducible apply opsF.case); (case hg => exact tEV)) | ((with_reducible apply vcF.cond); (case hx => exact tEV)) | ((with_reducible apply dopsF.case); (case hg => exact tEV))) <;> ((intro hc; try simp only [Int.reduceLT, Int.reduceLE, Int.reduceEq, Int.reduceNe, Int.cast_ofNat_Int, Int.reduceNeg, decide_true, decide_false, not_true_eq_false, not_false_eq_true, decide_eq_true_eq, decide_eq_false_iff_not, Bool.not_eq_true', Bool.not_eq_false', Bool.not_true, Bool.not_false, Bool.false_eq_true, Bool.true_eq_false, Bool.not_eq_true, Bool.not_eq_false, beq_iff_eq, beq_eq_false_iff_ne, bne_iff_ne, bne_eq_false_iff_eq, ne_eq, Int.not_lt, Int.not_le, ge_iff_le, gt_iff_lt, Decidable.not_not, reduceCtorEq, *] at hc) <;> (try (exfalso; omega)))
    | ((with_reducible apply opsF.und); (case hg => rfl))
    | ((with_reducible apply opsF.callv); (case hf => exact tEV); (case hx => exact tCV))
    | ((with_reducible apply dopsF.op rfl); (case hs => (first | exact tHT | exact tHS)))
    | ((with_reducible apply dopsF.call); (case hx => exact tAG))
    | ((with_reducible apply dopsF.want); (case hg => exact tEV); (case hb => exact tNB))
    | ((with_reducible apply dopsF.skip); (case hg => exact tEV); (case hb => exact tNB))
    | ((with_reducible apply dopsF.und); (case hg => rfl))
    | ((with_reducible apply stabF.und); rfl)
    | ((with_reducible apply stabF.want); (case hg => exact tEV); (case hb => exact tNB))
    | ((with_reducible apply stabF.skip); (case hg => exact tEV); (case hb => exact tNB))
    | ((with_reducible apply stabF.op); (case hs => (first | exact tHT | exact tHS)); (case hv => exact tSV))
    | ((with_reducible apply retF.r); (case hv => exact tRS))
    | ((with_reducible apply retF.nn); (case hv => exact tRS))
    | ((refine (hcut _).mono fun v h1 hp => ?_); obtain ⟨rfl, rfl⟩ := hp)
    | ((refine (hsp _).mono fun v h2 hp => ?_); obtain ⟨rfl, he⟩ := hp; have hN := he.n; have hO := he.objs; (try simp only [alloc_n, set_n, newTok_n, bump_n] at hN hO))
    | ((refine (step_call hT hE ws .no _ hwm (by omega)).mono fun v h2 hp => ?_); obtain ⟨⟨x, rfl, hx⟩, he2⟩ := hp; have hN := he2.n; have hO := he2.objs; (try simp only [alloc_n, set_n, newTok_n, bump_n] at hN hO); have hTk2 : TokU ((h2.alloc (.cells [.v (.int .i64 0), .v (.int .i64 0), .v (.int .i64 0), .v (.string (bs []))])).set h2.n (.cells [.v (.int .i64 x.1), .v (.int .i64 x.2.1), .v (.int .i64 x.2.2.1), .v (.string (bs x.2.2.2))])) tk := ((hTk.ext (he.trans he2)).alloc).set; obtain ⟨tk1, h6, hap, hT2, hT3, hT4, hT5, hT6⟩ := hTk2.app))
        obtain rfl := hsy x hx
        refine ⟨s0.length - r.length, by omega, r, k + 1, n, acc ++ [x], tk1, rfl, by omega, by omega, by simp; omega, Ext.transX (hEx.trans (he.trans (he2.trans ((Ext.alloc _ _).set (Nat.le_refl _) _)))) hT6 (fun _ x => x.elim) hF, rfl, by assumption, ?_, rfl, h5, hT2, ?_, .inr ⟨by omega, hS⟩⟩
        · conv => lhs; whnf
          simp [trows]
        · intro t ht
          rcases hT3 t ht with hz | hz
          · exact hF t hz
          · exact Nat.le_trans (hEx.trans (he.trans he2)).nt hz
end Go.Abs.F
